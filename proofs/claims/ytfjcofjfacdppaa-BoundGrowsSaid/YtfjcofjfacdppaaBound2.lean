/- agrees. -/
import Derived.Test.YtfjcofjfacdppaaBound
namespace Go.Proofs.Ytfjcofjfacdppaa
open Go Go.RowKit

theorem service_any (a b c d e f g : Int) (w : World) : Calls Try.prog 42 #[cfg a b c d e f g] w fun e' w' => e' = .returned (.int .i64 (queryZ a b c d e f g d e 256)) ∧ Ext No w w' := by
  go_enter Try.func42, Try.ntmps42
  go_wp2_with (go_at_call 31; refine (query_any _ _ _ _ _ _ _ _ _ _ _).mono ?_; rintro e' w1 ⟨rfl, hx⟩)
  go_ret
  exact ⟨rfl, ((Ext.refl _ _).alloc _).trans hx⟩

set_option maxRecDepth 100000 in
set_option maxHeartbeats 1000000 in
theorem agrees_any (a b c d e f g n m t : Int) (w : World) : Calls Try.prog 35 #[cfg a b c d e f g, .int .i64 n, .int .i64 m, .int .i64 t] w fun e' w' => e' = .returned (.bool true) ∧ Ext No w w' := by
  go_enter Try.func35, Try.ntmps35
  go_wp2_with fail
  go_region_held3 (fun w' => w'.cell? ⟨w.heap.size, 0, none⟩ = some (.int .i64 a) ∧ w'.cell? ⟨w.heap.size, 1, none⟩ = some (.int .i64 b) ∧ w'.cell? ⟨w.heap.size, 2, none⟩ = some (.int .i64 c) ∧ w'.cell? ⟨w.heap.size, 3, none⟩ = some (.int .i64 d) ∧ w'.cell? ⟨w.heap.size, 4, none⟩ = some (.int .i64 e) ∧ w'.cell? ⟨w.heap.size, 5, none⟩ = some (.int .i64 f) ∧ w'.cell? ⟨w.heap.size, 6, none⟩ = some (.int .i64 g))
    (first | go_keep | (go_split_ands; exact ⟨Ext.keep hx (by assumption), Ext.keep hx (by assumption), Ext.keep hx (by assumption), Ext.keep hx (by assumption), Ext.keep hx (by assumption), Ext.keep hx (by assumption), Ext.keep hx (by assumption)⟩))
    (first | (go_at_call 37; refine (valid_any _ _ _ _ _ _ _ _).mono ?_; rintro e' w1 ⟨rfl, hx⟩) | (go_at_call 38; refine (rvalid_any _ _ _ _ _ _ _ _).mono ?_; rintro e' w1 ⟨rfl, hx⟩) | (go_at_call 32; refine (steps_any _ _ _ _).mono ?_; rintro e' w1 ⟨rfl, rfl⟩) | (go_at_call 39; refine (rsteps_any _ _ _ _).mono ?_; rintro e' w1 ⟨rfl, rfl⟩) | (go_at_call 33; refine (cost_any _ _ _ _).mono ?_; rintro e' w1 ⟨rfl, rfl⟩) | (go_at_call 40; refine (rcost_any _ _ _ _).mono ?_; rintro e' w1 ⟨rfl, rfl⟩) | (go_at_call 31; refine (query_any _ _ _ _ _ _ _ _ _ _ _).mono ?_; rintro e' w1 ⟨rfl, hx⟩) | (go_at_call 41; refine (rquery_any _ _ _ _ _ _ _ _ _ _ _).mono ?_; rintro e' w1 ⟨rfl, hx⟩) | (go_at_call 42; refine (service_any _ _ _ _ _ _ _ _).mono ?_; rintro e' w1 ⟨rfl, hx⟩))
  go_wp2
  go_ret
  refine ⟨rfl, ?_⟩
  repeat (first | (with_reducible exact ((Ext.refl _ _).alloc _).drew) | (with_reducible exact ((Ext.refl _ _).alloc _)) | refine Ext.trans ?_ (by with_reducible assumption))
end Go.Proofs.Ytfjcofjfacdppaa
