/- large: some answer, nothing changed. -/
import Derived.Test.YtgakojgkkdmabaaDoorSt3
set_option linter.unusedVariables false
set_option linter.unusedSimpArgs false
namespace Go.Proofs.YtgakojgkkdmabaaDoor
open Go Go.RowKit
set_option maxRecDepth 100000 in
set_option maxHeartbeats 4000000 in
theorem large_any (r : RawT) (g1 k1 c1 : Value) (W : World) (h : RawTAt No W g1 k1 c1 r) :
  Calls Tryd.prog 20 #[.agg #[.int .i64 r.gen.width, g1, .int .i64 r.kill.width, k1, c1]] W (fun e w' => ∃ b, BoolPost b W e w') := by
 obtain ⟨ag, cg, rfl⟩ := h.gen.slice
 obtain ⟨ak, ck, rfl⟩ := h.kill.slice
 obtain ⟨ac, cc, rfl⟩ := Row.slice h.copies
 clear h
 have hE : Ext No W (W.alloc (.cells #[.int .i64 r.gen.width, .slice ag r.gen.words.length cg, .int .i64 r.kill.width, .slice ak r.kill.words.length ck, .slice ac r.copies.length cc] 28)) := (Ext.refl _ _).alloc _
 have HE := Lib.hid hE
 clear hE
 generalize r.gen.width = x at *
 generalize r.copies.length = y at *
 generalize r.gen.words.length = z at *
 generalize r.kill.words.length = v at *
 go_enter Tryd.func20, Tryd.ntmps20
 by_cases h1 : (16 : Int) < x
 ·go_wp2_with fail
  go_ret
  first | exact ⟨_, rfl, HE.out⟩ | exact .inr ⟨rfl, HE.out⟩ | exact .inl ⟨rfl, HE.out⟩
 by_cases h2 : (40 : Int) < (y : Int)
 ·go_wp2_with fail
  go_ret
  first | exact ⟨_, rfl, HE.out⟩ | exact .inr ⟨rfl, HE.out⟩ | exact .inl ⟨rfl, HE.out⟩
 by_cases h3 : (9 : Int) < (z : Int)
 ·go_wp2_with fail
  go_ret
  first | exact ⟨_, rfl, HE.out⟩ | exact .inr ⟨rfl, HE.out⟩ | exact .inl ⟨rfl, HE.out⟩
 by_cases h4 : (9 : Int) < (v : Int)
 ·go_wp2_with fail
  go_ret
  first | exact ⟨_, rfl, HE.out⟩ | exact .inr ⟨rfl, HE.out⟩ | exact .inl ⟨rfl, HE.out⟩
 ·go_wp2_with fail
  go_ret
  first | exact ⟨_, rfl, HE.out⟩ | exact .inr ⟨rfl, HE.out⟩ | exact .inl ⟨rfl, HE.out⟩
end Go.Proofs.YtgakojgkkdmabaaDoor
