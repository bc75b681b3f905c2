/- huge.Add, huge.Sub, huge.Of, huge.Cmp: what they compute. -/
import Derived.Test.YtjikhdjkpagjmaaHuge
namespace Go.Proofs.Ytjikhdjkpagjmaa.Huge
open Go.RowKit
set_option linter.unusedVariables false
set_option linter.unusedSimpArgs false

set_option maxHeartbeats 2000000 in
set_option maxRecDepth 100000 in
theorem add_calls {x y : Int} (hx : U256 x) (hy : U256 y) (w : World) : Calls Try.prog 30 #[A4 x, A4 y] w
    fun e w' => e = .returned (.tuple #[A4 (addN x y), .int .i64 (addE x y)]) ∧ Below w.heap.size w w' := by
  go_enter Try.func30, Try.ntmps30
  go_wp2_with (go_at_call 17; refine (chainAdd hx hy _).mono ?_; rintro e w1 ⟨rfl, hb1⟩; obtain ⟨hcl1, hfz1⟩ := bcell hb1; have hbw1 := below_then (w := w) (by repeat (first | exact Below.refl _ _ | assumption | apply bdrewN | apply below_drew1 | apply below_al | (refine below_set (by simp <;> omega) ?_))) hb1; have hz1 := hb1.size; simp only [World.size_alloc, go_sem] at hz1; clear hb1)
  refine bodyPost_ret (v := .tuple #[A4 (addN x y), .int .i64 (addE x y)]) (by simp [results, Try.results30, go_sem, hcl1]) rfl ⟨rfl, ?_⟩
  repeat (first | exact Below.refl _ _ | assumption | apply bdrewN | apply below_drew1 | apply below_al | (refine below_set (by simp <;> omega) ?_))

set_option maxHeartbeats 2000000 in
set_option maxRecDepth 100000 in
theorem sub_calls {x y : Int} (hx : U256 x) (hy : U256 y) (w : World) : Calls Try.prog 12 #[A4 x, A4 y] w
    fun e w' => e = .returned (.tuple #[A4 (subN x y), .int .i64 (subE x y)]) ∧ Below w.heap.size w w' := by
  go_enter Try.func12, Try.ntmps12
  go_wp2_with (go_at_call 17; refine (chainSub hx hy _).mono ?_; rintro e w1 ⟨rfl, hb1⟩; obtain ⟨hcl1, hfz1⟩ := bcell hb1; have hbw1 := below_then (w := w) (by repeat (first | exact Below.refl _ _ | assumption | apply bdrewN | apply below_drew1 | apply below_al | (refine below_set (by simp <;> omega) ?_))) hb1; have hz1 := hb1.size; simp only [World.size_alloc, go_sem] at hz1; clear hb1)
  refine bodyPost_ret (v := .tuple #[A4 (subN x y), .int .i64 (subE x y)]) (by simp [results, Try.results12, go_sem, hcl1]) rfl ⟨rfl, ?_⟩
  repeat (first | exact Below.refl _ _ | assumption | apply bdrewN | apply below_drew1 | apply below_al | (refine below_set (by simp <;> omega) ?_))











end Go.Proofs.Ytjikhdjkpagjmaa.Huge
