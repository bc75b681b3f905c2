/- wide.step: a limb of a quotient (1 limbs), as it computes it. -/
import Derived.Test.YtgjdegahofoalaaRow
import Derived.Test.YtgjdegahofoalaaLimb
import Derived.Test.YtgjdegahofoalaaSets
import Derived.Test.YtgjdegahofoalaaNum
set_option linter.unusedVariables false
set_option linter.unusedSimpArgs false
namespace Go.Proofs.Ytgjdegahofoalaa.Wide
open Go.RowKit

set_option maxHeartbeats 4000000 in
set_option maxRecDepth 100000 in
theorem step_walk_1_0 (bu off bv cu cv : Nat) (u0 u1 v0 g x0 o1 s0 b1 s1 bb rr : Int) (w : World) (hne : ¬ bv = bu) (D : Hid (∀ w, Calls Try.prog 42 #[.int .u64 u1, .int .u64 u0, .int .u64 v0] w fun e w' => e = .returned (.tuple #[.int .u64 g, .int .u64 rr, .int .i64 0]) ∧ ∃ n, w' = w.drewN n))
    (cu0 : w.cell? ⟨bu, off, none⟩ = some (.int .u64 u0)) (fu0 : w.frozen? ⟨bu, off, none⟩ = false) (uu0 : U64 u0)
    (cu1 : w.cell? ⟨bu, off + 1, none⟩ = some (.int .u64 u1)) (fu1 : w.frozen? ⟨bu, off + 1, none⟩ = false) (uu1 : U64 u1)
    (cv0 : w.cell? ⟨bv, 0, none⟩ = some (.int .u64 v0)) (uv0 : U64 v0)
    (ug : U64 g)
    (ex0 : lo (lo (g * v0)) = x0) (eo1 : IntKind.u64.wrap (hi (g * v0) + hi (lo (g * v0))) = o1) (es0 : lo (u0 - x0) = s0) (eb1 : -hi (u0 - x0) = b1) (ux0 : U64 x0) (uo1 : U64 o1) (us0 : U64 s0) (ub1 : bit01 b1)
    (es1 : lo (u1 - o1 - b1) = s1) (ebb : -hi (u1 - o1 - b1) = bb) (us1 : U64 s1)
    (tz : (bb == 0) = true) :
    Calls Try.prog 40 #[.slice (some ⟨bu, off, none⟩) 2 cu, .slice (some ⟨bv, 0, none⟩) 1 cv] w fun e w' => e = .returned (.int .u64 g) ∧ ∃ n, w' = ((w.setCell ⟨bu, off, none⟩ (.int .u64 s0)).setCell ⟨bu, off + 1, none⟩ (.int .u64 s1)).drewN n := by
  have wk : IntKind.i64.wrap 0 = 0 := by rfl
  go_enter Try.func40, Try.ntmps40
  go_wp2_with fail
  refine wp_scope_rounds 0 1 rfl ?_
  go_wp2_with fail
  go_region_held3 (fun w' => w'.cell? ⟨bu, off + 1, none⟩ = some (.int .u64 u1) ∧ w'.cell? ⟨bu, off, none⟩ = some (.int .u64 u0) ∧ w'.cell? ⟨bv, 0, none⟩ = some (.int .u64 v0)) ((refine ⟨?_, ?_, ?_⟩; all_goals go_simp))
    (first | (go_at_call 42; refine (D.out _).mono ?_; rintro e w1 ⟨rfl, n1, rfl⟩))
  go_wp2_with fail
  refine wp_loop_rounds 2 ?_
  rw [rounds_succ]
  go_wp2_with fail
  refine (Limb.mul_calls ug uv0 _).mono ?_
  rintro e w' ⟨rfl, rfl⟩
  go_wp2_with fail
  refine (Limb.add_calls (lo_u _) ⟨by decide, by decide⟩ (.inl rfl) _).mono ?_
  rintro e w' ⟨rfl, rfl⟩
  go_wp2_with fail
  refine (Limb.sub_calls uu0 ux0 (.inl rfl) _).mono ?_
  rintro e w' ⟨rfl, rfl⟩
  go_wp2_with fail
  rw [rounds_succ]
  go_wp2_with fail
  refine (Limb.sub_calls uu1 uo1 ub1 _).mono ?_
  rintro e w' ⟨rfl, rfl⟩
  go_wp2_with fail
  go_step3
  go_wp2_with fail
  simp only [Exit.jump]
  go_ret
  exact ⟨rfl, _, rfl⟩

set_option maxHeartbeats 4000000 in
set_option maxRecDepth 100000 in
theorem step_walk_1_0e (bu off bv cu cv : Nat) (u0 u1 v0 g x0 o1 s0 b1 s1 bb rr : Int) (w : World) (hne : ¬ bv = bu) (D : Hid (∀ w, Calls Try.prog 42 #[.int .u64 u1, .int .u64 u0, .int .u64 v0] w fun e w' => e = .returned (.tuple #[.int .u64 0, .int .u64 rr, .int .i64 2]) ∧ ∃ n, w' = w.drewN n))
    (cu0 : w.cell? ⟨bu, off, none⟩ = some (.int .u64 u0)) (fu0 : w.frozen? ⟨bu, off, none⟩ = false) (uu0 : U64 u0)
    (cu1 : w.cell? ⟨bu, off + 1, none⟩ = some (.int .u64 u1)) (fu1 : w.frozen? ⟨bu, off + 1, none⟩ = false) (uu1 : U64 u1)
    (cv0 : w.cell? ⟨bv, 0, none⟩ = some (.int .u64 v0)) (uv0 : U64 v0)
    (ug : U64 g)
    (ex0 : lo (lo (g * v0)) = x0) (eo1 : IntKind.u64.wrap (hi (g * v0) + hi (lo (g * v0))) = o1) (es0 : lo (u0 - x0) = s0) (eb1 : -hi (u0 - x0) = b1) (ux0 : U64 x0) (uo1 : U64 o1) (us0 : U64 s0) (ub1 : bit01 b1)
    (es1 : lo (u1 - o1 - b1) = s1) (ebb : -hi (u1 - o1 - b1) = bb) (us1 : U64 s1)
    (tz : (bb == 0) = true)
    (hg : (18446744073709551615 : Int) = g) :
    Calls Try.prog 40 #[.slice (some ⟨bu, off, none⟩) 2 cu, .slice (some ⟨bv, 0, none⟩) 1 cv] w fun e w' => e = .returned (.int .u64 g) ∧ ∃ n, w' = ((w.setCell ⟨bu, off, none⟩ (.int .u64 s0)).setCell ⟨bu, off + 1, none⟩ (.int .u64 s1)).drewN n := by
  have wk : IntKind.i64.wrap 0 = 0 := by rfl
  go_enter Try.func40, Try.ntmps40
  go_wp2_with fail
  refine wp_scope_rounds 0 1 rfl ?_
  go_wp2_with fail
  go_region_held3 (fun w' => w'.cell? ⟨bu, off + 1, none⟩ = some (.int .u64 u1) ∧ w'.cell? ⟨bu, off, none⟩ = some (.int .u64 u0) ∧ w'.cell? ⟨bv, 0, none⟩ = some (.int .u64 v0)) ((refine ⟨?_, ?_, ?_⟩; all_goals go_simp))
    (first | (go_at_call 42; refine (D.out _).mono ?_; rintro e w1 ⟨rfl, n1, rfl⟩))
  go_wp2_with fail
  refine wp_loop_rounds 2 ?_
  rw [rounds_succ]
  go_wp2_with fail
  refine (Limb.mul_calls ug uv0 _).mono ?_
  rintro e w' ⟨rfl, rfl⟩
  go_wp2_with fail
  refine (Limb.add_calls (lo_u _) ⟨by decide, by decide⟩ (.inl rfl) _).mono ?_
  rintro e w' ⟨rfl, rfl⟩
  go_wp2_with fail
  refine (Limb.sub_calls uu0 ux0 (.inl rfl) _).mono ?_
  rintro e w' ⟨rfl, rfl⟩
  go_wp2_with fail
  rw [rounds_succ]
  go_wp2_with fail
  refine (Limb.sub_calls uu1 uo1 ub1 _).mono ?_
  rintro e w' ⟨rfl, rfl⟩
  go_wp2_with fail
  go_step3
  go_wp2_with fail
  simp only [Exit.jump]
  go_ret
  exact ⟨rfl, _, rfl⟩

set_option maxHeartbeats 4000000 in
set_option maxRecDepth 100000 in
theorem step_walk_1_1 (bu off bv cu cv : Nat) (u0 u1 v0 g x0 o1 s0 b1 s1 bb p10 c11 p11 d1 g1 bb1 rr : Int) (w : World) (hne : ¬ bv = bu) (D : Hid (∀ w, Calls Try.prog 42 #[.int .u64 u1, .int .u64 u0, .int .u64 v0] w fun e w' => e = .returned (.tuple #[.int .u64 g, .int .u64 rr, .int .i64 0]) ∧ ∃ n, w' = w.drewN n))
    (cu0 : w.cell? ⟨bu, off, none⟩ = some (.int .u64 u0)) (fu0 : w.frozen? ⟨bu, off, none⟩ = false) (uu0 : U64 u0)
    (cu1 : w.cell? ⟨bu, off + 1, none⟩ = some (.int .u64 u1)) (fu1 : w.frozen? ⟨bu, off + 1, none⟩ = false) (uu1 : U64 u1)
    (cv0 : w.cell? ⟨bv, 0, none⟩ = some (.int .u64 v0)) (uv0 : U64 v0)
    (ug : U64 g)
    (ex0 : lo (lo (g * v0)) = x0) (eo1 : IntKind.u64.wrap (hi (g * v0) + hi (lo (g * v0))) = o1) (es0 : lo (u0 - x0) = s0) (eb1 : -hi (u0 - x0) = b1) (ux0 : U64 x0) (uo1 : U64 o1) (us0 : U64 s0) (ub1 : bit01 b1)
    (es1 : lo (u1 - o1 - b1) = s1) (ebb : -hi (u1 - o1 - b1) = bb) (us1 : U64 s1)
    (tb1 : (bb == 0) = false)
    (ep10 : lo (s0 + v0) = p10) (ec11 : hi (s0 + v0) = c11) (up10 : U64 p10) (uc11 : bit01 c11)
    (ep11 : lo (s1 + c11) = p11) (ed1 : hi (s1 + c11) = d1) (up11 : U64 p11) (eg1 : IntKind.u64.wrap (g - 1) = g1) (ebb1 : IntKind.u64.wrap (bb - d1) = bb1)
    (tz : (bb1 == 0) = true) :
    Calls Try.prog 40 #[.slice (some ⟨bu, off, none⟩) 2 cu, .slice (some ⟨bv, 0, none⟩) 1 cv] w fun e w' => e = .returned (.int .u64 g1) ∧ ∃ n, w' = ((w.setCell ⟨bu, off, none⟩ (.int .u64 p10)).setCell ⟨bu, off + 1, none⟩ (.int .u64 p11)).drewN n := by
  have wk : IntKind.i64.wrap 0 = 0 := by rfl
  go_enter Try.func40, Try.ntmps40
  go_wp2_with fail
  refine wp_scope_rounds 0 2 rfl ?_
  go_wp2_with fail
  go_region_held3 (fun w' => w'.cell? ⟨bu, off + 1, none⟩ = some (.int .u64 u1) ∧ w'.cell? ⟨bu, off, none⟩ = some (.int .u64 u0) ∧ w'.cell? ⟨bv, 0, none⟩ = some (.int .u64 v0)) ((refine ⟨?_, ?_, ?_⟩; all_goals go_simp))
    (first | (go_at_call 42; refine (D.out _).mono ?_; rintro e w1 ⟨rfl, n1, rfl⟩))
  go_wp2_with fail
  refine wp_loop_rounds 2 ?_
  rw [rounds_succ]
  go_wp2_with fail
  refine (Limb.mul_calls ug uv0 _).mono ?_
  rintro e w' ⟨rfl, rfl⟩
  go_wp2_with fail
  refine (Limb.add_calls (lo_u _) ⟨by decide, by decide⟩ (.inl rfl) _).mono ?_
  rintro e w' ⟨rfl, rfl⟩
  go_wp2_with fail
  refine (Limb.sub_calls uu0 ux0 (.inl rfl) _).mono ?_
  rintro e w' ⟨rfl, rfl⟩
  go_wp2_with fail
  rw [rounds_succ]
  go_wp2_with fail
  refine (Limb.sub_calls uu1 uo1 ub1 _).mono ?_
  rintro e w' ⟨rfl, rfl⟩
  go_wp2_with fail
  go_step3
  go_wp2_with fail
  refine wp_loop_rounds 2 ?_
  rw [rounds_succ]
  go_wp2_with fail
  refine (Limb.add_calls us0 uv0 (.inl rfl) _).mono ?_
  rintro e w' ⟨rfl, rfl⟩
  go_wp2_with fail
  rw [rounds_succ]
  go_wp2_with fail
  refine (Limb.add_calls (b := 0) us1 ⟨by decide, by decide⟩ uc11 _).mono ?_
  rintro e w' ⟨rfl, rfl⟩
  go_wp2_with fail
  go_step3
  refine ⟨rfl, ?_⟩
  unfold ScopeR
  go_wp2_with fail
  simp only [Exit.jump]
  go_ret
  exact ⟨rfl, _, rfl⟩

set_option maxHeartbeats 4000000 in
set_option maxRecDepth 100000 in
theorem step_walk_1_1e (bu off bv cu cv : Nat) (u0 u1 v0 g x0 o1 s0 b1 s1 bb p10 c11 p11 d1 g1 bb1 rr : Int) (w : World) (hne : ¬ bv = bu) (D : Hid (∀ w, Calls Try.prog 42 #[.int .u64 u1, .int .u64 u0, .int .u64 v0] w fun e w' => e = .returned (.tuple #[.int .u64 0, .int .u64 rr, .int .i64 2]) ∧ ∃ n, w' = w.drewN n))
    (cu0 : w.cell? ⟨bu, off, none⟩ = some (.int .u64 u0)) (fu0 : w.frozen? ⟨bu, off, none⟩ = false) (uu0 : U64 u0)
    (cu1 : w.cell? ⟨bu, off + 1, none⟩ = some (.int .u64 u1)) (fu1 : w.frozen? ⟨bu, off + 1, none⟩ = false) (uu1 : U64 u1)
    (cv0 : w.cell? ⟨bv, 0, none⟩ = some (.int .u64 v0)) (uv0 : U64 v0)
    (ug : U64 g)
    (ex0 : lo (lo (g * v0)) = x0) (eo1 : IntKind.u64.wrap (hi (g * v0) + hi (lo (g * v0))) = o1) (es0 : lo (u0 - x0) = s0) (eb1 : -hi (u0 - x0) = b1) (ux0 : U64 x0) (uo1 : U64 o1) (us0 : U64 s0) (ub1 : bit01 b1)
    (es1 : lo (u1 - o1 - b1) = s1) (ebb : -hi (u1 - o1 - b1) = bb) (us1 : U64 s1)
    (tb1 : (bb == 0) = false)
    (ep10 : lo (s0 + v0) = p10) (ec11 : hi (s0 + v0) = c11) (up10 : U64 p10) (uc11 : bit01 c11)
    (ep11 : lo (s1 + c11) = p11) (ed1 : hi (s1 + c11) = d1) (up11 : U64 p11) (eg1 : IntKind.u64.wrap (g - 1) = g1) (ebb1 : IntKind.u64.wrap (bb - d1) = bb1)
    (tz : (bb1 == 0) = true)
    (hg : (18446744073709551615 : Int) = g) :
    Calls Try.prog 40 #[.slice (some ⟨bu, off, none⟩) 2 cu, .slice (some ⟨bv, 0, none⟩) 1 cv] w fun e w' => e = .returned (.int .u64 g1) ∧ ∃ n, w' = ((w.setCell ⟨bu, off, none⟩ (.int .u64 p10)).setCell ⟨bu, off + 1, none⟩ (.int .u64 p11)).drewN n := by
  have wk : IntKind.i64.wrap 0 = 0 := by rfl
  go_enter Try.func40, Try.ntmps40
  go_wp2_with fail
  refine wp_scope_rounds 0 2 rfl ?_
  go_wp2_with fail
  go_region_held3 (fun w' => w'.cell? ⟨bu, off + 1, none⟩ = some (.int .u64 u1) ∧ w'.cell? ⟨bu, off, none⟩ = some (.int .u64 u0) ∧ w'.cell? ⟨bv, 0, none⟩ = some (.int .u64 v0)) ((refine ⟨?_, ?_, ?_⟩; all_goals go_simp))
    (first | (go_at_call 42; refine (D.out _).mono ?_; rintro e w1 ⟨rfl, n1, rfl⟩))
  go_wp2_with fail
  refine wp_loop_rounds 2 ?_
  rw [rounds_succ]
  go_wp2_with fail
  refine (Limb.mul_calls ug uv0 _).mono ?_
  rintro e w' ⟨rfl, rfl⟩
  go_wp2_with fail
  refine (Limb.add_calls (lo_u _) ⟨by decide, by decide⟩ (.inl rfl) _).mono ?_
  rintro e w' ⟨rfl, rfl⟩
  go_wp2_with fail
  refine (Limb.sub_calls uu0 ux0 (.inl rfl) _).mono ?_
  rintro e w' ⟨rfl, rfl⟩
  go_wp2_with fail
  rw [rounds_succ]
  go_wp2_with fail
  refine (Limb.sub_calls uu1 uo1 ub1 _).mono ?_
  rintro e w' ⟨rfl, rfl⟩
  go_wp2_with fail
  go_step3
  go_wp2_with fail
  refine wp_loop_rounds 2 ?_
  rw [rounds_succ]
  go_wp2_with fail
  refine (Limb.add_calls us0 uv0 (.inl rfl) _).mono ?_
  rintro e w' ⟨rfl, rfl⟩
  go_wp2_with fail
  rw [rounds_succ]
  go_wp2_with fail
  refine (Limb.add_calls (b := 0) us1 ⟨by decide, by decide⟩ uc11 _).mono ?_
  rintro e w' ⟨rfl, rfl⟩
  go_wp2_with fail
  go_step3
  refine ⟨rfl, ?_⟩
  unfold ScopeR
  go_wp2_with fail
  simp only [Exit.jump]
  go_ret
  exact ⟨rfl, _, rfl⟩

set_option maxHeartbeats 4000000 in
set_option maxRecDepth 100000 in
theorem step_walk_1_2 (bu off bv cu cv : Nat) (u0 u1 v0 g x0 o1 s0 b1 s1 bb p10 c11 p11 d1 g1 bb1 p20 c21 p21 d2 g2 bb2 rr : Int) (w : World) (hne : ¬ bv = bu) (D : Hid (∀ w, Calls Try.prog 42 #[.int .u64 u1, .int .u64 u0, .int .u64 v0] w fun e w' => e = .returned (.tuple #[.int .u64 g, .int .u64 rr, .int .i64 0]) ∧ ∃ n, w' = w.drewN n))
    (cu0 : w.cell? ⟨bu, off, none⟩ = some (.int .u64 u0)) (fu0 : w.frozen? ⟨bu, off, none⟩ = false) (uu0 : U64 u0)
    (cu1 : w.cell? ⟨bu, off + 1, none⟩ = some (.int .u64 u1)) (fu1 : w.frozen? ⟨bu, off + 1, none⟩ = false) (uu1 : U64 u1)
    (cv0 : w.cell? ⟨bv, 0, none⟩ = some (.int .u64 v0)) (uv0 : U64 v0)
    (ug : U64 g)
    (ex0 : lo (lo (g * v0)) = x0) (eo1 : IntKind.u64.wrap (hi (g * v0) + hi (lo (g * v0))) = o1) (es0 : lo (u0 - x0) = s0) (eb1 : -hi (u0 - x0) = b1) (ux0 : U64 x0) (uo1 : U64 o1) (us0 : U64 s0) (ub1 : bit01 b1)
    (es1 : lo (u1 - o1 - b1) = s1) (ebb : -hi (u1 - o1 - b1) = bb) (us1 : U64 s1)
    (tb1 : (bb == 0) = false)
    (ep10 : lo (s0 + v0) = p10) (ec11 : hi (s0 + v0) = c11) (up10 : U64 p10) (uc11 : bit01 c11)
    (ep11 : lo (s1 + c11) = p11) (ed1 : hi (s1 + c11) = d1) (up11 : U64 p11) (eg1 : IntKind.u64.wrap (g - 1) = g1) (ebb1 : IntKind.u64.wrap (bb - d1) = bb1)
    (tb2 : (bb1 == 0) = false)
    (ep20 : lo (p10 + v0) = p20) (ec21 : hi (p10 + v0) = c21) (up20 : U64 p20) (uc21 : bit01 c21)
    (ep21 : lo (p11 + c21) = p21) (ed2 : hi (p11 + c21) = d2) (up21 : U64 p21) (eg2 : IntKind.u64.wrap (g1 - 1) = g2) (ebb2 : IntKind.u64.wrap (bb1 - d2) = bb2)
    (tz : (bb2 == 0) = true) :
    Calls Try.prog 40 #[.slice (some ⟨bu, off, none⟩) 2 cu, .slice (some ⟨bv, 0, none⟩) 1 cv] w fun e w' => e = .returned (.int .u64 g2) ∧ ∃ n, w' = ((w.setCell ⟨bu, off, none⟩ (.int .u64 p20)).setCell ⟨bu, off + 1, none⟩ (.int .u64 p21)).drewN n := by
  have wk : IntKind.i64.wrap 0 = 0 := by rfl
  go_enter Try.func40, Try.ntmps40
  go_wp2_with fail
  refine wp_scope_rounds 0 3 rfl ?_
  go_wp2_with fail
  go_region_held3 (fun w' => w'.cell? ⟨bu, off + 1, none⟩ = some (.int .u64 u1) ∧ w'.cell? ⟨bu, off, none⟩ = some (.int .u64 u0) ∧ w'.cell? ⟨bv, 0, none⟩ = some (.int .u64 v0)) ((refine ⟨?_, ?_, ?_⟩; all_goals go_simp))
    (first | (go_at_call 42; refine (D.out _).mono ?_; rintro e w1 ⟨rfl, n1, rfl⟩))
  go_wp2_with fail
  refine wp_loop_rounds 2 ?_
  rw [rounds_succ]
  go_wp2_with fail
  refine (Limb.mul_calls ug uv0 _).mono ?_
  rintro e w' ⟨rfl, rfl⟩
  go_wp2_with fail
  refine (Limb.add_calls (lo_u _) ⟨by decide, by decide⟩ (.inl rfl) _).mono ?_
  rintro e w' ⟨rfl, rfl⟩
  go_wp2_with fail
  refine (Limb.sub_calls uu0 ux0 (.inl rfl) _).mono ?_
  rintro e w' ⟨rfl, rfl⟩
  go_wp2_with fail
  rw [rounds_succ]
  go_wp2_with fail
  refine (Limb.sub_calls uu1 uo1 ub1 _).mono ?_
  rintro e w' ⟨rfl, rfl⟩
  go_wp2_with fail
  go_step3
  go_wp2_with fail
  refine wp_loop_rounds 2 ?_
  rw [rounds_succ]
  go_wp2_with fail
  refine (Limb.add_calls us0 uv0 (.inl rfl) _).mono ?_
  rintro e w' ⟨rfl, rfl⟩
  go_wp2_with fail
  rw [rounds_succ]
  go_wp2_with fail
  refine (Limb.add_calls (b := 0) us1 ⟨by decide, by decide⟩ uc11 _).mono ?_
  rintro e w' ⟨rfl, rfl⟩
  go_wp2_with fail
  go_step3
  refine ⟨rfl, ?_⟩
  unfold ScopeR
  go_wp2_with fail
  refine wp_loop_rounds 2 ?_
  rw [rounds_succ]
  go_wp2_with fail
  refine (Limb.add_calls up10 uv0 (.inl rfl) _).mono ?_
  rintro e w' ⟨rfl, rfl⟩
  go_wp2_with fail
  rw [rounds_succ]
  go_wp2_with fail
  refine (Limb.add_calls (b := 0) up11 ⟨by decide, by decide⟩ uc21 _).mono ?_
  rintro e w' ⟨rfl, rfl⟩
  go_wp2_with fail
  go_step3
  refine ⟨rfl, ?_⟩
  unfold ScopeR
  go_wp2_with fail
  simp only [Exit.jump]
  go_ret
  exact ⟨rfl, _, rfl⟩

set_option maxHeartbeats 4000000 in
set_option maxRecDepth 100000 in
theorem step_walk_1_2e (bu off bv cu cv : Nat) (u0 u1 v0 g x0 o1 s0 b1 s1 bb p10 c11 p11 d1 g1 bb1 p20 c21 p21 d2 g2 bb2 rr : Int) (w : World) (hne : ¬ bv = bu) (D : Hid (∀ w, Calls Try.prog 42 #[.int .u64 u1, .int .u64 u0, .int .u64 v0] w fun e w' => e = .returned (.tuple #[.int .u64 0, .int .u64 rr, .int .i64 2]) ∧ ∃ n, w' = w.drewN n))
    (cu0 : w.cell? ⟨bu, off, none⟩ = some (.int .u64 u0)) (fu0 : w.frozen? ⟨bu, off, none⟩ = false) (uu0 : U64 u0)
    (cu1 : w.cell? ⟨bu, off + 1, none⟩ = some (.int .u64 u1)) (fu1 : w.frozen? ⟨bu, off + 1, none⟩ = false) (uu1 : U64 u1)
    (cv0 : w.cell? ⟨bv, 0, none⟩ = some (.int .u64 v0)) (uv0 : U64 v0)
    (ug : U64 g)
    (ex0 : lo (lo (g * v0)) = x0) (eo1 : IntKind.u64.wrap (hi (g * v0) + hi (lo (g * v0))) = o1) (es0 : lo (u0 - x0) = s0) (eb1 : -hi (u0 - x0) = b1) (ux0 : U64 x0) (uo1 : U64 o1) (us0 : U64 s0) (ub1 : bit01 b1)
    (es1 : lo (u1 - o1 - b1) = s1) (ebb : -hi (u1 - o1 - b1) = bb) (us1 : U64 s1)
    (tb1 : (bb == 0) = false)
    (ep10 : lo (s0 + v0) = p10) (ec11 : hi (s0 + v0) = c11) (up10 : U64 p10) (uc11 : bit01 c11)
    (ep11 : lo (s1 + c11) = p11) (ed1 : hi (s1 + c11) = d1) (up11 : U64 p11) (eg1 : IntKind.u64.wrap (g - 1) = g1) (ebb1 : IntKind.u64.wrap (bb - d1) = bb1)
    (tb2 : (bb1 == 0) = false)
    (ep20 : lo (p10 + v0) = p20) (ec21 : hi (p10 + v0) = c21) (up20 : U64 p20) (uc21 : bit01 c21)
    (ep21 : lo (p11 + c21) = p21) (ed2 : hi (p11 + c21) = d2) (up21 : U64 p21) (eg2 : IntKind.u64.wrap (g1 - 1) = g2) (ebb2 : IntKind.u64.wrap (bb1 - d2) = bb2)
    (tz : (bb2 == 0) = true)
    (hg : (18446744073709551615 : Int) = g) :
    Calls Try.prog 40 #[.slice (some ⟨bu, off, none⟩) 2 cu, .slice (some ⟨bv, 0, none⟩) 1 cv] w fun e w' => e = .returned (.int .u64 g2) ∧ ∃ n, w' = ((w.setCell ⟨bu, off, none⟩ (.int .u64 p20)).setCell ⟨bu, off + 1, none⟩ (.int .u64 p21)).drewN n := by
  have wk : IntKind.i64.wrap 0 = 0 := by rfl
  go_enter Try.func40, Try.ntmps40
  go_wp2_with fail
  refine wp_scope_rounds 0 3 rfl ?_
  go_wp2_with fail
  go_region_held3 (fun w' => w'.cell? ⟨bu, off + 1, none⟩ = some (.int .u64 u1) ∧ w'.cell? ⟨bu, off, none⟩ = some (.int .u64 u0) ∧ w'.cell? ⟨bv, 0, none⟩ = some (.int .u64 v0)) ((refine ⟨?_, ?_, ?_⟩; all_goals go_simp))
    (first | (go_at_call 42; refine (D.out _).mono ?_; rintro e w1 ⟨rfl, n1, rfl⟩))
  go_wp2_with fail
  refine wp_loop_rounds 2 ?_
  rw [rounds_succ]
  go_wp2_with fail
  refine (Limb.mul_calls ug uv0 _).mono ?_
  rintro e w' ⟨rfl, rfl⟩
  go_wp2_with fail
  refine (Limb.add_calls (lo_u _) ⟨by decide, by decide⟩ (.inl rfl) _).mono ?_
  rintro e w' ⟨rfl, rfl⟩
  go_wp2_with fail
  refine (Limb.sub_calls uu0 ux0 (.inl rfl) _).mono ?_
  rintro e w' ⟨rfl, rfl⟩
  go_wp2_with fail
  rw [rounds_succ]
  go_wp2_with fail
  refine (Limb.sub_calls uu1 uo1 ub1 _).mono ?_
  rintro e w' ⟨rfl, rfl⟩
  go_wp2_with fail
  go_step3
  go_wp2_with fail
  refine wp_loop_rounds 2 ?_
  rw [rounds_succ]
  go_wp2_with fail
  refine (Limb.add_calls us0 uv0 (.inl rfl) _).mono ?_
  rintro e w' ⟨rfl, rfl⟩
  go_wp2_with fail
  rw [rounds_succ]
  go_wp2_with fail
  refine (Limb.add_calls (b := 0) us1 ⟨by decide, by decide⟩ uc11 _).mono ?_
  rintro e w' ⟨rfl, rfl⟩
  go_wp2_with fail
  go_step3
  refine ⟨rfl, ?_⟩
  unfold ScopeR
  go_wp2_with fail
  refine wp_loop_rounds 2 ?_
  rw [rounds_succ]
  go_wp2_with fail
  refine (Limb.add_calls up10 uv0 (.inl rfl) _).mono ?_
  rintro e w' ⟨rfl, rfl⟩
  go_wp2_with fail
  rw [rounds_succ]
  go_wp2_with fail
  refine (Limb.add_calls (b := 0) up11 ⟨by decide, by decide⟩ uc21 _).mono ?_
  rintro e w' ⟨rfl, rfl⟩
  go_wp2_with fail
  go_step3
  refine ⟨rfl, ?_⟩
  unfold ScopeR
  go_wp2_with fail
  simp only [Exit.jump]
  go_ret
  exact ⟨rfl, _, rfl⟩

end Go.Proofs.Ytgjdegahofoalaa.Wide

/- wide.step with 1 limbs: the quotient's limb, and what is left. -/
namespace Go.Proofs.Ytgjdegahofoalaa.Wide
open Go.RowKit

set_option maxHeartbeats 1000000 in
theorem step_calls_1 (bu off bv cu cv : Nat) {U V : Int} (w : World) (hne : ¬ bv = bu) (hU0 : 0 ≤ U) (hUV : U < V * 18446744073709551616) (hV : V < 18446744073709551616) (hVn : 18446744073709551616 ≤ 2 * V)  (cu0 : w.cell? ⟨bu, off, none⟩ = some (.int .u64 (L0 U))) (fu0 : w.frozen? ⟨bu, off, none⟩ = false) (cu1 : w.cell? ⟨bu, off + 1, none⟩ = some (.int .u64 (L1 U))) (fu1 : w.frozen? ⟨bu, off + 1, none⟩ = false) (cv0 : w.cell? ⟨bv, 0, none⟩ = some (.int .u64 (L0 V))) :
    Calls Try.prog 40 #[.slice (some ⟨bu, off, none⟩) 2 cu, .slice (some ⟨bv, 0, none⟩) 1 cv] w fun e w' => e = .returned (.int .u64 (U / V)) ∧ ∃ n, w' = (w.setCells bu off [.int .u64 (L0 (U % V)), .int .u64 (L1 (U % V))]).drewN n := by
  have hV0 : 0 < V := by omega
  have hU : U < 340282366920938463463374607431768211456 := by omega
  -- the two highest limbs
  obtain ⟨ut, eut⟩ : ∃ ut, ut = L1 U * 18446744073709551616 + L0 U := ⟨_, rfl⟩
  obtain ⟨vt, evt⟩ : ∃ vt, vt = L0 V := ⟨_, rfl⟩
  have vhi : (hi V) = 0 := by unfold hi; omega
  have uhi : (hi (hi U)) = 0 := by unfold hi; omega
  have gu : ut * 1 ≤ U ∧ U < (ut + 1) * 1 ∧ 0 ≤ ut := by subst eut; unfold L1 L0 lo hi; omega
  have gv : vt * 1 ≤ V ∧ V < (vt + 1) * 1 ∧ 18446744073709551616 ≤ 2 * vt ∧ vt < 18446744073709551616 := by subst evt; unfold L0 lo; (try unfold hi); omega
  obtain ⟨g, hg⟩ : ∃ g, (ut < vt * 18446744073709551616 ∧ g = ut / vt) ∨ (vt * 18446744073709551616 ≤ ut ∧ g = 18446744073709551615) := by
    by_cases hc : ut < vt * 18446744073709551616
    · exact ⟨_, .inl ⟨hc, rfl⟩⟩
    · exact ⟨_, .inr ⟨by omega, rfl⟩⟩
  obtain ⟨g0, g1, g2, g3⟩ := guess_bounds (B := 1) (by decide) gu.1 gu.2.1 gv.1 gv.2.1 gv.2.2.1 gu.2.2 hUV hg
  have ug : U64 g := ⟨g0, by omega⟩
  obtain ⟨G, hG⟩ : ∃ G, G = g * V := ⟨_, rfl⟩
  have hG0 : 0 ≤ G := by rw [hG]; exact Int.mul_nonneg g0 (by omega)
  have hG1 : G < 340282366920938463463374607431768211456 := by
    have h1 : g * V ≤ 18446744073709551615 * V := Int.mul_le_mul_of_nonneg_right g1 (by omega)
    omega
  have ghi : (hi (hi G)) = 0 := by unfold hi; omega
  have P0 := prod_step g V 0
  simp only [Int.zero_add] at P0
  rw [← hG] at P0
  obtain ⟨x0, y0, p1⟩ := ms0 ug (L0_u V)
  simp only [Int.zero_add] at x0 y0 p1
  obtain ⟨o1, e1⟩ : ∃ o, o = hi (g * L0 V) := ⟨_, rfl⟩
  have G1 : hi G = o1 + g * hi V := by rw [e1]; exact P0.1
  have y0 := y0.trans e1.symm
  rw [← e1] at p1
  have X0 : lo (lo (g * L0 V)) = L0 G := x0.trans P0.2.symm
  have GK : (hi G) = o1 := by rw [G1, vhi, Int.mul_zero, Int.add_zero]
  have GL : o1 = L1 G := by rw [← lo_id p1, ← GK]; rfl
  obtain ⟨T, hT⟩ : ∃ T, T = U - G := ⟨_, rfl⟩
  have S0 := sub_first U G
  rw [← hT] at S0
  have S1 := sub_next (hi U) (hi G) (hi T)
  have B1 : bit01 (-((hi T) - (hi U) + (hi G))) := by rw [hT]; exact bit_sub_first
  have BB : -hi (L1 U - o1 - (-((hi T) - (hi U) + (hi G)))) = -(hi (hi T)) := by rw [GL]; have := S1.1; rw [uhi, ghi] at this; show -hi (lo (hi U) - lo (hi G) - (-((hi T) - (hi U) + (hi G)))) = _; rw [this]; omega
  have SK : lo (L1 U - o1 - (-((hi T) - (hi U) + (hi G)))) = L1 T := by rw [GL]; exact S1.2
  have q0 : 0 ≤ U / V := Int.ediv_nonneg hU0 (by omega)
  have qa : (U / V) * V ≤ U := Int.ediv_mul_le U (by omega)
  have qb : U < (U / V + 1) * V := Int.lt_ediv_add_one_mul_self U hV0
  obtain ⟨q, eq⟩ : ∃ q, q = U / V := ⟨_, rfl⟩
  rw [← eq] at q0 qa qb g2 g3
  have qb' : U < q * V + V := by rw [Int.add_mul, Int.one_mul] at qb; exact qb
  have rem : U % V = U - q * V := (div_of hV0 (by omega) (by omega)).2
  rw [← eq, rem]
  obtain ⟨T1, hT1⟩ : ∃ X, X = T + V := ⟨_, rfl⟩
  have A10 := add_first T V
  rw [← hT1] at A10
  have A11 := add_last (hi T) (hi T1)
  have C11 : bit01 ((hi T1) - (hi T) - (hi V)) := by rw [hT1]; exact bit_add_first
  rw [vhi] at C11
  rw [vhi] at A10
  obtain ⟨T2, hT2⟩ : ∃ X, X = T1 + V := ⟨_, rfl⟩
  have A20 := add_first T1 V
  rw [← hT2] at A20
  have A21 := add_last (hi T1) (hi T2)
  have C21 : bit01 ((hi T2) - (hi T1) - (hi V)) := by rw [hT2]; exact bit_add_first
  rw [vhi] at C21
  rw [vhi] at A20
  have fin (c : Nat) (gg : Int) (X : Int) (W : World) (hgq : gg = q) (hX : X = U - q * V) (hW : ∀ n, W.drewN n = (w.setCells bu off [.int .u64 (L0 X), .int .u64 (L1 X)]).drewN n) (hc : Calls Try.prog 40 #[.slice (some ⟨bu, off, none⟩) 2 cu, .slice (some ⟨bv, 0, none⟩) 1 cv] w fun e w' => e = .returned (.int .u64 gg) ∧ ∃ n, w' = W.drewN n) :
      Calls Try.prog 40 #[.slice (some ⟨bu, off, none⟩) 2 cu, .slice (some ⟨bv, 0, none⟩) 1 cv] w fun e w' => e = .returned (.int .u64 q) ∧ ∃ n, w' = (w.setCells bu off [.int .u64 (L0 (U - q * V)), .int .u64 (L1 (U - q * V))]).drewN n := by
    subst hX
    rw [hgq] at hc
    exact hc.mono fun e w' ⟨h1, n, h2⟩ => ⟨h1, n, h2.trans (hW n)⟩
  have w01 (x : Int) (hx : bit01 x) : IntKind.u64.wrap x = x := by rw [wrap_lo]; unfold bit01 at hx; unfold lo; omega
  have DD : (ut < vt * 18446744073709551616 ∧ ∃ rr, ∀ w, Calls Try.prog 42 #[.int .u64 (L1 U), .int .u64 (L0 U), .int .u64 (L0 V)] w fun e w' => e = .returned (.tuple #[.int .u64 g, .int .u64 rr, .int .i64 0]) ∧ ∃ n, w' = w.drewN n) ∨
      (18446744073709551615 = g ∧ ∀ w, Calls Try.prog 42 #[.int .u64 (L1 U), .int .u64 (L0 U), .int .u64 (L0 V)] w fun e w' => e = .returned (.tuple #[.int .u64 0, .int .u64 0, .int .i64 2]) ∧ ∃ n, w' = w.drewN n) := by
    rcases hg with ⟨hc, hgg⟩ | ⟨hc, hgg⟩
    · refine .inl ⟨hc, ut % vt, fun w => ?_⟩
      have := Limb.div_int (a := L1 U) (b := L0 U) (y := L0 V) (by rw [← evt]; omega) (L0_u V).2 (L1_u U).1 (by rw [← evt]; have := (L0_u U).1; omega) (L0_u U) w
      rw [← eut, ← evt, ← hgg] at this
      rw [← evt]
      exact this
    · refine .inr ⟨hgg.symm, fun w => ?_⟩
      exact (Limb.div_over _ _ _ (beq_eq_false_iff_ne.2 (by rw [← evt]; omega)) (by rw [← evt]; have := (L0_u U).2; omega) w).mono fun e w' ⟨h1, h2⟩ => ⟨h1, 0, h2.symm⟩
  by_cases t0 : 0 ≤ T
  · have z : (hi (hi T)) = 0 := by unfold hi; omega
    have hgq : g = q := by
      by_cases hle : g ≤ q
      · omega
      · have : (q + 1) * V ≤ g * V := Int.mul_le_mul_of_nonneg_right (by omega) (by omega)
        rw [Int.add_mul, Int.one_mul] at this
        omega
    have tz : (-(hi (hi T)) == 0) = true := by rw [z]; rfl
    refine fin 0 g T (w.setCells bu off [.int .u64 (L0 T), .int .u64 (L1 T)]) hgq (by rw [hT, hG, hgq]) (fun n => rfl) ?_
    rcases DD with ⟨_, rr, D⟩ | ⟨hgm, D⟩
    · exact step_walk_1_0 bu off bv cu cv (L0 U) (L1 U) (L0 V) g (L0 G) o1 (L0 T) (-((hi T) - (hi U) + (hi G))) (L1 T) (-(hi (hi T))) rr w hne (Lib.hid D) cu0 fu0 (L0_u U) cu1 fu1 (L1_u U) cv0 (L0_u V) ug X0 y0 S0.2 (congrArg Neg.neg S0.1) (L0_u G) p1 (L0_u T) B1 SK BB (L1_u T) tz
    · exact step_walk_1_0e bu off bv cu cv (L0 U) (L1 U) (L0 V) g (L0 G) o1 (L0 T) (-((hi T) - (hi U) + (hi G))) (L1 T) (-(hi (hi T))) 0 w hne (Lib.hid D) cu0 fu0 (L0_u U) cu1 fu1 (L1_u U) cv0 (L0_u V) ug X0 y0 S0.2 (congrArg Neg.neg S0.1) (L0_u G) p1 (L0_u T) B1 SK BB (L1_u T) tz hgm
  · have z0 : (hi (hi T)) = -1 := by unfold hi; omega
    have tb1 : (-(hi (hi T)) == 0) = false := by rw [z0]; rfl
    have hlt : q < g := by
      by_cases hle : q < g
      · exact hle
      · have : g * V ≤ q * V := Int.mul_le_mul_of_nonneg_right (by omega) (by omega)
        omega
    have eg1 : IntKind.u64.wrap (g - 1) = g - 1 := by rw [wrap_lo]; unfold lo; omega
    have sh1 : (g - 1) * V = g * V - V := by rw [Int.sub_mul, Int.one_mul]
    by_cases t1 : 0 ≤ T1
    · have z1 : (hi (hi T1)) = 0 := by unfold hi; omega
      have hgq : g - 1 = q := by
        by_cases hle : g - 1 ≤ q
        · omega
        · have : (q + 1) * V ≤ (g - 1) * V := Int.mul_le_mul_of_nonneg_right (by omega) (by omega)
          rw [Int.add_mul, Int.one_mul] at this
          omega
      have eb1 : IntKind.u64.wrap (-(hi (hi T)) - ((hi (hi T1)) - (hi (hi T)))) = 0 := by rw [z0, z1]; rfl
      refine fin 1 (g - 1) T1 (w.setCells bu off [.int .u64 (L0 T1), .int .u64 (L1 T1)]) hgq (by rw [hT1, hT, hG, ← hgq]; omega) (fun n => rfl) ?_
      rcases DD with ⟨_, rr, D⟩ | ⟨hgm, D⟩
      · exact step_walk_1_1 bu off bv cu cv (L0 U) (L1 U) (L0 V) g (L0 G) o1 (L0 T) (-((hi T) - (hi U) + (hi G))) (L1 T) (-(hi (hi T))) (L0 T1) ((hi T1) - (hi T) - 0) (L1 T1) ((hi (hi T1)) - (hi (hi T))) (g - 1) 0 rr w hne (Lib.hid D) cu0 fu0 (L0_u U) cu1 fu1 (L1_u U) cv0 (L0_u V) ug X0 y0 S0.2 (congrArg Neg.neg S0.1) (L0_u G) p1 (L0_u T) B1 SK BB (L1_u T) tb1 A10.2 A10.1 (L0_u T1) C11 A11.2 A11.1 (L1_u T1) eg1 eb1 rfl
      · exact step_walk_1_1e bu off bv cu cv (L0 U) (L1 U) (L0 V) g (L0 G) o1 (L0 T) (-((hi T) - (hi U) + (hi G))) (L1 T) (-(hi (hi T))) (L0 T1) ((hi T1) - (hi T) - 0) (L1 T1) ((hi (hi T1)) - (hi (hi T))) (g - 1) 0 0 w hne (Lib.hid D) cu0 fu0 (L0_u U) cu1 fu1 (L1_u U) cv0 (L0_u V) ug X0 y0 S0.2 (congrArg Neg.neg S0.1) (L0_u G) p1 (L0_u T) B1 SK BB (L1_u T) tb1 A10.2 A10.1 (L0_u T1) C11 A11.2 A11.1 (L1_u T1) eg1 eb1 rfl hgm
    · have z1 : (hi (hi T1)) = -1 := by unfold hi; omega
      have eb1 : IntKind.u64.wrap (-(hi (hi T)) - ((hi (hi T1)) - (hi (hi T)))) = 1 := by rw [z0, z1]; rfl
      have hlt1 : q < g - 1 := by
        by_cases hle : q < g - 1
        · exact hle
        · have : (g - 1) * V ≤ q * V := Int.mul_le_mul_of_nonneg_right (by omega) (by omega)
          omega
      have hgq : g - 1 - 1 = q := by omega
      have eg2 : IntKind.u64.wrap (g - 1 - 1) = g - 1 - 1 := by rw [wrap_lo]; unfold lo; omega
      have sh2 : (g - 1 - 1) * V = (g - 1) * V - V := by rw [Int.sub_mul (g - 1), Int.one_mul]
      have t2 : 0 ≤ T2 := by rw [hgq] at sh2; omega
      have z2 : (hi (hi T2)) = 0 := by unfold hi; omega
      have eb2 : IntKind.u64.wrap (1 - ((hi (hi T2)) - (hi (hi T1)))) = 0 := by rw [z1, z2]; rfl
      refine fin 2 (g - 1 - 1) T2 (w.setCells bu off [.int .u64 (L0 T2), .int .u64 (L1 T2)]) hgq (by rw [hT2, hT1, hT, hG, ← hgq]; omega) (fun n => rfl) ?_
      rcases DD with ⟨_, rr, D⟩ | ⟨hgm, D⟩
      · exact step_walk_1_2 bu off bv cu cv (L0 U) (L1 U) (L0 V) g (L0 G) o1 (L0 T) (-((hi T) - (hi U) + (hi G))) (L1 T) (-(hi (hi T))) (L0 T1) ((hi T1) - (hi T) - 0) (L1 T1) ((hi (hi T1)) - (hi (hi T))) (g - 1) 1 (L0 T2) ((hi T2) - (hi T1) - 0) (L1 T2) ((hi (hi T2)) - (hi (hi T1))) (g - 1 - 1) 0 rr w hne (Lib.hid D) cu0 fu0 (L0_u U) cu1 fu1 (L1_u U) cv0 (L0_u V) ug X0 y0 S0.2 (congrArg Neg.neg S0.1) (L0_u G) p1 (L0_u T) B1 SK BB (L1_u T) tb1 A10.2 A10.1 (L0_u T1) C11 A11.2 A11.1 (L1_u T1) eg1 eb1 rfl A20.2 A20.1 (L0_u T2) C21 A21.2 A21.1 (L1_u T2) eg2 eb2 rfl
      · exact step_walk_1_2e bu off bv cu cv (L0 U) (L1 U) (L0 V) g (L0 G) o1 (L0 T) (-((hi T) - (hi U) + (hi G))) (L1 T) (-(hi (hi T))) (L0 T1) ((hi T1) - (hi T) - 0) (L1 T1) ((hi (hi T1)) - (hi (hi T))) (g - 1) 1 (L0 T2) ((hi T2) - (hi T1) - 0) (L1 T2) ((hi (hi T2)) - (hi (hi T1))) (g - 1 - 1) 0 0 w hne (Lib.hid D) cu0 fu0 (L0_u U) cu1 fu1 (L1_u U) cv0 (L0_u V) ug X0 y0 S0.2 (congrArg Neg.neg S0.1) (L0_u G) p1 (L0_u T) B1 SK BB (L1_u T) tb1 A10.2 A10.1 (L0_u T1) C11 A11.2 A11.1 (L1_u T1) eg1 eb1 rfl A20.2 A20.1 (L0_u T2) C21 A21.2 A21.1 (L1_u T2) eg2 eb2 rfl hgm
end Go.Proofs.Ytgjdegahofoalaa.Wide
