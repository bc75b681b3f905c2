/- wide.mulAdd, wide.Product: products. -/
import Derived.Test.YtgjdegahofoalaaLimb
import Derived.Test.YtgjdegahofoalaaNum
import Derived.StillTailTactics
import Derived.Laws.CopyOwn
import Derived.Test.YtgjdegahofoalaaBase
set_option linter.unusedVariables false
set_option linter.unusedSimpArgs false
namespace Go.Proofs.Ytgjdegahofoalaa.Wide
open Go.RowKit

set_option maxHeartbeats 400000 in
set_option maxRecDepth 100000 in
theorem mulAdd_walk (b off len cap : Nat) (y a0 a1 a2 a3 t0 t1 t2 t3 t4 z0 z1 z2 z3 o1 o2 o3 o4 : Int) (w : World) (hb : b < w.heap.size) (hlen : 5 ≤ len) (uy : U64 y)  (ua0 : U64 a0) (ut0 : U64 t0) (ua1 : U64 a1) (ut1 : U64 t1) (ua2 : U64 a2) (ut2 : U64 t2) (ua3 : U64 a3) (ut3 : U64 t3) (c0 : w.cell? ⟨b, off, none⟩ = some (.int .u64 t0)) (f0 : w.frozen? ⟨b, off, none⟩ = false) (c1 : w.cell? ⟨b, off + 1, none⟩ = some (.int .u64 t1)) (f1 : w.frozen? ⟨b, off + 1, none⟩ = false) (c2 : w.cell? ⟨b, off + 2, none⟩ = some (.int .u64 t2)) (f2 : w.frozen? ⟨b, off + 2, none⟩ = false) (c3 : w.cell? ⟨b, off + 3, none⟩ = some (.int .u64 t3)) (f3 : w.frozen? ⟨b, off + 3, none⟩ = false) (c4 : w.cell? ⟨b, off + 4, none⟩ = some (.int .u64 t4)) (f4 : w.frozen? ⟨b, off + 4, none⟩ = false)
    (s0 : lo (t0 + lo (lo (a0 * y))) = z0) (r0 : IntKind.u64.wrap (IntKind.u64.wrap (hi (a0 * y) + hi (lo (a0 * y))) + hi (t0 + lo (lo (a0 * y)))) = o1) (uo1 : U64 o1)
    (s1 : lo (t1 + lo (lo (a1 * y) + o1)) = z1) (r1 : IntKind.u64.wrap (IntKind.u64.wrap (hi (a1 * y) + hi (lo (a1 * y) + o1)) + hi (t1 + lo (lo (a1 * y) + o1))) = o2) (uo2 : U64 o2)
    (s2 : lo (t2 + lo (lo (a2 * y) + o2)) = z2) (r2 : IntKind.u64.wrap (IntKind.u64.wrap (hi (a2 * y) + hi (lo (a2 * y) + o2)) + hi (t2 + lo (lo (a2 * y) + o2))) = o3) (uo3 : U64 o3)
    (s3 : lo (t3 + lo (lo (a3 * y) + o3)) = z3) (r3 : IntKind.u64.wrap (IntKind.u64.wrap (hi (a3 * y) + hi (lo (a3 * y) + o3)) + hi (t3 + lo (lo (a3 * y) + o3))) = o4) :
    Calls Try.prog 41 #[.slice (some ⟨b, off, none⟩) len cap, .agg #[.int .u64 a0, .int .u64 a1, .int .u64 a2, .int .u64 a3], .int .u64 y] w fun e w' => e = .returned (.tuple #[]) ∧ (((((w.setCell ⟨b, off, none⟩ (.int .u64 z0)).setCell ⟨b, off + 1, none⟩ (.int .u64 z1)).setCell ⟨b, off + 2, none⟩ (.int .u64 z2)).setCell ⟨b, off + 3, none⟩ (.int .u64 z3)).setCell ⟨b, off + 4, none⟩ (.int .u64 (IntKind.u64.wrap (t4 + o4)))).alloc (.cells #[.int .u64 a0, .int .u64 a1, .int .u64 a2, .int .u64 a3] 24) = w' := by
  have i0 : ∀ w, (Instr.index 24 (.agg #[.int .u64 a0, .int .u64 a1, .int .u64 a2, .int .u64 a3]) (.int .i64 0)).run Try.prog w = .ok (.int .u64 a0) w := fun _ => by kernel_rfl
  have i1 : ∀ w, (Instr.index 24 (.agg #[.int .u64 a0, .int .u64 a1, .int .u64 a2, .int .u64 a3]) (.int .i64 1)).run Try.prog w = .ok (.int .u64 a1) w := fun _ => by kernel_rfl
  have i2 : ∀ w, (Instr.index 24 (.agg #[.int .u64 a0, .int .u64 a1, .int .u64 a2, .int .u64 a3]) (.int .i64 2)).run Try.prog w = .ok (.int .u64 a2) w := fun _ => by kernel_rfl
  have i3 : ∀ w, (Instr.index 24 (.agg #[.int .u64 a0, .int .u64 a1, .int .u64 a2, .int .u64 a3]) (.int .i64 3)).run Try.prog w = .ok (.int .u64 a3) w := fun _ => by kernel_rfl
  go_enter Try.func41, Try.ntmps41
  go_wp2_with fail
  refine wp_loop_rounds 5 ?_
  rw [rounds_succ]
  go_wp2_with fail
  refine (Limb.mul_calls ua0 uy _).mono ?_
  rintro e w' ⟨rfl, rfl⟩
  go_wp2_with fail
  refine (Limb.add_calls (lo_u _) ⟨by decide, by decide⟩ (.inl rfl) _).mono ?_
  rintro e w' ⟨rfl, rfl⟩
  go_wp2_with fail
  refine (Limb.add_calls ut0 (lo_u _) (.inl rfl) _).mono ?_
  rintro e w' ⟨rfl, rfl⟩
  go_wp2_with fail
  rw [rounds_succ]
  go_wp2_with fail
  refine (Limb.mul_calls ua1 uy _).mono ?_
  rintro e w' ⟨rfl, rfl⟩
  go_wp2_with fail
  refine (Limb.add_calls (lo_u _) uo1 (.inl rfl) _).mono ?_
  rintro e w' ⟨rfl, rfl⟩
  go_wp2_with fail
  refine (Limb.add_calls ut1 (lo_u _) (.inl rfl) _).mono ?_
  rintro e w' ⟨rfl, rfl⟩
  go_wp2_with fail
  rw [rounds_succ]
  go_wp2_with fail
  refine (Limb.mul_calls ua2 uy _).mono ?_
  rintro e w' ⟨rfl, rfl⟩
  go_wp2_with fail
  refine (Limb.add_calls (lo_u _) uo2 (.inl rfl) _).mono ?_
  rintro e w' ⟨rfl, rfl⟩
  go_wp2_with fail
  refine (Limb.add_calls ut2 (lo_u _) (.inl rfl) _).mono ?_
  rintro e w' ⟨rfl, rfl⟩
  go_wp2_with fail
  rw [rounds_succ]
  go_wp2_with fail
  refine (Limb.mul_calls ua3 uy _).mono ?_
  rintro e w' ⟨rfl, rfl⟩
  go_wp2_with fail
  refine (Limb.add_calls (lo_u _) uo3 (.inl rfl) _).mono ?_
  rintro e w' ⟨rfl, rfl⟩
  go_wp2_with fail
  refine (Limb.add_calls ut3 (lo_u _) (.inl rfl) _).mono ?_
  rintro e w' ⟨rfl, rfl⟩
  go_wp2_with fail
  rw [rounds_succ]
  go_wp2_with fail
  go_end0
  exact ⟨rfl, rfl⟩

/-- The same, as numbers: n's limbs become those of n + x * y. -/
theorem mulAdd_num (b off len cap : Nat) {x y n t0 t1 t2 t3 : Int} (w : World) (hb : b < w.heap.size) (hlen : 5 ≤ len) (uy : U64 y) (ux : U256 x) (un : U256 n)
    (e0 : t0 = L0 n) (e1 : t1 = L1 n) (e2 : t2 = L2 n) (e3 : t3 = L3 n)
    (c0 : w.cell? ⟨b, off, none⟩ = some (.int .u64 t0)) (f0 : w.frozen? ⟨b, off, none⟩ = false) (c1 : w.cell? ⟨b, off + 1, none⟩ = some (.int .u64 t1)) (f1 : w.frozen? ⟨b, off + 1, none⟩ = false)
    (c2 : w.cell? ⟨b, off + 2, none⟩ = some (.int .u64 t2)) (f2 : w.frozen? ⟨b, off + 2, none⟩ = false) (c3 : w.cell? ⟨b, off + 3, none⟩ = some (.int .u64 t3)) (f3 : w.frozen? ⟨b, off + 3, none⟩ = false)
    (c4 : w.cell? ⟨b, off + 4, none⟩ = some (.int .u64 0)) (f4 : w.frozen? ⟨b, off + 4, none⟩ = false) :
    Calls Try.prog 41 #[.slice (some ⟨b, off, none⟩) len cap, .agg #[.int .u64 (L0 x), .int .u64 (L1 x), .int .u64 (L2 x), .int .u64 (L3 x)], .int .u64 y] w fun e w' => e = .returned (.tuple #[]) ∧
      (((((w.setCell ⟨b, off, none⟩ (.int .u64 (L0 (n + x * y)))).setCell ⟨b, off + 1, none⟩ (.int .u64 (L1 (n + x * y)))).setCell ⟨b, off + 2, none⟩ (.int .u64 (L2 (n + x * y)))).setCell ⟨b, off + 3, none⟩ (.int .u64 (L3 (n + x * y)))).setCell ⟨b, off + 4, none⟩ (.int .u64 (L4 (n + x * y)))).alloc (.cells #[.int .u64 (L0 x), .int .u64 (L1 x), .int .u64 (L2 x), .int .u64 (L3 x)] 24) = w' := by
  subst e0; subst e1; subst e2; subst e3
  obtain ⟨z0, p0, q0⟩ := mul_step0 (L0_u x) uy (L0_u n)
  obtain ⟨z1, p1, q1⟩ := mul_step (L1_u x) uy (L1_u n) q0
  obtain ⟨z2, p2, q2⟩ := mul_step (L2_u x) uy (L2_u n) q1
  obtain ⟨z3, p3, q3⟩ := mul_step (L3_u x) uy (L3_u n) q2
  have h := mulAdd_walk b off len cap y (L0 x) (L1 x) (L2 x) (L3 x) (L0 n) (L1 n) (L2 n) (L3 n) 0 _ _ _ _ _ _ _ _ w hb hlen uy (L0_u x) (L0_u n) (L1_u x) (L1_u n) (L2_u x) (L2_u n) (L3_u x) (L3_u n)
    c0 f0 c1 f1 c2 f2 c3 f3 c4 f4 z0 p0 q0 z1 p1 q1 z2 p2 q2 z3 p3
  -- the sums are those of the whole
  have s0 := hi_mul_add x y n 0
  have s1 := hi_mul_add (hi x) y (hi n) (hi (L0 x * y + L0 n + 0))
  have s2 := hi_mul_add (hi (hi x)) y (hi (hi n)) (hi (L1 x * y + L1 n + hi (L0 x * y + L0 n + 0)))
  have s3 := hi_mul_add (hi (hi (hi x))) y (hi (hi (hi n))) (hi (L2 x * y + L2 n + hi (L1 x * y + L1 n + hi (L0 x * y + L0 n + 0))))
  have en : n + x * y = 0 + x * y + n := by omega
  have k0 : hi (n + x * y) = hi (L0 x * y + L0 n + 0) + hi x * y + hi n := by rw [en]; exact s0.1
  have k1 : hi (hi (n + x * y)) = hi (L1 x * y + L1 n + hi (L0 x * y + L0 n + 0)) + hi (hi x) * y + hi (hi n) := by rw [k0]; exact s1.1
  have k2 : hi (hi (hi (n + x * y))) = hi (L2 x * y + L2 n + hi (L1 x * y + L1 n + hi (L0 x * y + L0 n + 0))) + hi (hi (hi x)) * y + hi (hi (hi n)) := by rw [k1]; exact s2.1
  have k3 : hi (hi (hi (hi (n + x * y)))) = hi (L3 x * y + L3 n + hi (L2 x * y + L2 n + hi (L1 x * y + L1 n + hi (L0 x * y + L0 n + 0)))) + hi (hi (hi (hi x))) * y + hi (hi (hi (hi n))) := by rw [k2]; exact s3.1
  rw [hi4_0 ux, hi4_0 un, Int.zero_mul, Int.add_zero, Int.add_zero] at k3
  have r0 : L0 (n + x * y) = lo (L0 x * y + L0 n + 0) := by unfold L0; rw [en]; exact s0.2
  have r1 : L1 (n + x * y) = lo (L1 x * y + L1 n + hi (L0 x * y + L0 n + 0)) := by show lo _ = _; rw [k0]; exact s1.2
  have r2 : L2 (n + x * y) = lo (L2 x * y + L2 n + hi (L1 x * y + L1 n + hi (L0 x * y + L0 n + 0))) := by show lo _ = _; rw [k1]; exact s2.2
  have r3 : L3 (n + x * y) = lo (L3 x * y + L3 n + hi (L2 x * y + L2 n + hi (L1 x * y + L1 n + hi (L0 x * y + L0 n + 0)))) := by show lo _ = _; rw [k2]; exact s3.2
  have r4 : IntKind.u64.wrap (0 + hi (L3 x * y + L3 n + hi (L2 x * y + L2 n + hi (L1 x * y + L1 n + hi (L0 x * y + L0 n + 0))))) = L4 (n + x * y) := by
    rw [Int.zero_add, ← k3, wrap_lo]; rfl
  rw [r4, ← r0, ← r1, ← r2, ← r3] at h
  exact h
end Go.Proofs.Ytgjdegahofoalaa.Wide

/- wide.Product: a product of 512 bits. -/
namespace Go.Proofs.Ytgjdegahofoalaa.Wide
open Go.RowKit

theorem step_copy8 {P : Program} {ops : Array Oper} {o : Oper} {a : Act} {w : World} {K : Act → World → Prop} {Q : Exit → Act → World → Prop} {E : Prop} (hgd : o.guard = none) (d s : Operand) (dT sT : TypeId)
    (ho : o.op = .call { callee := .builtin .copy, args := #[d, s], argTypes := #[dT, sT] }) (elem : TypeId) (hu : P.underlying dT = some (.slice elem)) (hsz : (P.info? elem).map (·.size) = some 1)
    (b dLen dCap sb sLen sCap : Nat) (hd : a.eval d = .slice (some ⟨b, 0, none⟩) dLen dCap) (hs : a.eval s = .slice (some ⟨sb, 0, none⟩) sLen sCap) (v0 v1 v2 v3 v4 v5 v6 v7 : Int) (hn : 8 = Nat.min sLen dLen)
    (s0 : w.cell? ⟨sb, 0 + 0, none⟩ = some (.int .u64 v0)) (s1 : w.cell? ⟨sb, 0 + 1, none⟩ = some (.int .u64 v1)) (s2 : w.cell? ⟨sb, 0 + 2, none⟩ = some (.int .u64 v2)) (s3 : w.cell? ⟨sb, 0 + 3, none⟩ = some (.int .u64 v3)) (s4 : w.cell? ⟨sb, 0 + 4, none⟩ = some (.int .u64 v4)) (s5 : w.cell? ⟨sb, 0 + 5, none⟩ = some (.int .u64 v5)) (s6 : w.cell? ⟨sb, 0 + 6, none⟩ = some (.int .u64 v6)) (s7 : w.cell? ⟨sb, 0 + 7, none⟩ = some (.int .u64 v7)) (d0 : (w.cell? ⟨b, 0 + 0, none⟩).isSome = true) (f0 : w.frozen? ⟨b, 0 + 0, none⟩ = false) (d1 : (w.cell? ⟨b, 0 + 1, none⟩).isSome = true) (f1 : w.frozen? ⟨b, 0 + 1, none⟩ = false) (d2 : (w.cell? ⟨b, 0 + 2, none⟩).isSome = true) (f2 : w.frozen? ⟨b, 0 + 2, none⟩ = false) (d3 : (w.cell? ⟨b, 0 + 3, none⟩).isSome = true) (f3 : w.frozen? ⟨b, 0 + 3, none⟩ = false) (d4 : (w.cell? ⟨b, 0 + 4, none⟩).isSome = true) (f4 : w.frozen? ⟨b, 0 + 4, none⟩ = false) (d5 : (w.cell? ⟨b, 0 + 5, none⟩).isSome = true) (f5 : w.frozen? ⟨b, 0 + 5, none⟩ = false) (d6 : (w.cell? ⟨b, 0 + 6, none⟩).isSome = true) (f6 : w.frozen? ⟨b, 0 + 6, none⟩ = false) (d7 : (w.cell? ⟨b, 0 + 7, none⟩).isSome = true) (f7 : w.frozen? ⟨b, 0 + 7, none⟩ = false)
    (h : K (a.put o.dst (goInt 8)) (w.setCells b 0 [.int .u64 v0, .int .u64 v1, .int .u64 v2, .int .u64 v3, .int .u64 v4, .int .u64 v5, .int .u64 v6, .int .u64 v7])) :
    if Region.wanted o (yielded ops a.tmps) = true then Oper.wp P o a w K Q else E := by
  refine step_copy_cells hgd d s dT sT ho elem hu hsz b 0 dLen dCap sb 0 sLen sCap hd hs [.int .u64 v0, .int .u64 v1, .int .u64 v2, .int .u64 v3, .int .u64 v4, .int .u64 v5, .int .u64 v6, .int .u64 v7] hn ?_ ?_ ?_ (by simp [Value.oneCell']) h
  · intro j hj
    match j, hj with
    | 0, _ => exact s0
    | 1, _ => exact s1
    | 2, _ => exact s2
    | 3, _ => exact s3
    | 4, _ => exact s4
    | 5, _ => exact s5
    | 6, _ => exact s6
    | 7, _ => exact s7
  · intro j hj
    have hj' : j < 8 := hj
    match j, hj' with
    | 0, _ => exact d0
    | 1, _ => exact d1
    | 2, _ => exact d2
    | 3, _ => exact d3
    | 4, _ => exact d4
    | 5, _ => exact d5
    | 6, _ => exact d6
    | 7, _ => exact d7
  · intro j hj
    have hj' : j < 8 := hj
    match j, hj' with
    | 0, _ => exact f0
    | 1, _ => exact f1
    | 2, _ => exact f2
    | 3, _ => exact f3
    | 4, _ => exact f4
    | 5, _ => exact f5
    | 6, _ => exact f6
    | 7, _ => exact f7
set_option maxHeartbeats 400000 in
set_option maxRecDepth 100000 in
theorem product_walk {x y m0 m1 m2 m3 : Int} (ux : U256 x) (uy : U256 y) (e0 : x * L0 y = m0) (e1 : hi m0 + x * L1 y = m1) (e2 : hi m1 + x * L2 y = m2) (e3 : hi m2 + x * L3 y = m3) (v0 : U256 (hi m0)) (v1 : U256 (hi m1)) (v2 : U256 (hi m2)) (w : World) :
    Calls Try.prog 34 #[.agg #[.int .u64 (L0 x), .int .u64 (L1 x), .int .u64 (L2 x), .int .u64 (L3 x)], .agg #[.int .u64 (L0 y), .int .u64 (L1 y), .int .u64 (L2 y), .int .u64 (L3 y)]] w fun e w' => e = .returned (.agg #[.int .u64 (L0 m0), .int .u64 (L0 m1), .int .u64 (L0 m2), .int .u64 (L0 m3), .int .u64 (L1 m3), .int .u64 (L2 m3), .int .u64 (L3 m3), .int .u64 (L4 m3)]) ∧ Below w.heap.size w w' := by
  have i0 : ∀ w, (Instr.index 24 (.agg #[.int .u64 (L0 y), .int .u64 (L1 y), .int .u64 (L2 y), .int .u64 (L3 y)]) (.int .i64 0)).run Try.prog w = .ok (.int .u64 (L0 y)) w := fun _ => by kernel_rfl
  have i1 : ∀ w, (Instr.index 24 (.agg #[.int .u64 (L0 y), .int .u64 (L1 y), .int .u64 (L2 y), .int .u64 (L3 y)]) (.int .i64 1)).run Try.prog w = .ok (.int .u64 (L1 y)) w := fun _ => by kernel_rfl
  have i2 : ∀ w, (Instr.index 24 (.agg #[.int .u64 (L0 y), .int .u64 (L1 y), .int .u64 (L2 y), .int .u64 (L3 y)]) (.int .i64 2)).run Try.prog w = .ok (.int .u64 (L2 y)) w := fun _ => by kernel_rfl
  have i3 : ∀ w, (Instr.index 24 (.agg #[.int .u64 (L0 y), .int .u64 (L1 y), .int .u64 (L2 y), .int .u64 (L3 y)]) (.int .i64 3)).run Try.prog w = .ok (.int .u64 (L3 y)) w := fun _ => by kernel_rfl
  go_enter Try.func34, Try.ntmps34
  go_wp2_with fail
  refine wp_loop_rounds 5 ?_
  rw [rounds_succ]
  go_wp2_with fail
  go_region_held3 (fun w' => w'.cell? ⟨w.heap.size, 0, none⟩ = some (.int .u64 (L0 x)) ∧ w'.cell? ⟨w.heap.size, 1, none⟩ = some (.int .u64 (L1 x)) ∧ w'.cell? ⟨w.heap.size, 2, none⟩ = some (.int .u64 (L2 x)) ∧ w'.cell? ⟨w.heap.size, 3, none⟩ = some (.int .u64 (L3 x)))
    ((refine ⟨?_, ?_, ?_, ?_⟩; all_goals go_simp))
    (first | (go_at_call 41; refine (mulAdd_num (w.heap.size + 1 + 1 + 1 + 1) 0 9 9 (n := 0) (t0 := 0) (t1 := 0) (t2 := 0) (t3 := 0) _ (by simp <;> omega) (by decide) (L0_u y) ux ⟨by decide, by decide⟩ rfl rfl rfl rfl (by go_simp) (by go_simp) (by go_simp) (by go_simp) (by go_simp) (by go_simp) (by go_simp) (by go_simp) (by go_simp) (by go_simp)).mono ?_; rintro e w' ⟨rfl, rfl⟩))
  go_wp2_with fail
  rw [rounds_succ]
  go_wp2_with fail
  go_region_held3 (fun w' => w'.cell? ⟨w.heap.size, 0, none⟩ = some (.int .u64 (L0 x)) ∧ w'.cell? ⟨w.heap.size, 1, none⟩ = some (.int .u64 (L1 x)) ∧ w'.cell? ⟨w.heap.size, 2, none⟩ = some (.int .u64 (L2 x)) ∧ w'.cell? ⟨w.heap.size, 3, none⟩ = some (.int .u64 (L3 x)))
    ((refine ⟨?_, ?_, ?_, ?_⟩; all_goals go_simp))
    (first | (go_at_call 41; refine (mulAdd_num (w.heap.size + 1 + 1 + 1 + 1) 1 8 8 (n := hi m0) (t0 := L1 m0) (t1 := L2 m0) (t2 := L3 m0) (t3 := L4 m0) _ (by simp <;> omega) (by decide) (L1_u y) ux v0 rfl rfl rfl rfl (by go_simp) (by go_simp) (by go_simp) (by go_simp) (by go_simp) (by go_simp) (by go_simp) (by go_simp) (by go_simp) (by go_simp)).mono ?_; rintro e w' ⟨rfl, rfl⟩))
  go_wp2_with fail
  rw [rounds_succ]
  go_wp2_with fail
  go_region_held3 (fun w' => w'.cell? ⟨w.heap.size, 0, none⟩ = some (.int .u64 (L0 x)) ∧ w'.cell? ⟨w.heap.size, 1, none⟩ = some (.int .u64 (L1 x)) ∧ w'.cell? ⟨w.heap.size, 2, none⟩ = some (.int .u64 (L2 x)) ∧ w'.cell? ⟨w.heap.size, 3, none⟩ = some (.int .u64 (L3 x)))
    ((refine ⟨?_, ?_, ?_, ?_⟩; all_goals go_simp))
    (first | (go_at_call 41; refine (mulAdd_num (w.heap.size + 1 + 1 + 1 + 1) 2 7 7 (n := hi m1) (t0 := L1 m1) (t1 := L2 m1) (t2 := L3 m1) (t3 := L4 m1) _ (by simp <;> omega) (by decide) (L2_u y) ux v1 rfl rfl rfl rfl (by go_simp) (by go_simp) (by go_simp) (by go_simp) (by go_simp) (by go_simp) (by go_simp) (by go_simp) (by go_simp) (by go_simp)).mono ?_; rintro e w' ⟨rfl, rfl⟩))
  go_wp2_with fail
  rw [rounds_succ]
  go_wp2_with fail
  go_region_held3 (fun w' => w'.cell? ⟨w.heap.size, 0, none⟩ = some (.int .u64 (L0 x)) ∧ w'.cell? ⟨w.heap.size, 1, none⟩ = some (.int .u64 (L1 x)) ∧ w'.cell? ⟨w.heap.size, 2, none⟩ = some (.int .u64 (L2 x)) ∧ w'.cell? ⟨w.heap.size, 3, none⟩ = some (.int .u64 (L3 x)))
    ((refine ⟨?_, ?_, ?_, ?_⟩; all_goals go_simp))
    (first | (go_at_call 41; refine (mulAdd_num (w.heap.size + 1 + 1 + 1 + 1) 3 6 6 (n := hi m2) (t0 := L1 m2) (t1 := L2 m2) (t2 := L3 m2) (t3 := L4 m2) _ (by simp <;> omega) (by decide) (L3_u y) ux v2 rfl rfl rfl rfl (by go_simp) (by go_simp) (by go_simp) (by go_simp) (by go_simp) (by go_simp) (by go_simp) (by go_simp) (by go_simp) (by go_simp)).mono ?_; rintro e w' ⟨rfl, rfl⟩))
  go_wp2_with fail
  rw [rounds_succ]
  go_wp2_with fail
  go_region_law ((refine step_copy8 rfl _ _ _ _ rfl 22 Try.underlying75 (by kernel_rfl) (w.heap.size + 1 + 1 + 1) 8 8 (w.heap.size + 1 + 1 + 1 + 1) 9 9 rfl rfl (L0 m0) (L0 m1) (L0 m2) (L0 m3) (L1 m3) (L2 m3) (L3 m3) (L4 m3) rfl (by go_simp) (by go_simp) (by go_simp) (by go_simp) (by go_simp) (by go_simp) (by go_simp) (by go_simp) (by go_simp) (by go_simp) (by go_simp) (by go_simp) (by go_simp) (by go_simp) (by go_simp) (by go_simp) (by go_simp) (by go_simp) (by go_simp) (by go_simp) (by go_simp) (by go_simp) (by go_simp) (by go_simp) ?_))
  go_wp2_with fail
  refine bodyPost_ret (v := .agg #[.int .u64 (L0 m0), .int .u64 (L0 m1), .int .u64 (L0 m2), .int .u64 (L0 m3), .int .u64 (L1 m3), .int .u64 (L2 m3), .int .u64 (L3 m3), .int .u64 (L4 m3)]) (by simp [results, Try.results34, go_sem]) rfl ⟨rfl, ?_⟩
  repeat (first | exact Below.refl _ _ | assumption | apply bdrewN | apply below_drew1 | apply below_al | (refine below_set (by simp <;> omega) ?_))

abbrev A8 (n : Int) : Value := .agg #[.int .u64 (L0 n), .int .u64 (L1 n), .int .u64 (L2 n), .int .u64 (L3 n), .int .u64 (L4 n), .int .u64 (L5 n), .int .u64 (L6 n), .int .u64 (L7 n)]
theorem product_calls {x y : Int} (ux : U256 x) (uy : U256 y) (w : World) : Calls Try.prog 34 #[.agg #[.int .u64 (L0 x), .int .u64 (L1 x), .int .u64 (L2 x), .int .u64 (L3 x)], .agg #[.int .u64 (L0 y), .int .u64 (L1 y), .int .u64 (L2 y), .int .u64 (L3 y)]] w fun e w' => e = .returned (A8 (x * y)) ∧ Below w.heap.size w w' := by
  obtain ⟨b0, b1, b2, r0, r1, r2, r3, r4, r5, r6, r7⟩ := prod_limbs ux uy rfl rfl rfl rfl
  have h := product_walk ux uy rfl rfl rfl rfl b0 b1 b2 w
  rw [r0, r1, r2, r3, r4, r5, r6, r7] at h
  exact h
end Go.Proofs.Ytgjdegahofoalaa.Wide

/- wide.narrow: a number of 512 bits as one of 256. -/
namespace Go.Proofs.Ytgjdegahofoalaa.Wide
open Go.RowKit

theorem or_zero {x y : Int} (hx : U64 x) (hy : U64 y) : U64 (Go.bits .or .u64 x y) ∧ (Go.bits .or .u64 x y = 0 ↔ x = 0 ∧ y = 0) := by
  obtain ⟨a, rfl⟩ := Int.eq_ofNat_of_zero_le hx.1
  obtain ⟨b, rfl⟩ := Int.eq_ofNat_of_zero_le hy.1
  have h64 : (2 : Nat) ^ 64 = 18446744073709551616 := rfl
  have ha : a < 2 ^ 64 := by have := hx.2; rw [h64]; omega
  have hb : b < 2 ^ 64 := by have := hy.2; rw [h64]; omega
  have hk : ∀ n : Int, 0 ≤ n → n < 2 ^ 64 → IntKind.u64.wrap n = n := by
    intro n h0 h1
    have h1' : n < 18446744073709551616 := h1
    rw [wrap_lo]; unfold lo; omega
  rw [(bits_nat .u64 64 (by decide) hk a b ha hb).2]
  have hlt := Nat.or_lt_two_pow ha hb
  rw [h64] at hlt
  refine ⟨⟨by omega, by omega⟩, ?_⟩
  rw [show ((0 : Int) = ((0 : Nat) : Int)) from rfl, Int.natCast_inj, Int.natCast_inj, Int.natCast_inj, Nat.or_eq_zero_iff]
set_option maxHeartbeats 2000000 in
set_option maxRecDepth 100000 in
theorem narrow_over (n : Int) (w : World) (hz : (Go.bits .or .u64 (Go.bits .or .u64 (Go.bits .or .u64 (L4 n) (L5 n)) (L6 n)) (L7 n) != 0) = true) :
    Calls Try.prog 35 #[.agg #[.int .u64 (L0 n), .int .u64 (L1 n), .int .u64 (L2 n), .int .u64 (L3 n), .int .u64 (L4 n), .int .u64 (L5 n), .int .u64 (L6 n), .int .u64 (L7 n)]] w fun e w' => e = .returned (.tuple #[.agg #[.int .u64 0, .int .u64 0, .int .u64 0, .int .u64 0], .int .i64 2]) ∧ Below w.heap.size w w' := by
  have ha : ∀ (a : Addr) (w : World), (Instr.arrayAt 24 (.slice (some a) 4 4)).run Try.prog w = .ok (.pointer (some a)) w := fun _ _ => by kernel_rfl
  have hb : ∀ (a : Addr) (w : World), (Instr.arrayAt 24 (.slice (some a) 4 8)).run Try.prog w = .ok (.pointer (some a)) w := fun _ _ => by kernel_rfl
  go_enter Try.func35, Try.ntmps35
  go_wp2_with fail
  refine bodyPost_ret (v := .tuple #[.agg #[.int .u64 0, .int .u64 0, .int .u64 0, .int .u64 0], .int .i64 2]) (by simp [results, Try.results35, go_sem]) rfl ⟨rfl, ?_⟩
  repeat (first | exact Below.refl _ _ | assumption | apply bdrewN | apply below_drew1 | apply below_al | (refine below_set (by simp <;> omega) ?_))
set_option maxHeartbeats 2000000 in
set_option maxRecDepth 100000 in
theorem narrow_fits (n : Int) (w : World) (hz : (Go.bits .or .u64 (Go.bits .or .u64 (Go.bits .or .u64 (L4 n) (L5 n)) (L6 n)) (L7 n) != 0) = false) :
    Calls Try.prog 35 #[.agg #[.int .u64 (L0 n), .int .u64 (L1 n), .int .u64 (L2 n), .int .u64 (L3 n), .int .u64 (L4 n), .int .u64 (L5 n), .int .u64 (L6 n), .int .u64 (L7 n)]] w fun e w' => e = .returned (.tuple #[.agg #[.int .u64 (L0 n), .int .u64 (L1 n), .int .u64 (L2 n), .int .u64 (L3 n)], .int .i64 0]) ∧ Below w.heap.size w w' := by
  have ha : ∀ (a : Addr) (w : World), (Instr.arrayAt 24 (.slice (some a) 4 4)).run Try.prog w = .ok (.pointer (some a)) w := fun _ _ => by kernel_rfl
  have hb : ∀ (a : Addr) (w : World), (Instr.arrayAt 24 (.slice (some a) 4 8)).run Try.prog w = .ok (.pointer (some a)) w := fun _ _ => by kernel_rfl
  go_enter Try.func35, Try.ntmps35
  go_wp2_with fail
  refine bodyPost_ret (v := .tuple #[.agg #[.int .u64 (L0 n), .int .u64 (L1 n), .int .u64 (L2 n), .int .u64 (L3 n)], .int .i64 0]) (by simp [results, Try.results35, go_sem]) rfl ⟨rfl, ?_⟩
  repeat (first | exact Below.refl _ _ | assumption | apply bdrewN | apply below_drew1 | apply below_al | (refine below_set (by simp <;> omega) ?_))
end Go.Proofs.Ytgjdegahofoalaa.Wide
