/- huge.chain at limb.Add and at limb.Sub: what it computes. -/
import Derived.Test.YtjikhdjkpagjmaaBase
import Derived.Test.YtjikhdjkpagjmaaNum
import Derived.Test.YtjikhdjkpagjmaaLimb
namespace Go.Proofs.Ytjikhdjkpagjmaa.Huge
open Go.RowKit
set_option linter.unusedVariables false
set_option linter.unusedSimpArgs false

/-- A function on three limbs that hands back two, and turns nothing. -/
def Steps3 (g : Nat) (sf : Int → Int → Int → Int × Int) : Prop :=
  ∀ (x y c : Int) (w : World), Calls Try.prog g #[.int .u64 x, .int .u64 y, .int .u64 c] w fun e w' => e = .returned (.tuple #[.int .u64 (sf x y c).1, .int .u64 (sf x y c).2]) ∧ ∃ n, w' = w.drewN n

set_option maxHeartbeats 4000000 in
set_option maxRecDepth 100000 in
theorem chain_add_yes (sf : Int → Int → Int → Int × Int) (hs : Steps3 38 sf) (a0 a1 a2 a3 b0 b1 b2 b3 : Int) (w : World)
    (hc : ((sf a3 b3 (sf a2 b2 (sf a1 b1 (sf a0 b0 0).2).2).2).2 != 0) = false) :
    Calls Try.prog 17 #[.agg #[.int .u64 a0, .int .u64 a1, .int .u64 a2, .int .u64 a3], .agg #[.int .u64 b0, .int .u64 b1, .int .u64 b2, .int .u64 b3], .func (.func 38) #[] #[]] w
      fun e w' => e = .returned (.tuple #[.agg #[.int .u64 (sf a0 b0 0).1, .int .u64 (sf a1 b1 (sf a0 b0 0).2).1, .int .u64 (sf a2 b2 (sf a1 b1 (sf a0 b0 0).2).2).1, .int .u64 (sf a3 b3 (sf a2 b2 (sf a1 b1 (sf a0 b0 0).2).2).2).1], .int .i64 0]) ∧ Below w.heap.size w w' := by
  go_enter Try.func17, Try.ntmps17
  go_wp2_with fail
  refine wp_loop_rounds 5 ?_
  rw [rounds_succ]
  go_wp2_with fail
  go_region_held3 (fun w' => w'.cell? ⟨w.heap.size, 0, none⟩ = some (.int .u64 a0) ∧ w'.cell? ⟨w.heap.size + 1, 0, none⟩ = some (.int .u64 b0)) (first | go_keep | (refine ⟨?_, ?_⟩ <;> go_simp))
    (first | (go_at_call 38; refine (hs _ _ _ _).mono ?_; rintro e w1 ⟨rfl, n, rfl⟩))
  go_wp2_with fail
  rw [rounds_succ]
  go_wp2_with fail
  go_region_held3 (fun w' => w'.cell? ⟨w.heap.size, 1, none⟩ = some (.int .u64 a1) ∧ w'.cell? ⟨w.heap.size + 1, 1, none⟩ = some (.int .u64 b1)) (first | go_keep | (refine ⟨?_, ?_⟩ <;> go_simp))
    (first | (go_at_call 38; refine (hs _ _ _ _).mono ?_; rintro e w1 ⟨rfl, n, rfl⟩))
  go_wp2_with fail
  rw [rounds_succ]
  go_wp2_with fail
  go_region_held3 (fun w' => w'.cell? ⟨w.heap.size, 2, none⟩ = some (.int .u64 a2) ∧ w'.cell? ⟨w.heap.size + 1, 2, none⟩ = some (.int .u64 b2)) (first | go_keep | (refine ⟨?_, ?_⟩ <;> go_simp))
    (first | (go_at_call 38; refine (hs _ _ _ _).mono ?_; rintro e w1 ⟨rfl, n, rfl⟩))
  go_wp2_with fail
  rw [rounds_succ]
  go_wp2_with fail
  go_region_held3 (fun w' => w'.cell? ⟨w.heap.size, 3, none⟩ = some (.int .u64 a3) ∧ w'.cell? ⟨w.heap.size + 1, 3, none⟩ = some (.int .u64 b3)) (first | go_keep | (refine ⟨?_, ?_⟩ <;> go_simp))
    (first | (go_at_call 38; refine (hs _ _ _ _).mono ?_; rintro e w1 ⟨rfl, n, rfl⟩))
  go_wp2_with fail
  rw [rounds_succ]
  go_wp2_with fail
  refine bodyPost_ret (v := .tuple #[.agg #[.int .u64 (sf a0 b0 0).1, .int .u64 (sf a1 b1 (sf a0 b0 0).2).1, .int .u64 (sf a2 b2 (sf a1 b1 (sf a0 b0 0).2).2).1, .int .u64 (sf a3 b3 (sf a2 b2 (sf a1 b1 (sf a0 b0 0).2).2).2).1], .int .i64 0]) (by simp [results, Try.results17, go_sem]) rfl ⟨rfl, ?_⟩
  repeat (first | exact Below.refl _ _ | apply bdrewN | apply below_al)
set_option maxHeartbeats 4000000 in
set_option maxRecDepth 100000 in
theorem chain_add_no (sf : Int → Int → Int → Int × Int) (hs : Steps3 38 sf) (a0 a1 a2 a3 b0 b1 b2 b3 : Int) (w : World)
    (hc : ((sf a3 b3 (sf a2 b2 (sf a1 b1 (sf a0 b0 0).2).2).2).2 != 0) = true) :
    Calls Try.prog 17 #[.agg #[.int .u64 a0, .int .u64 a1, .int .u64 a2, .int .u64 a3], .agg #[.int .u64 b0, .int .u64 b1, .int .u64 b2, .int .u64 b3], .func (.func 38) #[] #[]] w
      fun e w' => e = .returned (.tuple #[.agg #[.int .u64 0, .int .u64 0, .int .u64 0, .int .u64 0], .int .i64 2]) ∧ Below w.heap.size w w' := by
  go_enter Try.func17, Try.ntmps17
  go_wp2_with fail
  refine wp_loop_rounds 5 ?_
  rw [rounds_succ]
  go_wp2_with fail
  go_region_held3 (fun w' => w'.cell? ⟨w.heap.size, 0, none⟩ = some (.int .u64 a0) ∧ w'.cell? ⟨w.heap.size + 1, 0, none⟩ = some (.int .u64 b0)) (first | go_keep | (refine ⟨?_, ?_⟩ <;> go_simp))
    (first | (go_at_call 38; refine (hs _ _ _ _).mono ?_; rintro e w1 ⟨rfl, n, rfl⟩))
  go_wp2_with fail
  rw [rounds_succ]
  go_wp2_with fail
  go_region_held3 (fun w' => w'.cell? ⟨w.heap.size, 1, none⟩ = some (.int .u64 a1) ∧ w'.cell? ⟨w.heap.size + 1, 1, none⟩ = some (.int .u64 b1)) (first | go_keep | (refine ⟨?_, ?_⟩ <;> go_simp))
    (first | (go_at_call 38; refine (hs _ _ _ _).mono ?_; rintro e w1 ⟨rfl, n, rfl⟩))
  go_wp2_with fail
  rw [rounds_succ]
  go_wp2_with fail
  go_region_held3 (fun w' => w'.cell? ⟨w.heap.size, 2, none⟩ = some (.int .u64 a2) ∧ w'.cell? ⟨w.heap.size + 1, 2, none⟩ = some (.int .u64 b2)) (first | go_keep | (refine ⟨?_, ?_⟩ <;> go_simp))
    (first | (go_at_call 38; refine (hs _ _ _ _).mono ?_; rintro e w1 ⟨rfl, n, rfl⟩))
  go_wp2_with fail
  rw [rounds_succ]
  go_wp2_with fail
  go_region_held3 (fun w' => w'.cell? ⟨w.heap.size, 3, none⟩ = some (.int .u64 a3) ∧ w'.cell? ⟨w.heap.size + 1, 3, none⟩ = some (.int .u64 b3)) (first | go_keep | (refine ⟨?_, ?_⟩ <;> go_simp))
    (first | (go_at_call 38; refine (hs _ _ _ _).mono ?_; rintro e w1 ⟨rfl, n, rfl⟩))
  go_wp2_with fail
  rw [rounds_succ]
  go_wp2_with fail
  refine bodyPost_ret (v := .tuple #[.agg #[.int .u64 0, .int .u64 0, .int .u64 0, .int .u64 0], .int .i64 2]) (by simp [results, Try.results17, go_sem]) rfl ⟨rfl, ?_⟩
  repeat (first | exact Below.refl _ _ | apply bdrewN | apply below_al)
set_option maxHeartbeats 4000000 in
set_option maxRecDepth 100000 in
theorem chain_sub_yes (sf : Int → Int → Int → Int × Int) (hs : Steps3 18 sf) (a0 a1 a2 a3 b0 b1 b2 b3 : Int) (w : World)
    (hc : ((sf a3 b3 (sf a2 b2 (sf a1 b1 (sf a0 b0 0).2).2).2).2 != 0) = false) :
    Calls Try.prog 17 #[.agg #[.int .u64 a0, .int .u64 a1, .int .u64 a2, .int .u64 a3], .agg #[.int .u64 b0, .int .u64 b1, .int .u64 b2, .int .u64 b3], .func (.func 18) #[] #[]] w
      fun e w' => e = .returned (.tuple #[.agg #[.int .u64 (sf a0 b0 0).1, .int .u64 (sf a1 b1 (sf a0 b0 0).2).1, .int .u64 (sf a2 b2 (sf a1 b1 (sf a0 b0 0).2).2).1, .int .u64 (sf a3 b3 (sf a2 b2 (sf a1 b1 (sf a0 b0 0).2).2).2).1], .int .i64 0]) ∧ Below w.heap.size w w' := by
  go_enter Try.func17, Try.ntmps17
  go_wp2_with fail
  refine wp_loop_rounds 5 ?_
  rw [rounds_succ]
  go_wp2_with fail
  go_region_held3 (fun w' => w'.cell? ⟨w.heap.size, 0, none⟩ = some (.int .u64 a0) ∧ w'.cell? ⟨w.heap.size + 1, 0, none⟩ = some (.int .u64 b0)) (first | go_keep | (refine ⟨?_, ?_⟩ <;> go_simp))
    (first | (go_at_call 18; refine (hs _ _ _ _).mono ?_; rintro e w1 ⟨rfl, n, rfl⟩))
  go_wp2_with fail
  rw [rounds_succ]
  go_wp2_with fail
  go_region_held3 (fun w' => w'.cell? ⟨w.heap.size, 1, none⟩ = some (.int .u64 a1) ∧ w'.cell? ⟨w.heap.size + 1, 1, none⟩ = some (.int .u64 b1)) (first | go_keep | (refine ⟨?_, ?_⟩ <;> go_simp))
    (first | (go_at_call 18; refine (hs _ _ _ _).mono ?_; rintro e w1 ⟨rfl, n, rfl⟩))
  go_wp2_with fail
  rw [rounds_succ]
  go_wp2_with fail
  go_region_held3 (fun w' => w'.cell? ⟨w.heap.size, 2, none⟩ = some (.int .u64 a2) ∧ w'.cell? ⟨w.heap.size + 1, 2, none⟩ = some (.int .u64 b2)) (first | go_keep | (refine ⟨?_, ?_⟩ <;> go_simp))
    (first | (go_at_call 18; refine (hs _ _ _ _).mono ?_; rintro e w1 ⟨rfl, n, rfl⟩))
  go_wp2_with fail
  rw [rounds_succ]
  go_wp2_with fail
  go_region_held3 (fun w' => w'.cell? ⟨w.heap.size, 3, none⟩ = some (.int .u64 a3) ∧ w'.cell? ⟨w.heap.size + 1, 3, none⟩ = some (.int .u64 b3)) (first | go_keep | (refine ⟨?_, ?_⟩ <;> go_simp))
    (first | (go_at_call 18; refine (hs _ _ _ _).mono ?_; rintro e w1 ⟨rfl, n, rfl⟩))
  go_wp2_with fail
  rw [rounds_succ]
  go_wp2_with fail
  refine bodyPost_ret (v := .tuple #[.agg #[.int .u64 (sf a0 b0 0).1, .int .u64 (sf a1 b1 (sf a0 b0 0).2).1, .int .u64 (sf a2 b2 (sf a1 b1 (sf a0 b0 0).2).2).1, .int .u64 (sf a3 b3 (sf a2 b2 (sf a1 b1 (sf a0 b0 0).2).2).2).1], .int .i64 0]) (by simp [results, Try.results17, go_sem]) rfl ⟨rfl, ?_⟩
  repeat (first | exact Below.refl _ _ | apply bdrewN | apply below_al)
set_option maxHeartbeats 4000000 in
set_option maxRecDepth 100000 in
theorem chain_sub_no (sf : Int → Int → Int → Int × Int) (hs : Steps3 18 sf) (a0 a1 a2 a3 b0 b1 b2 b3 : Int) (w : World)
    (hc : ((sf a3 b3 (sf a2 b2 (sf a1 b1 (sf a0 b0 0).2).2).2).2 != 0) = true) :
    Calls Try.prog 17 #[.agg #[.int .u64 a0, .int .u64 a1, .int .u64 a2, .int .u64 a3], .agg #[.int .u64 b0, .int .u64 b1, .int .u64 b2, .int .u64 b3], .func (.func 18) #[] #[]] w
      fun e w' => e = .returned (.tuple #[.agg #[.int .u64 0, .int .u64 0, .int .u64 0, .int .u64 0], .int .i64 2]) ∧ Below w.heap.size w w' := by
  go_enter Try.func17, Try.ntmps17
  go_wp2_with fail
  refine wp_loop_rounds 5 ?_
  rw [rounds_succ]
  go_wp2_with fail
  go_region_held3 (fun w' => w'.cell? ⟨w.heap.size, 0, none⟩ = some (.int .u64 a0) ∧ w'.cell? ⟨w.heap.size + 1, 0, none⟩ = some (.int .u64 b0)) (first | go_keep | (refine ⟨?_, ?_⟩ <;> go_simp))
    (first | (go_at_call 18; refine (hs _ _ _ _).mono ?_; rintro e w1 ⟨rfl, n, rfl⟩))
  go_wp2_with fail
  rw [rounds_succ]
  go_wp2_with fail
  go_region_held3 (fun w' => w'.cell? ⟨w.heap.size, 1, none⟩ = some (.int .u64 a1) ∧ w'.cell? ⟨w.heap.size + 1, 1, none⟩ = some (.int .u64 b1)) (first | go_keep | (refine ⟨?_, ?_⟩ <;> go_simp))
    (first | (go_at_call 18; refine (hs _ _ _ _).mono ?_; rintro e w1 ⟨rfl, n, rfl⟩))
  go_wp2_with fail
  rw [rounds_succ]
  go_wp2_with fail
  go_region_held3 (fun w' => w'.cell? ⟨w.heap.size, 2, none⟩ = some (.int .u64 a2) ∧ w'.cell? ⟨w.heap.size + 1, 2, none⟩ = some (.int .u64 b2)) (first | go_keep | (refine ⟨?_, ?_⟩ <;> go_simp))
    (first | (go_at_call 18; refine (hs _ _ _ _).mono ?_; rintro e w1 ⟨rfl, n, rfl⟩))
  go_wp2_with fail
  rw [rounds_succ]
  go_wp2_with fail
  go_region_held3 (fun w' => w'.cell? ⟨w.heap.size, 3, none⟩ = some (.int .u64 a3) ∧ w'.cell? ⟨w.heap.size + 1, 3, none⟩ = some (.int .u64 b3)) (first | go_keep | (refine ⟨?_, ?_⟩ <;> go_simp))
    (first | (go_at_call 18; refine (hs _ _ _ _).mono ?_; rintro e w1 ⟨rfl, n, rfl⟩))
  go_wp2_with fail
  rw [rounds_succ]
  go_wp2_with fail
  refine bodyPost_ret (v := .tuple #[.agg #[.int .u64 0, .int .u64 0, .int .u64 0, .int .u64 0], .int .i64 2]) (by simp [results, Try.results17, go_sem]) rfl ⟨rfl, ?_⟩
  repeat (first | exact Below.refl _ _ | apply bdrewN | apply below_al)

/-- A number of 256 bits as a value: four limbs. -/
abbrev A4 (n : Int) : Value := .agg #[.int .u64 (L0 n), .int .u64 (L1 n), .int .u64 (L2 n), .int .u64 (L3 n)]
def addN (x y : Int) : Int := if x + y < 115792089237316195423570985008687907853269984665640564039457584007913129639936 then x + y else 0
def addE (x y : Int) : Int := if x + y < 115792089237316195423570985008687907853269984665640564039457584007913129639936 then 0 else 2
def subN (x y : Int) : Int := if y ≤ x then x - y else 0
def subE (x y : Int) : Int := if y ≤ x then 0 else 2
theorem add_steps : Steps3 38 Limb.addF := fun x y c w => (Limb.add_any x y c w).mono fun _ _ ⟨h, h'⟩ => ⟨h, 0, h'.symm⟩
theorem sub_steps : Steps3 18 Limb.subF := fun x y c w => (Limb.sub_any x y c w).mono fun _ _ ⟨h, h'⟩ => ⟨h, 0, h'.symm⟩
theorem chainAdd {x y : Int} (hx : U256 x) (hy : U256 y) (w : World) : Calls Try.prog 17 #[A4 x, A4 y, .func (.func 38) #[] #[]] w
    fun e w' => e = .returned (.tuple #[A4 (addN x y), .int .i64 (addE x y)]) ∧ Below w.heap.size w w' := by
  have s := sum4 x y
  have b0 : bit01 (0 : Int) := .inl rfl
  have c0 := hi_add (L0_u x) (L0_u y) b0
  have c1 := hi_add (L1_u x) (L1_u y) c0
  have c2 := hi_add (L2_u x) (L2_u y) c1
  have e0 := Limb.addF_eq (L0_u x) (L0_u y) b0
  have e1 := Limb.addF_eq (L1_u x) (L1_u y) c0
  have e2 := Limb.addF_eq (L2_u x) (L2_u y) c1
  have e3 := Limb.addF_eq (L3_u x) (L3_u y) c2
  unfold addS at e0 e1 e2 e3
  rw [hi4_0 hx, hi4_0 hy] at s
  have hyes := chain_add_yes Limb.addF add_steps (L0 x) (L1 x) (L2 x) (L3 x) (L0 y) (L1 y) (L2 y) (L3 y) w
  have hno := chain_add_no Limb.addF add_steps (L0 x) (L1 x) (L2 x) (L3 x) (L0 y) (L1 y) (L2 y) (L3 y) w
  simp only [e0, e1, e2, e3] at hyes hno
  rw [s.2.2.2.2, s.1, s.2.1, s.2.2.1, s.2.2.2.1] at hyes
  rw [s.2.2.2.2] at hno
  unfold U256 at hx hy
  by_cases h : x + y < 115792089237316195423570985008687907853269984665640564039457584007913129639936
  · unfold addN addE
    rw [if_pos h, if_pos h]
    refine hyes ?_
    rw [hi4_0 ⟨by omega, h⟩]; rfl
  · unfold addN addE
    rw [if_neg h, if_neg h]
    refine hno ?_
    rw [hi4_1 (by omega) (by omega)]; rfl
theorem chainSub {x y : Int} (hx : U256 x) (hy : U256 y) (w : World) : Calls Try.prog 17 #[A4 x, A4 y, .func (.func 18) #[] #[]] w
    fun e w' => e = .returned (.tuple #[A4 (subN x y), .int .i64 (subE x y)]) ∧ Below w.heap.size w w' := by
  have s := diff4 x y
  have b0 : bit01 (0 : Int) := .inl rfl
  have c0 := hi_sub (L0_u x) (L0_u y) b0
  have c1 := hi_sub (L1_u x) (L1_u y) c0
  have c2 := hi_sub (L2_u x) (L2_u y) c1
  have e0 := Limb.subF_eq (L0_u x) (L0_u y) b0
  have e1 := Limb.subF_eq (L1_u x) (L1_u y) c0
  have e2 := Limb.subF_eq (L2_u x) (L2_u y) c1
  have e3 := Limb.subF_eq (L3_u x) (L3_u y) c2
  unfold subS at e0 e1 e2 e3
  rw [hi4_0 hx, hi4_0 hy] at s
  have hyes := chain_sub_yes Limb.subF sub_steps (L0 x) (L1 x) (L2 x) (L3 x) (L0 y) (L1 y) (L2 y) (L3 y) w
  have hno := chain_sub_no Limb.subF sub_steps (L0 x) (L1 x) (L2 x) (L3 x) (L0 y) (L1 y) (L2 y) (L3 y) w
  simp only [e0, e1, e2, e3] at hyes hno
  rw [s.2.2.2.2, s.1, s.2.1, s.2.2.1, s.2.2.2.1] at hyes
  rw [s.2.2.2.2] at hno
  unfold U256 at hx hy
  by_cases h : y ≤ x
  · unfold subN subE
    rw [if_pos h, if_pos h]
    refine hyes ?_
    rw [hi4_0 ⟨by omega, by omega⟩]; rfl
  · unfold subN subE
    rw [if_neg h, if_neg h]
    refine hno ?_
    rw [hi4_n (by omega) (by omega)]; rfl
end Go.Proofs.Ytjikhdjkpagjmaa.Huge
