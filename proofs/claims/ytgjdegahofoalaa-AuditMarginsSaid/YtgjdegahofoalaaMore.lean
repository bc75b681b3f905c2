/- audit.more; sums of noughts and ones; two numbers of 512 bits, are they one? -/
import Derived.Test.YtgjdegahofoalaaSum
import Derived.Test.YtgjdegahofoalaaEq
set_option linter.unusedVariables false
set_option linter.unusedSimpArgs false
namespace Go.Proofs.Ytgjdegahofoalaa.Audit
open Go.RowKit Go.Proofs.Ytgjdegahofoalaa.Huge
theorem small_limbs {n : Int} (h0 : 0 ≤ n) (h1 : n ≤ 1) : L0 n = n ∧ L1 n = 0 ∧ L2 n = 0 ∧ L3 n = 0 := by
  unfold L0 L1 L2 L3 lo hi
  omega
theorem sum_small (N S : Nat → Int) (m cap : Nat) (b : Nat) (w : World) (hb : b < w.heap.size) (hm : m ≤ 1000) (hS0 : S 0 = 0) (hS : ∀ i, i < m → S (i + 1) = S i + N i) (hN : ∀ i, i < m → 0 ≤ N i ∧ N i ≤ 1) (hS1 : ∀ i, i ≤ m → 0 ≤ S i ∧ S i ≤ 1)
    (hc : ∀ i, i < m → w.cell? ⟨b, i * 4, none⟩ = some (.int .u64 (N i)) ∧ w.cell? ⟨b, i * 4 + 1, none⟩ = some (.int .u64 0) ∧ w.cell? ⟨b, i * 4 + 2, none⟩ = some (.int .u64 0) ∧ w.cell? ⟨b, i * 4 + 3, none⟩ = some (.int .u64 0)) :
    Calls Try.prog 29 #[.slice (some ⟨b, 0, none⟩) m cap] w fun e w' => e = .returned (.agg #[.int .u64 (S m), .int .u64 0, .int .u64 0, .int .u64 0, .int .u64 0, .int .u64 0, .int .u64 0, .int .u64 0]) ∧ Below w.heap.size w w' := by
  have h := sum_to N S m cap b w hb hm hS0 (Lib.hid fun i hi w => ?_) (Lib.hid fun i hi => ?_)
  · have e := small_limbs (hS1 m (Nat.le_refl _)).1 (hS1 m (Nat.le_refl _)).2
    rw [e.1, e.2.1, e.2.2.1, e.2.2.2] at h
    exact h
  · have h1 := hS1 i (by omega)
    have h2 := hN i hi
    have h3 := hS1 (i + 1) (by omega)
    have k := add_calls (x := S i) (y := N i) ⟨h1.1, by omega⟩ ⟨h2.1, by omega⟩ w
    unfold addN addE at k
    rw [if_pos (by omega), if_pos (by omega), ← hS i hi] at k
    exact k
  · have e := small_limbs (hN i hi).1 (hN i hi).2
    rw [e.1, e.2.1, e.2.2.1, e.2.2.2]
    exact hc i hi
theorem sum1 {x : Int} (b cap : Nat) (w : World) (hb : b < w.heap.size) (hx : 0 ≤ x ∧ x ≤ 1) (c0 : w.cell? ⟨b, 0, none⟩ = some (.int .u64 x)) (c1 : w.cell? ⟨b, 1, none⟩ = some (.int .u64 0)) (c2 : w.cell? ⟨b, 2, none⟩ = some (.int .u64 0)) (c3 : w.cell? ⟨b, 3, none⟩ = some (.int .u64 0)) :
    Calls Try.prog 29 #[.slice (some ⟨b, 0, none⟩) 1 cap] w fun e w' => e = .returned (.agg #[.int .u64 x, .int .u64 0, .int .u64 0, .int .u64 0, .int .u64 0, .int .u64 0, .int .u64 0, .int .u64 0]) ∧ Below w.heap.size w w' := by
  refine sum_small (fun i => match i with | 0 => x | _ => 0) (fun i => match i with | 0 => 0 | 1 => x | _ => 0) 1 cap b w hb (by decide) rfl ?_ ?_ ?_ ?_
  · intro i hi
    match i, hi with
    | 0, _ => simp
  · intro i hi
    match i, hi with
    | 0, _ => exact hx
  · intro i hi
    have hi : i < 2 := by omega
    match i, hi with
    | 0, _ => simp <;> omega
    | 1, _ => simp <;> omega
  · intro i hi
    match i, hi with
    | 0, _ => exact ⟨c0, c1, c2, c3⟩
theorem sum2 {x y : Int} (b cap : Nat) (w : World) (hb : b < w.heap.size) (hx : 0 ≤ x ∧ x ≤ 1) (hy : 0 ≤ y ∧ y ≤ 1) (ht : (x + y) ≤ 1) (c0 : w.cell? ⟨b, 0, none⟩ = some (.int .u64 x)) (c1 : w.cell? ⟨b, 1, none⟩ = some (.int .u64 0)) (c2 : w.cell? ⟨b, 2, none⟩ = some (.int .u64 0)) (c3 : w.cell? ⟨b, 3, none⟩ = some (.int .u64 0)) (c4 : w.cell? ⟨b, 4, none⟩ = some (.int .u64 y)) (c5 : w.cell? ⟨b, 5, none⟩ = some (.int .u64 0)) (c6 : w.cell? ⟨b, 6, none⟩ = some (.int .u64 0)) (c7 : w.cell? ⟨b, 7, none⟩ = some (.int .u64 0)) :
    Calls Try.prog 29 #[.slice (some ⟨b, 0, none⟩) 2 cap] w fun e w' => e = .returned (.agg #[.int .u64 (x + y), .int .u64 0, .int .u64 0, .int .u64 0, .int .u64 0, .int .u64 0, .int .u64 0, .int .u64 0]) ∧ Below w.heap.size w w' := by
  refine sum_small (fun i => match i with | 0 => x | 1 => y | _ => 0) (fun i => match i with | 0 => 0 | 1 => x | 2 => (x + y) | _ => 0) 2 cap b w hb (by decide) rfl ?_ ?_ ?_ ?_
  · intro i hi
    match i, hi with
    | 0, _ => simp
    | 1, _ => simp
  · intro i hi
    match i, hi with
    | 0, _ => exact hx
    | 1, _ => exact hy
  · intro i hi
    have hi : i < 3 := by omega
    match i, hi with
    | 0, _ => simp <;> omega
    | 1, _ => simp <;> omega
    | 2, _ => simp <;> omega
  · intro i hi
    match i, hi with
    | 0, _ => exact ⟨c0, c1, c2, c3⟩
    | 1, _ => exact ⟨c4, c5, c6, c7⟩
theorem sum3 {x y z : Int} (b cap : Nat) (w : World) (hb : b < w.heap.size) (hx : 0 ≤ x ∧ x ≤ 1) (hy : 0 ≤ y ∧ y ≤ 1) (hz : 0 ≤ z ∧ z ≤ 1) (ht : (x + y + z) ≤ 1) (c0 : w.cell? ⟨b, 0, none⟩ = some (.int .u64 x)) (c1 : w.cell? ⟨b, 1, none⟩ = some (.int .u64 0)) (c2 : w.cell? ⟨b, 2, none⟩ = some (.int .u64 0)) (c3 : w.cell? ⟨b, 3, none⟩ = some (.int .u64 0)) (c4 : w.cell? ⟨b, 4, none⟩ = some (.int .u64 y)) (c5 : w.cell? ⟨b, 5, none⟩ = some (.int .u64 0)) (c6 : w.cell? ⟨b, 6, none⟩ = some (.int .u64 0)) (c7 : w.cell? ⟨b, 7, none⟩ = some (.int .u64 0)) (c8 : w.cell? ⟨b, 8, none⟩ = some (.int .u64 z)) (c9 : w.cell? ⟨b, 9, none⟩ = some (.int .u64 0)) (c10 : w.cell? ⟨b, 10, none⟩ = some (.int .u64 0)) (c11 : w.cell? ⟨b, 11, none⟩ = some (.int .u64 0)) :
    Calls Try.prog 29 #[.slice (some ⟨b, 0, none⟩) 3 cap] w fun e w' => e = .returned (.agg #[.int .u64 (x + y + z), .int .u64 0, .int .u64 0, .int .u64 0, .int .u64 0, .int .u64 0, .int .u64 0, .int .u64 0]) ∧ Below w.heap.size w w' := by
  refine sum_small (fun i => match i with | 0 => x | 1 => y | 2 => z | _ => 0) (fun i => match i with | 0 => 0 | 1 => x | 2 => (x + y) | 3 => (x + y + z) | _ => 0) 3 cap b w hb (by decide) rfl ?_ ?_ ?_ ?_
  · intro i hi
    match i, hi with
    | 0, _ => simp
    | 1, _ => simp
    | 2, _ => simp
  · intro i hi
    match i, hi with
    | 0, _ => exact hx
    | 1, _ => exact hy
    | 2, _ => exact hz
  · intro i hi
    have hi : i < 4 := by omega
    match i, hi with
    | 0, _ => simp <;> omega
    | 1, _ => simp <;> omega
    | 2, _ => simp <;> omega
    | 3, _ => simp <;> omega
  · intro i hi
    match i, hi with
    | 0, _ => exact ⟨c0, c1, c2, c3⟩
    | 1, _ => exact ⟨c4, c5, c6, c7⟩
    | 2, _ => exact ⟨c8, c9, c10, c11⟩
theorem eqs8 (d : Nat) (x0 x1 x2 x3 x4 x5 x6 x7 y0 y1 y2 y3 y4 y5 y6 y7 : Int) (w : World) :
    Sem.run Try.prog (Op.eqItems (d + 1) 22 (Try.prog.cellsOf 22) #[.int .u64 x0, .int .u64 x1, .int .u64 x2, .int .u64 x3, .int .u64 x4, .int .u64 x5, .int .u64 x6, .int .u64 x7] #[.int .u64 y0, .int .u64 y1, .int .u64 y2, .int .u64 y3, .int .u64 y4, .int .u64 y5, .int .u64 y6, .int .u64 y7] (List.range 8)) w
      = .ok (x0 == y0 && (x1 == y1 && (x2 == y2 && (x3 == y3 && (x4 == y4 && (x5 == y5 && (x6 == y6 && (x7 == y7)))))))) w := by
  have hc : Try.prog.cellsOf 22 = 1 := by kernel_rfl
  have hr : List.range 8 = [0, 1, 2, 3, 4, 5, 6, 7] := rfl
  rw [hc, hr]
  simp only [Op.eqItems, Nat.zero_mul, Nat.one_mul, Nat.mul_one]
  rw [item_u64 d 0 _ _ x0 y0 w rfl rfl]
  cases h0 : (x0 == y0)
  · simp
  simp only [Bool.not_true, Bool.false_eq_true, if_false, Bool.true_and]
  rw [item_u64 d 1 _ _ x1 y1 w rfl rfl]
  cases h1 : (x1 == y1)
  · simp
  simp only [Bool.not_true, Bool.false_eq_true, if_false, Bool.true_and]
  rw [item_u64 d 2 _ _ x2 y2 w rfl rfl]
  cases h2 : (x2 == y2)
  · simp
  simp only [Bool.not_true, Bool.false_eq_true, if_false, Bool.true_and]
  rw [item_u64 d 3 _ _ x3 y3 w rfl rfl]
  cases h3 : (x3 == y3)
  · simp
  simp only [Bool.not_true, Bool.false_eq_true, if_false, Bool.true_and]
  rw [item_u64 d 4 _ _ x4 y4 w rfl rfl]
  cases h4 : (x4 == y4)
  · simp
  simp only [Bool.not_true, Bool.false_eq_true, if_false, Bool.true_and]
  rw [item_u64 d 5 _ _ x5 y5 w rfl rfl]
  cases h5 : (x5 == y5)
  · simp
  simp only [Bool.not_true, Bool.false_eq_true, if_false, Bool.true_and]
  rw [item_u64 d 6 _ _ x6 y6 w rfl rfl]
  cases h6 : (x6 == y6)
  · simp
  simp only [Bool.not_true, Bool.false_eq_true, if_false, Bool.true_and]
  rw [item_u64 d 7 _ _ x7 y7 w rfl rfl]
  cases h7 : (x7 == y7) <;> simp
theorem item_wide (x0 x1 x2 x3 x4 x5 x6 x7 y0 y1 y2 y3 y4 y5 y6 y7 : Int) (w : World) :
    Sem.run Try.prog (Op.equalIn 10000 63 (.agg #[.int .u64 x0, .int .u64 x1, .int .u64 x2, .int .u64 x3, .int .u64 x4, .int .u64 x5, .int .u64 x6, .int .u64 x7]) (.agg #[.int .u64 y0, .int .u64 y1, .int .u64 y2, .int .u64 y3, .int .u64 y4, .int .u64 y5, .int .u64 y6, .int .u64 y7])) w = .ok (x0 == y0 && (x1 == y1 && (x2 == y2 && (x3 == y3 && (x4 == y4 && (x5 == y5 && (x6 == y6 && (x7 == y7)))))))) w := by
  have hu : Try.prog.underlying 63 = some (.array 8 22) := by kernel_rfl
  obtain ⟨i, hi⟩ := info_of_underlying (show Try.prog.underlying 22 = some (.int .u64) by kernel_rfl)
  rw [run_equalIn_array w 9999 _ _ hu hi, eqs8 9998]
theorem neq_wide (x y : Int) (w : World) :
    Sem.run Try.prog (binOp .neq 63 (.agg #[.int .u64 x, .int .u64 0, .int .u64 0, .int .u64 0, .int .u64 0, .int .u64 0, .int .u64 0, .int .u64 0]) (.agg #[.int .u64 y, .int .u64 0, .int .u64 0, .int .u64 0, .int .u64 0, .int .u64 0, .int .u64 0, .int .u64 0])) w = .ok (.bool (!(x == y))) w := by
  rw [run_neq_struct, item_wide]
  simp
set_option maxHeartbeats 8000000 in
set_option maxRecDepth 100000 in
theorem more_eq (x y : Int) (w : World) (h : x = y) : Calls Try.prog 30 #[.agg #[.int .u64 x, .int .u64 0, .int .u64 0, .int .u64 0, .int .u64 0, .int .u64 0, .int .u64 0, .int .u64 0], .agg #[.int .u64 y, .int .u64 0, .int .u64 0, .int .u64 0, .int .u64 0, .int .u64 0, .int .u64 0, .int .u64 0]] w fun e w' => e = .returned (.bool false) ∧ Below w.heap.size w w' := by
  subst h
  go_enter Try.func30, Try.ntmps30
  go_wp2_with fail
  refine wp_loop_rounds 9 ?_
  rw [rounds_succ]
  go_wp2_with fail
  go_quiet (fail)
  go_wp2_with fail
  rw [rounds_succ]
  go_wp2_with fail
  go_quiet (fail)
  go_wp2_with fail
  rw [rounds_succ]
  go_wp2_with fail
  go_quiet (fail)
  go_wp2_with fail
  rw [rounds_succ]
  go_wp2_with fail
  go_quiet (fail)
  go_wp2_with fail
  rw [rounds_succ]
  go_wp2_with fail
  go_quiet (fail)
  go_wp2_with fail
  rw [rounds_succ]
  go_wp2_with fail
  go_quiet (fail)
  go_wp2_with fail
  rw [rounds_succ]
  go_wp2_with fail
  go_quiet (fail)
  go_wp2_with fail
  rw [rounds_succ]
  go_wp2_with fail
  go_quiet (fail)
  go_wp2_with fail
  rw [rounds_succ]
  go_wp2_with fail
  go_ret
  refine ⟨rfl, ?_⟩
  repeat (first | with_reducible exact Below.refl _ _ | (with_reducible assumption) | with_reducible apply bdrewN | with_reducible apply below_drew1 | with_reducible apply below_al | ((with_reducible refine below_set ?_ ?_); focus (first | omega | (simp [go_sem]; done) | (simp [go_sem]; omega))))
set_option maxHeartbeats 8000000 in
set_option maxRecDepth 100000 in
theorem more_gt (x y : Int) (w : World) (h : y < x) : Calls Try.prog 30 #[.agg #[.int .u64 x, .int .u64 0, .int .u64 0, .int .u64 0, .int .u64 0, .int .u64 0, .int .u64 0, .int .u64 0], .agg #[.int .u64 y, .int .u64 0, .int .u64 0, .int .u64 0, .int .u64 0, .int .u64 0, .int .u64 0, .int .u64 0]] w fun e w' => e = .returned (.bool true) ∧ Below w.heap.size w w' := by
  have hb : (x == y) = false := beq_eq_false_iff_ne.2 (by omega)
  have hb2 : (x != y) = true := bne_iff_ne.2 (by omega)
  go_enter Try.func30, Try.ntmps30
  go_wp2_with fail
  refine wp_loop_rounds 9 ?_
  rw [rounds_succ]
  go_wp2_with fail
  go_quiet (fail)
  go_wp2_with fail
  rw [rounds_succ]
  go_wp2_with fail
  go_quiet (fail)
  go_wp2_with fail
  rw [rounds_succ]
  go_wp2_with fail
  go_quiet (fail)
  go_wp2_with fail
  rw [rounds_succ]
  go_wp2_with fail
  go_quiet (fail)
  go_wp2_with fail
  rw [rounds_succ]
  go_wp2_with fail
  go_quiet (fail)
  go_wp2_with fail
  rw [rounds_succ]
  go_wp2_with fail
  go_quiet (fail)
  go_wp2_with fail
  rw [rounds_succ]
  go_wp2_with fail
  go_quiet (fail)
  go_wp2_with fail
  rw [rounds_succ]
  go_wp2_with fail
  go_quiet (fail)
  go_wp2_with fail
  go_quiet (fail)
  go_wp2_with fail
  go_ret
  refine ⟨rfl, ?_⟩
  repeat (first | with_reducible exact Below.refl _ _ | (with_reducible assumption) | with_reducible apply bdrewN | with_reducible apply below_drew1 | with_reducible apply below_al | ((with_reducible refine below_set ?_ ?_); focus (first | omega | (simp [go_sem]; done) | (simp [go_sem]; omega))))
end Go.Proofs.Ytgjdegahofoalaa.Audit
