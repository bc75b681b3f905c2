/- sponsionref02.Row: the digits of a number of 256 bits. -/
import Derived.Test.YtgjdegahofoalaaRefCalls
import Derived.Test.YtgjdegahofoalaaNum
set_option linter.unusedVariables false
set_option linter.unusedSimpArgs false
namespace Go.Proofs.Ytgjdegahofoalaa.RN
open Go.RowKit Go.Proofs.YtgjdegahofoalaaW.PrintWords Go.Proofs.YtgjdegahofoalaaW.PrintLast Go.Proofs.YtgjdegahofoalaaW.PrintMore
open PDiv RefMul

/-- The first j digits of x. -/
def dgs : Nat → Int → List Int
  | 0, _ => []
  | j + 1, x => dgs j x ++ [x / B16 j % 65536]
theorem dgs_len (j : Nat) (x : Int) : (dgs j x).length = j := by
  induction j with
  | zero => rfl
  | succ j ih => simp [dgs, ih]
theorem dgs_dg (j : Nat) (x : Int) : Dg (dgs j x) := by
  induction j with
  | zero => exact Dg.nil
  | succ j ih => exact ih.append (Dg.cons (by omega) (by omega) Dg.nil)
theorem dgs4_val {x : Int} (h : U64 x) : val (dgs 4 x) = x := by
  unfold U64 at h
  simp only [dgs, List.nil_append, List.cons_append, val, B16]
  omega
theorem rows_val {n : Int} (hn : U256 n) : val (((([] ++ dgs 4 (L0 n)) ++ dgs 4 (L1 n)) ++ dgs 4 (L2 n)) ++ dgs 4 (L3 n)) = n := by
  rw [List.nil_append, val_append, val_append, val_append, dgs4_val (L0_u n), dgs4_val (L1_u n), dgs4_val (L2_u n), dgs4_val (L3_u n)]
  simp only [List.length_append, dgs_len]
  have e4 : B16 4 = 18446744073709551616 := by decide +kernel
  have e8 : B16 (4 + 4) = 340282366920938463463374607431768211456 := by decide +kernel
  have e12 : B16 (4 + 4 + 4) = 6277101735386680763835789423207666416102355444464034512896 := by decide +kernel
  rw [e4, e8, e12]
  have h := V4_L hn
  unfold V4 at h
  omega
theorem quo_digit (x y : Int) (j : Nat) (h : y = x / B16 j) : y / 65536 = x / B16 (j + 1) := by
  rw [h, Int.ediv_ediv_of_nonneg (Int.le_of_lt (B16_pos j))]
  show _ = x / (65536 * B16 j)
  rw [Int.mul_comm]
set_option maxHeartbeats 8000000 in
set_option maxRecDepth 100000 in
theorem row_calls {n : Int} (hn : U256 n) (w : World) : Calls Try.prog 23 #[.agg #[.int .u64 (L0 n), .int .u64 (L1 n), .int .u64 (L2 n), .int .u64 (L3 n)]] w
    fun e w' => ∃ v, e = .returned v ∧ RowV w' v n ∧ Below w.heap.size w w' := by
  have ix0 : ∀ w, (Instr.index 24 (.agg #[.int .u64 (L0 n), .int .u64 (L1 n), .int .u64 (L2 n), .int .u64 (L3 n)]) (.int .i64 0)).run Try.prog w = .ok (.int .u64 (L0 n)) w := fun _ => by kernel_rfl
  have ix1 : ∀ w, (Instr.index 24 (.agg #[.int .u64 (L0 n), .int .u64 (L1 n), .int .u64 (L2 n), .int .u64 (L3 n)]) (.int .i64 1)).run Try.prog w = .ok (.int .u64 (L1 n)) w := fun _ => by kernel_rfl
  have ix2 : ∀ w, (Instr.index 24 (.agg #[.int .u64 (L0 n), .int .u64 (L1 n), .int .u64 (L2 n), .int .u64 (L3 n)]) (.int .i64 2)).run Try.prog w = .ok (.int .u64 (L2 n)) w := fun _ => by kernel_rfl
  have ix3 : ∀ w, (Instr.index 24 (.agg #[.int .u64 (L0 n), .int .u64 (L1 n), .int .u64 (L2 n), .int .u64 (L3 n)]) (.int .i64 3)).run Try.prog w = .ok (.int .u64 (L3 n)) w := fun _ => by kernel_rfl
  have hu0 := L0_u n
  have hu1 := L1_u n
  have hu2 := L2_u n
  have hu3 := L3_u n
  unfold U64 at hu0 hu1 hu2 hu3
  have HO0 : Aside0 (Kd.R (Kd.int .i64) 3 (w.alloc (.cells #[.int .u64 (L0 n), .int .u64 (L1 n), .int .u64 (L2 n), .int .u64 (L3 n)] 24)) w.heap.size (fun _ => True) (.slice none 0 0) []) := ⟨Kd.R_nil _ _ _ _ _⟩
  have HB0 : Aside0 (Below w.heap.size w (w.alloc (.cells #[.int .u64 (L0 n), .int .u64 (L1 n), .int .u64 (L2 n), .int .u64 (L3 n)] 24))) := ⟨(Below.refl _ _).alloc (Nat.le_refl _) _⟩
  go_enter Try.func23, Try.ntmps23
  go_wp2_with fail
  refine wp_loop_rounds 5 ?_
  rw [rounds_succ]
  go_wp2_with fail
  go_loopw [3, 5, 10] (fun v3 v5 v10 w' => ∃ (j : Nat) (y : Int), j ≤ 4 ∧ v10 = .int .i64 (j : Int) ∧ v5 = .int .u64 y ∧ Aside0 (y = L0 n / B16 j) ∧ 0 ≤ y ∧ y < 18446744073709551616 ∧ Aside0 (Kd.R (Kd.int .i64) 3 w' w.heap.size (fun _ => True) v3 ([] ++ dgs j (L0 n))) ∧ Aside0 (Below w.heap.size w w')) (fun _ _ v10 _ => 4 - (intOf v10).toNat)
  case atStart => exact ⟨0, _, by omega, rfl, rfl, ⟨(Int.ediv_one _).symm⟩, hu0.1, hu0.2, ⟨by show Kd.R _ _ _ _ _ _ ([] ++ []); rw [List.append_nil]; exact HO0.out⟩, HB0⟩
  case round =>
    clear HO0 HB0
    obtain ⟨j, y, hj, rfl, rfl, hy, hy0, hy1, HO, HB⟩ := hrel
    by_cases hlt : j < 4
    · clear ix0 ix1 ix2 ix3
      go_wp2_with ((with_reducible refine gate_builtin (b := .append) (xs := #[.tmp 12, .tmp 16]) rfl ?_); at_builtin; refine Kd.R_append (Kd.int .i64) (w0 := w) w.heap.size rfl (.tmp 12) (.tmp 16) 55 3 (.int .i64 0) 8 rfl Try.underlying55 info3 rfl (by decide) (by omega) _ ([] ++ dgs j (L0 n)) (y % 65536) [.int .i64 (y % 65536)] (fun _ => True) (fun _ => False) rfl rfl ?aP (fun _ hk => hk.elim) ?aF ?aO ?aB ?aS ?aL ?_; (case aP => exact rfl); (case aF => exact fun _ _ => trivial); (case aO => exact HO.out); (case aB => exact HB.out); (case aS => exact HB.out.size); (case aL => (simp only [List.length_append, dgs_len, List.length_nil]; omega)); intro v1 w1 ho hb hg hat; clear hg hat; have HO1 := Aside0.mk ho; have HB1 := Aside0.mk hb; clear ho hb HO HB)
      go_roundw
      case measure => simp [intOf]; omega
      case rel => exact ⟨j + 1, y / 65536, by omega, by go_num, rfl, ⟨quo_digit _ _ _ hy.out⟩, by omega, by omega, ⟨by have h := HO1.out; rw [hy.out, List.append_assoc] at h; exact h⟩, HB1⟩
    · obtain rfl : j = 4 := by omega
      clear hlt hj hy hy0 hy1
      have HO1 : Aside0 (Kd.R (Kd.int .i64) 3 wr w.heap.size (fun _ => True) _ ([] ++ dgs 4 (L0 n))) := HO
      have HB1 := HB
      clear HO HB
      go_wp2_with fail
      rw [rounds_succ]
      go_wp2_with fail
      go_loopw [3, 5, 10] (fun v3 v5 v10 w' => ∃ (j : Nat) (y : Int), j ≤ 4 ∧ v10 = .int .i64 (j : Int) ∧ v5 = .int .u64 y ∧ Aside0 (y = L1 n / B16 j) ∧ 0 ≤ y ∧ y < 18446744073709551616 ∧ Aside0 (Kd.R (Kd.int .i64) 3 w' w.heap.size (fun _ => True) v3 (([] ++ dgs 4 (L0 n)) ++ dgs j (L1 n))) ∧ Aside0 (Below w.heap.size w w')) (fun _ _ v10 _ => 4 - (intOf v10).toNat)
      case atStart => exact ⟨0, _, by omega, rfl, rfl, ⟨(Int.ediv_one _).symm⟩, hu1.1, hu1.2, ⟨by show Kd.R _ _ _ _ _ _ (([] ++ dgs 4 (L0 n)) ++ []); rw [List.append_nil]; exact HO1.out⟩, HB1⟩
      case round =>
        clear HO1 HB1
        obtain ⟨j, y, hj, rfl, rfl, hy, hy0, hy1, HO, HB⟩ := hrel
        by_cases hlt : j < 4
        · clear ix0 ix1 ix2 ix3
          go_wp2_with ((with_reducible refine gate_builtin (b := .append) (xs := #[.tmp 12, .tmp 16]) rfl ?_); at_builtin; refine Kd.R_append (Kd.int .i64) (w0 := w) w.heap.size rfl (.tmp 12) (.tmp 16) 55 3 (.int .i64 0) 8 rfl Try.underlying55 info3 rfl (by decide) (by omega) _ (([] ++ dgs 4 (L0 n)) ++ dgs j (L1 n)) (y % 65536) [.int .i64 (y % 65536)] (fun _ => True) (fun _ => False) rfl rfl ?aP (fun _ hk => hk.elim) ?aF ?aO ?aB ?aS ?aL ?_; (case aP => exact rfl); (case aF => exact fun _ _ => trivial); (case aO => exact HO.out); (case aB => exact HB.out); (case aS => exact HB.out.size); (case aL => (simp only [List.length_append, dgs_len, List.length_nil]; omega)); intro v1 w1 ho hb hg hat; clear hg hat; have HO1 := Aside0.mk ho; have HB1 := Aside0.mk hb; clear ho hb HO HB)
          go_roundw
          case measure => simp [intOf]; omega
          case rel => exact ⟨j + 1, y / 65536, by omega, by go_num, rfl, ⟨quo_digit _ _ _ hy.out⟩, by omega, by omega, ⟨by have h := HO1.out; rw [hy.out, List.append_assoc] at h; exact h⟩, HB1⟩
        · obtain rfl : j = 4 := by omega
          clear hlt hj hy hy0 hy1
          have HO2 : Aside0 (Kd.R (Kd.int .i64) 3 wr w.heap.size (fun _ => True) _ (([] ++ dgs 4 (L0 n)) ++ dgs 4 (L1 n))) := HO
          have HB2 := HB
          clear HO HB
          go_wp2_with fail
          rw [rounds_succ]
          go_wp2_with fail
          go_loopw [3, 5, 10] (fun v3 v5 v10 w' => ∃ (j : Nat) (y : Int), j ≤ 4 ∧ v10 = .int .i64 (j : Int) ∧ v5 = .int .u64 y ∧ Aside0 (y = L2 n / B16 j) ∧ 0 ≤ y ∧ y < 18446744073709551616 ∧ Aside0 (Kd.R (Kd.int .i64) 3 w' w.heap.size (fun _ => True) v3 ((([] ++ dgs 4 (L0 n)) ++ dgs 4 (L1 n)) ++ dgs j (L2 n))) ∧ Aside0 (Below w.heap.size w w')) (fun _ _ v10 _ => 4 - (intOf v10).toNat)
          case atStart => exact ⟨0, _, by omega, rfl, rfl, ⟨(Int.ediv_one _).symm⟩, hu2.1, hu2.2, ⟨by show Kd.R _ _ _ _ _ _ ((([] ++ dgs 4 (L0 n)) ++ dgs 4 (L1 n)) ++ []); rw [List.append_nil]; exact HO2.out⟩, HB2⟩
          case round =>
            clear HO2 HB2
            obtain ⟨j, y, hj, rfl, rfl, hy, hy0, hy1, HO, HB⟩ := hrel
            by_cases hlt : j < 4
            · clear ix0 ix1 ix2 ix3
              go_wp2_with ((with_reducible refine gate_builtin (b := .append) (xs := #[.tmp 12, .tmp 16]) rfl ?_); at_builtin; refine Kd.R_append (Kd.int .i64) (w0 := w) w.heap.size rfl (.tmp 12) (.tmp 16) 55 3 (.int .i64 0) 8 rfl Try.underlying55 info3 rfl (by decide) (by omega) _ ((([] ++ dgs 4 (L0 n)) ++ dgs 4 (L1 n)) ++ dgs j (L2 n)) (y % 65536) [.int .i64 (y % 65536)] (fun _ => True) (fun _ => False) rfl rfl ?aP (fun _ hk => hk.elim) ?aF ?aO ?aB ?aS ?aL ?_; (case aP => exact rfl); (case aF => exact fun _ _ => trivial); (case aO => exact HO.out); (case aB => exact HB.out); (case aS => exact HB.out.size); (case aL => (simp only [List.length_append, dgs_len, List.length_nil]; omega)); intro v1 w1 ho hb hg hat; clear hg hat; have HO1 := Aside0.mk ho; have HB1 := Aside0.mk hb; clear ho hb HO HB)
              go_roundw
              case measure => simp [intOf]; omega
              case rel => exact ⟨j + 1, y / 65536, by omega, by go_num, rfl, ⟨quo_digit _ _ _ hy.out⟩, by omega, by omega, ⟨by have h := HO1.out; rw [hy.out, List.append_assoc] at h; exact h⟩, HB1⟩
            · obtain rfl : j = 4 := by omega
              clear hlt hj hy hy0 hy1
              have HO3 : Aside0 (Kd.R (Kd.int .i64) 3 wr w.heap.size (fun _ => True) _ ((([] ++ dgs 4 (L0 n)) ++ dgs 4 (L1 n)) ++ dgs 4 (L2 n))) := HO
              have HB3 := HB
              clear HO HB
              go_wp2_with fail
              rw [rounds_succ]
              go_wp2_with fail
              go_loopw [3, 5, 10] (fun v3 v5 v10 w' => ∃ (j : Nat) (y : Int), j ≤ 4 ∧ v10 = .int .i64 (j : Int) ∧ v5 = .int .u64 y ∧ Aside0 (y = L3 n / B16 j) ∧ 0 ≤ y ∧ y < 18446744073709551616 ∧ Aside0 (Kd.R (Kd.int .i64) 3 w' w.heap.size (fun _ => True) v3 (((([] ++ dgs 4 (L0 n)) ++ dgs 4 (L1 n)) ++ dgs 4 (L2 n)) ++ dgs j (L3 n))) ∧ Aside0 (Below w.heap.size w w')) (fun _ _ v10 _ => 4 - (intOf v10).toNat)
              case atStart => exact ⟨0, _, by omega, rfl, rfl, ⟨(Int.ediv_one _).symm⟩, hu3.1, hu3.2, ⟨by show Kd.R _ _ _ _ _ _ (((([] ++ dgs 4 (L0 n)) ++ dgs 4 (L1 n)) ++ dgs 4 (L2 n)) ++ []); rw [List.append_nil]; exact HO3.out⟩, HB3⟩
              case round =>
                clear HO3 HB3
                obtain ⟨j, y, hj, rfl, rfl, hy, hy0, hy1, HO, HB⟩ := hrel
                by_cases hlt : j < 4
                · clear ix0 ix1 ix2 ix3
                  go_wp2_with ((with_reducible refine gate_builtin (b := .append) (xs := #[.tmp 12, .tmp 16]) rfl ?_); at_builtin; refine Kd.R_append (Kd.int .i64) (w0 := w) w.heap.size rfl (.tmp 12) (.tmp 16) 55 3 (.int .i64 0) 8 rfl Try.underlying55 info3 rfl (by decide) (by omega) _ (((([] ++ dgs 4 (L0 n)) ++ dgs 4 (L1 n)) ++ dgs 4 (L2 n)) ++ dgs j (L3 n)) (y % 65536) [.int .i64 (y % 65536)] (fun _ => True) (fun _ => False) rfl rfl ?aP (fun _ hk => hk.elim) ?aF ?aO ?aB ?aS ?aL ?_; (case aP => exact rfl); (case aF => exact fun _ _ => trivial); (case aO => exact HO.out); (case aB => exact HB.out); (case aS => exact HB.out.size); (case aL => (simp only [List.length_append, dgs_len, List.length_nil]; omega)); intro v1 w1 ho hb hg hat; clear hg hat; have HO1 := Aside0.mk ho; have HB1 := Aside0.mk hb; clear ho hb HO HB)
                  go_roundw
                  case measure => simp [intOf]; omega
                  case rel => exact ⟨j + 1, y / 65536, by omega, by go_num, rfl, ⟨quo_digit _ _ _ hy.out⟩, by omega, by omega, ⟨by have h := HO1.out; rw [hy.out, List.append_assoc] at h; exact h⟩, HB1⟩
                · obtain rfl : j = 4 := by omega
                  clear hlt hj hy hy0 hy1
                  have HO4 : Aside0 (Kd.R (Kd.int .i64) 3 wr w.heap.size (fun _ => True) _ (((([] ++ dgs 4 (L0 n)) ++ dgs 4 (L1 n)) ++ dgs 4 (L2 n)) ++ dgs 4 (L3 n))) := HO
                  have HB4 := HB
                  clear HO HB
                  go_wp2_with fail
                  rw [rounds_succ]
                  go_wp2_with (go_at_call 36; refine (trim_row (((((Dg.nil.append (dgs_dg 4 (L0 n))).append (dgs_dg 4 (L1 n))).append (dgs_dg 4 (L2 n))).append (dgs_dg 4 (L3 n)))) (by simp only [List.length_append, dgs_len, List.length_nil]; omega) (Kd.R_lower HO4.out (Nat.zero_le _))).mono ?_; rintro e w' ⟨v', rfl, hrow, hb⟩)
                  go_ret
                  exact ⟨v', rfl, by rw [rows_val hn] at hrow; exact hrow, below_step HB4.out hb⟩
end Go.Proofs.Ytgjdegahofoalaa.RN
