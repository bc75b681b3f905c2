/- sponsionlaw28.AuditMargins: the walk, out of the contracts of what it calls. -/
import Derived.Test.YtgjdegahofoalaaMargin
import Derived.Test.YtgjdegahofoalaaRefMg
set_option linter.unusedVariables false
set_option linter.unusedSimpArgs false
namespace Go.Proofs.Ytgjdegahofoalaa.Law
open Go.RowKit
set_option maxHeartbeats 8000000 in
set_option maxRecDepth 100000 in
theorem law_walk {c d r s x0 x1 x2 x3 : Int} (b : Bool) (w : World)
    (hL : Hid (∀ w : World, Calls Try.prog 4 #[] w fun e w' => e = .returned (.bool true) ∧ Below w.heap.size w w'))
    (hM : Hid (∀ w : World, Calls Try.prog 5 #[.agg #[.int .u64 (L0 c), .int .u64 (L1 c), .int .u64 (L2 c), .int .u64 (L3 c), .int .u64 (L0 d), .int .u64 (L1 d), .int .u64 (L2 d), .int .u64 (L3 d), .int .u64 (L0 r), .int .u64 (L1 r), .int .u64 (L2 r), .int .u64 (L3 r), .int .u64 (L0 s), .int .u64 (L1 s), .int .u64 (L2 s), .int .u64 (L3 s)]] w fun e w' => e = .returned (.tuple #[.agg #[.int .u64 x0, .int .u64 x1, .int .u64 x2, .int .u64 x3], .bool b]) ∧ Below w.heap.size w w'))
    (hR : Hid (∀ w : World, Calls Try.prog 6 #[.agg #[.int .u64 (L0 c), .int .u64 (L1 c), .int .u64 (L2 c), .int .u64 (L3 c), .int .u64 (L0 d), .int .u64 (L1 d), .int .u64 (L2 d), .int .u64 (L3 d), .int .u64 (L0 r), .int .u64 (L1 r), .int .u64 (L2 r), .int .u64 (L3 r), .int .u64 (L0 s), .int .u64 (L1 s), .int .u64 (L2 s), .int .u64 (L3 s)]] w fun e w' => e = .returned (.tuple #[.agg #[.int .u64 x0, .int .u64 x1, .int .u64 x2, .int .u64 x3], .bool b]) ∧ Below w.heap.size w w')) :
    Calls Try.prog 3 #[.agg #[.int .u64 (L0 c), .int .u64 (L1 c), .int .u64 (L2 c), .int .u64 (L3 c), .int .u64 (L0 d), .int .u64 (L1 d), .int .u64 (L2 d), .int .u64 (L3 d), .int .u64 (L0 r), .int .u64 (L1 r), .int .u64 (L2 r), .int .u64 (L3 r), .int .u64 (L0 s), .int .u64 (L1 s), .int .u64 (L2 s), .int .u64 (L3 s)]] w fun e w' => e = .returned (.bool true) ∧ Below w.heap.size w w' := by
  have he : ∀ W, Sem.run Try.prog (binOp .eql 24 (.agg #[.int .u64 x0, .int .u64 x1, .int .u64 x2, .int .u64 x3]) (.agg #[.int .u64 x0, .int .u64 x1, .int .u64 x2, .int .u64 x3])) W = .ok (.bool true) W := fun W => by rw [eql_int]; simp
  have he2 : ∀ W, Sem.run Try.prog (Op.equalIn 10000 24 (.agg #[.int .u64 x0, .int .u64 x1, .int .u64 x2, .int .u64 x3]) (.agg #[.int .u64 x0, .int .u64 x1, .int .u64 x2, .int .u64 x3])) W = .ok true W := fun W => by
    have h := he W
    rw [run_eql_struct] at h
    generalize Sem.run Try.prog (Op.equalIn 10000 24 (.agg #[.int .u64 x0, .int .u64 x1, .int .u64 x2, .int .u64 x3]) (.agg #[.int .u64 x0, .int .u64 x1, .int .u64 x2, .int .u64 x3])) W = q at h ⊢
    cases q with
    | ok v W' => simp [Result.andThen] at h; rw [h.1, h.2]
    | halt x W' => simp [Result.andThen] at h
  go_enter Try.func3, Try.ntmps3
  go_wp2_with fail
  (go_at_call 4; ((with_reducible refine (hL.out _).mono ?_); rintro e w1 ⟨rfl, hb1⟩; obtain ⟨hcl1, hfz1⟩ := bcell hb1; have hz1 := hb1.size; (try simp [go_sem] at hz1)))
  have l1_0_0 : w.heap.size < w1.heap.size := by omega
  have l1_0_1 : w.heap.size < w1.heap.size + 1 := by omega
  have l1_0_2 : w.heap.size < w1.heap.size + 1 + 1 := by omega
  go_wp2_with fail
  (go_at_call 5; ((with_reducible refine (hM.out _).mono ?_); rintro e w2 ⟨rfl, hb2⟩; obtain ⟨hcl2, hfz2⟩ := bcell hb2; have hz2 := hb2.size; (try simp [go_sem] at hz2)))
  have l2_0_0 : w.heap.size < w2.heap.size := by omega
  have l2_0_1 : w.heap.size < w2.heap.size + 1 := by omega
  have l2_0_2 : w.heap.size < w2.heap.size + 1 + 1 := by omega
  go_wp2_with fail
  (go_at_call 6; ((with_reducible refine (hR.out _).mono ?_); rintro e w3 ⟨rfl, hb3⟩; obtain ⟨hcl3, hfz3⟩ := bcell hb3; have hz3 := hb3.size; (try simp [go_sem] at hz3)))
  have l3_0_0 : w.heap.size < w3.heap.size := by omega
  have l3_0_1 : w.heap.size < w3.heap.size + 1 := by omega
  have l3_0_2 : w.heap.size < w3.heap.size + 1 + 1 := by omega
  have l3_1_0 : w2.heap.size < w3.heap.size := by omega
  have l3_1_1 : w2.heap.size < w3.heap.size + 1 := by omega
  have l3_1_2 : w2.heap.size < w3.heap.size + 1 + 1 := by omega
  go_wp2_with fail
  go_ret
  refine ⟨by simp, ?_⟩
  repeat (first | with_reducible exact Below.refl _ _ | (with_reducible assumption) | with_reducible apply bdrewN | with_reducible apply below_drew1 | with_reducible apply below_al | ((with_reducible refine below_set ?_ ?_); focus (first | omega | (simp [go_sem]; done) | (simp [go_sem]; omega))) | with_reducible refine below_then ?_ hb3 | with_reducible refine below_then ?_ hb2 | with_reducible refine below_then ?_ hb1)
theorem law_all {c d r s : Int} (uc : U256 c) (ud : U256 d) (us : U256 s) (w : World)
    (hL : Hid (∀ w : World, Calls Try.prog 4 #[] w fun e w' => e = .returned (.bool true) ∧ Below w.heap.size w w')) :
    Calls Try.prog 3 #[.agg #[.int .u64 (L0 c), .int .u64 (L1 c), .int .u64 (L2 c), .int .u64 (L3 c), .int .u64 (L0 d), .int .u64 (L1 d), .int .u64 (L2 d), .int .u64 (L3 d), .int .u64 (L0 r), .int .u64 (L1 r), .int .u64 (L2 r), .int .u64 (L3 r), .int .u64 (L0 s), .int .u64 (L1 s), .int .u64 (L2 s), .int .u64 (L3 s)]] w fun e w' => e = .returned (.bool true) ∧ Below w.heap.size w w' := by
  by_cases h : c + d < 115792089237316195423570985008687907853269984665640564039457584007913129639936
  · by_cases h0 : s = 0
    · exact law_walk true w hL (Lib.hid fun w => Share.margin_zero uc ud us h h0 w) (Lib.hid fun w => RN.margin28_zero uc ud us h h0 w)
    · have h0' : 0 < s := by have := us.1; omega
      by_cases ha : c + d + 1 < 115792089237316195423570985008687907853269984665640564039457584007913129639936
      · by_cases hs : s + 1 < 115792089237316195423570985008687907853269984665640564039457584007913129639936
        · exact law_walk true w hL (Lib.hid fun w => Share.margin_fits uc ud us h h0' ha hs w) (Lib.hid fun w => RN.margin28_fits uc ud us h h0' ha hs w)
        · exact law_walk false w hL (Lib.hid fun w => Share.margin_full uc ud us h h0' (.inr (by omega)) w) (Lib.hid fun w => RN.margin28_full2 uc ud us h h0' ha (by omega) w)
      · exact law_walk false w hL (Lib.hid fun w => Share.margin_full uc ud us h h0' (.inl (by omega)) w) (Lib.hid fun w => RN.margin28_full1 uc ud us h h0' (by omega) w)
  · exact law_walk false w hL (Lib.hid fun w => Share.margin_over uc ud us (by omega) w) (Lib.hid fun w => RN.margin28_over uc ud us (by omega) w)
end Go.Proofs.Ytgjdegahofoalaa.Law
