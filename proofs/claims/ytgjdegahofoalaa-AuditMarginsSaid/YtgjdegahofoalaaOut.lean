/- share.Out at all shares; audit.Margin. -/
import Derived.Test.YtgjdegahofoalaaMulDiv
import Derived.Test.YtgjdegahofoalaaCmp
set_option linter.unusedVariables false
set_option linter.unusedSimpArgs false
namespace Go.Proofs.Ytgjdegahofoalaa.Share
open Go.RowKit Go.Proofs.Ytgjdegahofoalaa.Huge
/-- What all shares would pay. -/
def worth (all sh : Int) : Int := sh * (all + 1) / (sh + 1)
theorem worth_le {all sh : Int} (ha : 0 ≤ all) (hs : 0 ≤ sh) : 0 ≤ worth all sh ∧ worth all sh ≤ all := by
  have h1 : 0 ≤ sh * (all + 1) := Int.mul_nonneg hs (by omega)
  refine ⟨Int.ediv_nonneg h1 (by omega), ?_⟩
  have h2 : sh * (all + 1) < (all + 1) * (sh + 1) := by
    rw [Int.mul_comm (all + 1), Int.add_mul]
    omega
  have := Int.ediv_lt_of_lt_mul (show 0 < sh + 1 by omega) h2
  unfold worth
  omega
set_option maxHeartbeats 8000000 in
set_option maxRecDepth 100000 in
theorem out_over {all sh : Int} (ua : U256 all) (us : U256 sh) (h0 : 0 < sh) (ho : 115792089237316195423570985008687907853269984665640564039457584007913129639936 ≤ all + 1 ∨ 115792089237316195423570985008687907853269984665640564039457584007913129639936 ≤ sh + 1) (w : World) : Calls Try.prog 9 #[.agg #[.int .u64 (L0 all), .int .u64 (L1 all), .int .u64 (L2 all), .int .u64 (L3 all)], .agg #[.int .u64 (L0 sh), .int .u64 (L1 sh), .int .u64 (L2 sh), .int .u64 (L3 sh)], .agg #[.int .u64 (L0 sh), .int .u64 (L1 sh), .int .u64 (L2 sh), .int .u64 (L3 sh)]] w
    fun e w' => e = .returned (.tuple #[.agg #[.int .u64 0, .int .u64 0, .int .u64 0, .int .u64 0], .int .i64 2]) ∧ Below w.heap.size w w' := by
  have he : ∀ W, Sem.run Try.prog (binOp .eql 24 (.agg #[.int .u64 (L0 sh), .int .u64 (L1 sh), .int .u64 (L2 sh), .int .u64 (L3 sh)]) (.agg #[.int .u64 0, .int .u64 0, .int .u64 0, .int .u64 0])) W = .ok (.bool false) W := fun W => by rw [eql_zero us, decide_eq_false (by omega)]
  have he2 : ∀ W, Sem.run Try.prog (Op.equalIn 10000 24 (.agg #[.int .u64 (L0 sh), .int .u64 (L1 sh), .int .u64 (L2 sh), .int .u64 (L3 sh)]) (.agg #[.int .u64 0, .int .u64 0, .int .u64 0, .int .u64 0])) W = .ok false W := fun W => by rw [item_zero us, decide_eq_false (by omega)]
  have hsg : RN.sgn sh sh = 0 := by unfold RN.sgn; rw [if_neg (by omega), if_neg (by omega)]
  go_enter Try.func9, Try.ntmps9
  go_wp2_with fail
  (go_at_call 17; ((with_reducible refine (cmp_calls us us _).mono ?_); rintro e w1 ⟨rfl, hb1⟩; obtain ⟨hcl1, hfz1⟩ := bcell hb1; have hz1 := hb1.size; (try simp [go_sem] at hz1)))
  have l1_0_0 : w.heap.size < w1.heap.size := by omega
  have l1_0_1 : w.heap.size < w1.heap.size + 1 := by omega
  have l1_0_2 : w.heap.size < w1.heap.size + 1 + 1 := by omega
  have l1_1_0 : w.heap.size + 1 < w1.heap.size := by omega
  have l1_1_1 : w.heap.size + 1 < w1.heap.size + 1 := by omega
  have l1_1_2 : w.heap.size + 1 < w1.heap.size + 1 + 1 := by omega
  have l1_2_0 : w.heap.size + 1 + 1 < w1.heap.size := by omega
  have l1_2_1 : w.heap.size + 1 + 1 < w1.heap.size + 1 := by omega
  have l1_2_2 : w.heap.size + 1 + 1 < w1.heap.size + 1 + 1 := by omega
  have l1_3_0 : w.heap.size + 1 + 1 + 1 < w1.heap.size := by omega
  have l1_3_1 : w.heap.size + 1 + 1 + 1 < w1.heap.size + 1 := by omega
  have l1_3_2 : w.heap.size + 1 + 1 + 1 < w1.heap.size + 1 + 1 := by omega
  go_wp2_with fail
  (go_at_call 18; ((with_reducible refine (more_over ua us ho _).mono ?_); rintro e w2 ⟨rfl, hb2⟩; obtain ⟨hcl2, hfz2⟩ := bcell hb2; have hz2 := hb2.size; (try simp [go_sem] at hz2)))
  have l2_0_0 : w.heap.size < w2.heap.size := by omega
  have l2_0_1 : w.heap.size < w2.heap.size + 1 := by omega
  have l2_0_2 : w.heap.size < w2.heap.size + 1 + 1 := by omega
  have l2_1_0 : w.heap.size + 1 < w2.heap.size := by omega
  have l2_1_1 : w.heap.size + 1 < w2.heap.size + 1 := by omega
  have l2_1_2 : w.heap.size + 1 < w2.heap.size + 1 + 1 := by omega
  have l2_2_0 : w.heap.size + 1 + 1 < w2.heap.size := by omega
  have l2_2_1 : w.heap.size + 1 + 1 < w2.heap.size + 1 := by omega
  have l2_2_2 : w.heap.size + 1 + 1 < w2.heap.size + 1 + 1 := by omega
  have l2_3_0 : w.heap.size + 1 + 1 + 1 < w2.heap.size := by omega
  have l2_3_1 : w.heap.size + 1 + 1 + 1 < w2.heap.size + 1 := by omega
  have l2_3_2 : w.heap.size + 1 + 1 + 1 < w2.heap.size + 1 + 1 := by omega
  go_wp2_with fail
  refine bodyPost_ret (v := .tuple #[.agg #[.int .u64 0, .int .u64 0, .int .u64 0, .int .u64 0], .int .i64 2]) (by simp [results, Try.results9, go_sem, *]) rfl ⟨rfl, ?_⟩
  repeat (first | with_reducible exact Below.refl _ _ | (with_reducible assumption) | with_reducible apply bdrewN | with_reducible apply below_drew1 | with_reducible apply below_al | ((with_reducible refine below_set ?_ ?_); focus (first | omega | (simp [go_sem]; done) | (simp [go_sem]; omega))) | with_reducible refine below_then ?_ hb2 | with_reducible refine below_then ?_ hb1)
set_option maxHeartbeats 8000000 in
set_option maxRecDepth 100000 in
theorem out_fits {all sh : Int} (ua : U256 all) (us : U256 sh) (h0 : 0 < sh) (ha : all + 1 < 115792089237316195423570985008687907853269984665640564039457584007913129639936) (hs : sh + 1 < 115792089237316195423570985008687907853269984665640564039457584007913129639936) (w : World) : Calls Try.prog 9 #[.agg #[.int .u64 (L0 all), .int .u64 (L1 all), .int .u64 (L2 all), .int .u64 (L3 all)], .agg #[.int .u64 (L0 sh), .int .u64 (L1 sh), .int .u64 (L2 sh), .int .u64 (L3 sh)], .agg #[.int .u64 (L0 sh), .int .u64 (L1 sh), .int .u64 (L2 sh), .int .u64 (L3 sh)]] w
    fun e w' => e = .returned (.tuple #[.agg #[.int .u64 (L0 (worth all sh)), .int .u64 (L1 (worth all sh)), .int .u64 (L2 (worth all sh)), .int .u64 (L3 (worth all sh))], .int .i64 0]) ∧ Below w.heap.size w w' := by
  have he : ∀ W, Sem.run Try.prog (binOp .eql 24 (.agg #[.int .u64 (L0 sh), .int .u64 (L1 sh), .int .u64 (L2 sh), .int .u64 (L3 sh)]) (.agg #[.int .u64 0, .int .u64 0, .int .u64 0, .int .u64 0])) W = .ok (.bool false) W := fun W => by rw [eql_zero us, decide_eq_false (by omega)]
  have he2 : ∀ W, Sem.run Try.prog (Op.equalIn 10000 24 (.agg #[.int .u64 (L0 sh), .int .u64 (L1 sh), .int .u64 (L2 sh), .int .u64 (L3 sh)]) (.agg #[.int .u64 0, .int .u64 0, .int .u64 0, .int .u64 0])) W = .ok false W := fun W => by rw [item_zero us, decide_eq_false (by omega)]
  have hsg : RN.sgn sh sh = 0 := by unfold RN.sgn; rw [if_neg (by omega), if_neg (by omega)]
  have hw := worth_le (all := all) (sh := sh) ua.1 us.1
  have uw : U256 (worth all sh) := ⟨hw.1, by have := ua.2; omega⟩
  have ua1 : U256 (all + 1) := ⟨by have := ua.1; omega, ha⟩
  have us1 : U256 (sh + 1) := ⟨by have := us.1; omega, hs⟩
  have hpos : 0 < sh + 1 := by omega
  have hsg2 : ¬ (RN.sgn (worth all sh) all > 0) := by unfold RN.sgn; split; · decide
                                                      rw [if_neg (by omega)]; decide
  have HM : Hid (∀ w : World, Calls Try.prog 19 #[.agg #[.int .u64 (L0 sh), .int .u64 (L1 sh), .int .u64 (L2 sh), .int .u64 (L3 sh)], .agg #[.int .u64 (L0 (all + 1)), .int .u64 (L1 (all + 1)), .int .u64 (L2 (all + 1)), .int .u64 (L3 (all + 1))], .agg #[.int .u64 (L0 (sh + 1)), .int .u64 (L1 (sh + 1)), .int .u64 (L2 (sh + 1)), .int .u64 (L3 (sh + 1))]] w fun e w' => e = .returned (.tuple #[.agg #[.int .u64 (L0 (worth all sh)), .int .u64 (L1 (worth all sh)), .int .u64 (L2 (worth all sh)), .int .u64 (L3 (worth all sh))], .int .i64 0]) ∧ Below w.heap.size w w') := Lib.hid (fun w => Wide.muldiv_calls us ua1 us1 hpos uw.2 w)
  go_enter Try.func9, Try.ntmps9
  go_wp2_with fail
  (go_at_call 17; ((with_reducible refine (cmp_calls us us _).mono ?_); rintro e w1 ⟨rfl, hb1⟩; obtain ⟨hcl1, hfz1⟩ := bcell hb1; have hz1 := hb1.size; (try simp [go_sem] at hz1)))
  have l1_0_0 : w.heap.size < w1.heap.size := by omega
  have l1_0_1 : w.heap.size < w1.heap.size + 1 := by omega
  have l1_0_2 : w.heap.size < w1.heap.size + 1 + 1 := by omega
  have l1_1_0 : w.heap.size + 1 < w1.heap.size := by omega
  have l1_1_1 : w.heap.size + 1 < w1.heap.size + 1 := by omega
  have l1_1_2 : w.heap.size + 1 < w1.heap.size + 1 + 1 := by omega
  have l1_2_0 : w.heap.size + 1 + 1 < w1.heap.size := by omega
  have l1_2_1 : w.heap.size + 1 + 1 < w1.heap.size + 1 := by omega
  have l1_2_2 : w.heap.size + 1 + 1 < w1.heap.size + 1 + 1 := by omega
  have l1_3_0 : w.heap.size + 1 + 1 + 1 < w1.heap.size := by omega
  have l1_3_1 : w.heap.size + 1 + 1 + 1 < w1.heap.size + 1 := by omega
  have l1_3_2 : w.heap.size + 1 + 1 + 1 < w1.heap.size + 1 + 1 := by omega
  go_wp2_with fail
  (go_at_call 18; ((with_reducible refine (more_fits ua us ha hs _).mono ?_); rintro e w2 ⟨rfl, hb2⟩; obtain ⟨hcl2, hfz2⟩ := bcell hb2; have hz2 := hb2.size; (try simp [go_sem] at hz2)))
  have l2_0_0 : w.heap.size < w2.heap.size := by omega
  have l2_0_1 : w.heap.size < w2.heap.size + 1 := by omega
  have l2_0_2 : w.heap.size < w2.heap.size + 1 + 1 := by omega
  have l2_1_0 : w.heap.size + 1 < w2.heap.size := by omega
  have l2_1_1 : w.heap.size + 1 < w2.heap.size + 1 := by omega
  have l2_1_2 : w.heap.size + 1 < w2.heap.size + 1 + 1 := by omega
  have l2_2_0 : w.heap.size + 1 + 1 < w2.heap.size := by omega
  have l2_2_1 : w.heap.size + 1 + 1 < w2.heap.size + 1 := by omega
  have l2_2_2 : w.heap.size + 1 + 1 < w2.heap.size + 1 + 1 := by omega
  have l2_3_0 : w.heap.size + 1 + 1 + 1 < w2.heap.size := by omega
  have l2_3_1 : w.heap.size + 1 + 1 + 1 < w2.heap.size + 1 := by omega
  have l2_3_2 : w.heap.size + 1 + 1 + 1 < w2.heap.size + 1 + 1 := by omega
  go_wp2_with fail
  (go_at_call 19; ((with_reducible refine (HM.out _).mono ?_); rintro e w3 ⟨rfl, hb3⟩; obtain ⟨hcl3, hfz3⟩ := bcell hb3; have hz3 := hb3.size; (try simp [go_sem] at hz3)))
  have l3_0_0 : w.heap.size < w3.heap.size := by omega
  have l3_0_1 : w.heap.size < w3.heap.size + 1 := by omega
  have l3_0_2 : w.heap.size < w3.heap.size + 1 + 1 := by omega
  have l3_1_0 : w.heap.size + 1 < w3.heap.size := by omega
  have l3_1_1 : w.heap.size + 1 < w3.heap.size + 1 := by omega
  have l3_1_2 : w.heap.size + 1 < w3.heap.size + 1 + 1 := by omega
  have l3_2_0 : w.heap.size + 1 + 1 < w3.heap.size := by omega
  have l3_2_1 : w.heap.size + 1 + 1 < w3.heap.size + 1 := by omega
  have l3_2_2 : w.heap.size + 1 + 1 < w3.heap.size + 1 + 1 := by omega
  have l3_3_0 : w.heap.size + 1 + 1 + 1 < w3.heap.size := by omega
  have l3_3_1 : w.heap.size + 1 + 1 + 1 < w3.heap.size + 1 := by omega
  have l3_3_2 : w.heap.size + 1 + 1 + 1 < w3.heap.size + 1 + 1 := by omega
  go_wp2_with fail
  (go_at_call 17; ((with_reducible refine (cmp_calls uw ua _).mono ?_); rintro e w4 ⟨rfl, hb4⟩; obtain ⟨hcl4, hfz4⟩ := bcell hb4; have hz4 := hb4.size; (try simp [go_sem] at hz4)))
  have l4_0_0 : w.heap.size < w4.heap.size := by omega
  have l4_0_1 : w.heap.size < w4.heap.size + 1 := by omega
  have l4_0_2 : w.heap.size < w4.heap.size + 1 + 1 := by omega
  have l4_1_0 : w.heap.size + 1 < w4.heap.size := by omega
  have l4_1_1 : w.heap.size + 1 < w4.heap.size + 1 := by omega
  have l4_1_2 : w.heap.size + 1 < w4.heap.size + 1 + 1 := by omega
  have l4_2_0 : w.heap.size + 1 + 1 < w4.heap.size := by omega
  have l4_2_1 : w.heap.size + 1 + 1 < w4.heap.size + 1 := by omega
  have l4_2_2 : w.heap.size + 1 + 1 < w4.heap.size + 1 + 1 := by omega
  have l4_3_0 : w.heap.size + 1 + 1 + 1 < w4.heap.size := by omega
  have l4_3_1 : w.heap.size + 1 + 1 + 1 < w4.heap.size + 1 := by omega
  have l4_3_2 : w.heap.size + 1 + 1 + 1 < w4.heap.size + 1 + 1 := by omega
  go_wp2_with fail
  refine bodyPost_ret (v := .tuple #[.agg #[.int .u64 (L0 (worth all sh)), .int .u64 (L1 (worth all sh)), .int .u64 (L2 (worth all sh)), .int .u64 (L3 (worth all sh))], .int .i64 0]) (by simp [results, Try.results9, go_sem, *]) rfl ⟨rfl, ?_⟩
  repeat (first | with_reducible exact Below.refl _ _ | (with_reducible assumption) | with_reducible apply bdrewN | with_reducible apply below_drew1 | with_reducible apply below_al | ((with_reducible refine below_set ?_ ?_); focus (first | omega | (simp [go_sem]; done) | (simp [go_sem]; omega))) | with_reducible refine below_then ?_ hb4 | with_reducible refine below_then ?_ hb3 | with_reducible refine below_then ?_ hb2 | with_reducible refine below_then ?_ hb1)
end Go.Proofs.Ytgjdegahofoalaa.Share
