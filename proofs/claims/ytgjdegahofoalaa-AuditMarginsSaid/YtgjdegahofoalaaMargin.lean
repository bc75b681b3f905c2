/- audit.Margin. -/
import Derived.Test.YtgjdegahofoalaaOut
set_option linter.unusedVariables false
set_option linter.unusedSimpArgs false
namespace Go.Proofs.Ytgjdegahofoalaa.Share
open Go.RowKit Go.Proofs.Ytgjdegahofoalaa.Huge
set_option maxHeartbeats 8000000 in
set_option maxRecDepth 100000 in
theorem margin_over {c d r s : Int} (uc : U256 c) (ud : U256 d) (us : U256 s) (h : 115792089237316195423570985008687907853269984665640564039457584007913129639936 ≤ c + d) (w : World) : Calls Try.prog 5 #[.agg #[.int .u64 (L0 c), .int .u64 (L1 c), .int .u64 (L2 c), .int .u64 (L3 c), .int .u64 (L0 d), .int .u64 (L1 d), .int .u64 (L2 d), .int .u64 (L3 d), .int .u64 (L0 r), .int .u64 (L1 r), .int .u64 (L2 r), .int .u64 (L3 r), .int .u64 (L0 s), .int .u64 (L1 s), .int .u64 (L2 s), .int .u64 (L3 s)]] w
    fun e w' => e = .returned (.tuple #[.agg #[.int .u64 0, .int .u64 0, .int .u64 0, .int .u64 0], .bool false]) ∧ Below w.heap.size w w' := by
  have hA : Hid (∀ w : World, Calls Try.prog 8 #[.agg #[.int .u64 (L0 c), .int .u64 (L1 c), .int .u64 (L2 c), .int .u64 (L3 c)], .agg #[.int .u64 (L0 d), .int .u64 (L1 d), .int .u64 (L2 d), .int .u64 (L3 d)]] w fun e w' => e = .returned (.tuple #[.agg #[.int .u64 0, .int .u64 0, .int .u64 0, .int .u64 0], .int .i64 2]) ∧ Below w.heap.size w w') := Lib.hid (fun w => by have k := add_calls uc ud w; unfold addN addE at k; rw [if_neg (by omega), if_neg (by omega)] at k; exact k)
  go_enter Try.func5, Try.ntmps5
  go_wp2_with fail
  (go_at_call 8; ((with_reducible refine (hA.out _).mono ?_); rintro e w1 ⟨rfl, hb1⟩; obtain ⟨hcl1, hfz1⟩ := bcell hb1; have hz1 := hb1.size; (try simp [go_sem] at hz1)))
  have l1_0_0 : w.heap.size < w1.heap.size := by omega
  have l1_0_1 : w.heap.size < w1.heap.size + 1 := by omega
  have l1_0_2 : w.heap.size < w1.heap.size + 1 + 1 := by omega
  have l1_1_0 : w.heap.size + 1 < w1.heap.size := by omega
  have l1_1_1 : w.heap.size + 1 < w1.heap.size + 1 := by omega
  have l1_1_2 : w.heap.size + 1 < w1.heap.size + 1 + 1 := by omega
  go_wp2_with fail
  refine bodyPost_ret (v := .tuple #[.agg #[.int .u64 0, .int .u64 0, .int .u64 0, .int .u64 0], .bool false]) (by simp [results, Try.results5, go_sem, *]) rfl ⟨rfl, ?_⟩
  repeat (first | with_reducible exact Below.refl _ _ | (with_reducible assumption) | with_reducible apply bdrewN | with_reducible apply below_drew1 | with_reducible apply below_al | ((with_reducible refine below_set ?_ ?_); focus (first | omega | (simp [go_sem]; done) | (simp [go_sem]; omega))) | with_reducible refine below_then ?_ hb1)
set_option maxHeartbeats 8000000 in
set_option maxRecDepth 100000 in
theorem margin_zero {c d r s : Int} (uc : U256 c) (ud : U256 d) (us : U256 s) (h : c + d < 115792089237316195423570985008687907853269984665640564039457584007913129639936) (h0 : s = 0) (w : World) : Calls Try.prog 5 #[.agg #[.int .u64 (L0 c), .int .u64 (L1 c), .int .u64 (L2 c), .int .u64 (L3 c), .int .u64 (L0 d), .int .u64 (L1 d), .int .u64 (L2 d), .int .u64 (L3 d), .int .u64 (L0 r), .int .u64 (L1 r), .int .u64 (L2 r), .int .u64 (L3 r), .int .u64 (L0 s), .int .u64 (L1 s), .int .u64 (L2 s), .int .u64 (L3 s)]] w
    fun e w' => e = .returned (.tuple #[.agg #[.int .u64 (L0 (c + d)), .int .u64 (L1 (c + d)), .int .u64 (L2 (c + d)), .int .u64 (L3 (c + d))], .bool true]) ∧ Below w.heap.size w w' := by
  have hA : Hid (∀ w : World, Calls Try.prog 8 #[.agg #[.int .u64 (L0 c), .int .u64 (L1 c), .int .u64 (L2 c), .int .u64 (L3 c)], .agg #[.int .u64 (L0 d), .int .u64 (L1 d), .int .u64 (L2 d), .int .u64 (L3 d)]] w fun e w' => e = .returned (.tuple #[.agg #[.int .u64 (L0 (c + d)), .int .u64 (L1 (c + d)), .int .u64 (L2 (c + d)), .int .u64 (L3 (c + d))], .int .i64 0]) ∧ Below w.heap.size w w') := Lib.hid (fun w => by have k := add_calls uc ud w; unfold addN addE at k; rw [if_pos h, if_pos h] at k; exact k)
  have ua : U256 (c + d) := ⟨by have := uc.1; have := ud.1; omega, h⟩
  have he : ∀ W, Sem.run Try.prog (binOp .eql 24 (.agg #[.int .u64 (L0 s), .int .u64 (L1 s), .int .u64 (L2 s), .int .u64 (L3 s)]) (.agg #[.int .u64 0, .int .u64 0, .int .u64 0, .int .u64 0])) W = .ok (.bool true) W := fun W => by rw [eql_zero us, decide_eq_true (by omega)]
  have he2 : ∀ W, Sem.run Try.prog (Op.equalIn 10000 24 (.agg #[.int .u64 (L0 s), .int .u64 (L1 s), .int .u64 (L2 s), .int .u64 (L3 s)]) (.agg #[.int .u64 0, .int .u64 0, .int .u64 0, .int .u64 0])) W = .ok true W := fun W => by rw [item_zero us, decide_eq_true (by omega)]
  clear h0
  go_enter Try.func5, Try.ntmps5
  go_wp2_with fail
  (go_at_call 8; ((with_reducible refine (hA.out _).mono ?_); rintro e w1 ⟨rfl, hb1⟩; obtain ⟨hcl1, hfz1⟩ := bcell hb1; have hz1 := hb1.size; (try simp [go_sem] at hz1)))
  have l1_0_0 : w.heap.size < w1.heap.size := by omega
  have l1_0_1 : w.heap.size < w1.heap.size + 1 := by omega
  have l1_0_2 : w.heap.size < w1.heap.size + 1 + 1 := by omega
  have l1_1_0 : w.heap.size + 1 < w1.heap.size := by omega
  have l1_1_1 : w.heap.size + 1 < w1.heap.size + 1 := by omega
  have l1_1_2 : w.heap.size + 1 < w1.heap.size + 1 + 1 := by omega
  go_wp2_with fail
  refine bodyPost_ret (v := .tuple #[.agg #[.int .u64 (L0 (c + d)), .int .u64 (L1 (c + d)), .int .u64 (L2 (c + d)), .int .u64 (L3 (c + d))], .bool true]) (by simp [results, Try.results5, go_sem, *]) rfl ⟨rfl, ?_⟩
  repeat (first | with_reducible exact Below.refl _ _ | (with_reducible assumption) | with_reducible apply bdrewN | with_reducible apply below_drew1 | with_reducible apply below_al | ((with_reducible refine below_set ?_ ?_); focus (first | omega | (simp [go_sem]; done) | (simp [go_sem]; omega))) | with_reducible refine below_then ?_ hb1)
set_option maxHeartbeats 8000000 in
set_option maxRecDepth 100000 in
theorem margin_full {c d r s : Int} (uc : U256 c) (ud : U256 d) (us : U256 s) (h : c + d < 115792089237316195423570985008687907853269984665640564039457584007913129639936) (h0 : 0 < s) (ho : 115792089237316195423570985008687907853269984665640564039457584007913129639936 ≤ c + d + 1 ∨ 115792089237316195423570985008687907853269984665640564039457584007913129639936 ≤ s + 1) (w : World) : Calls Try.prog 5 #[.agg #[.int .u64 (L0 c), .int .u64 (L1 c), .int .u64 (L2 c), .int .u64 (L3 c), .int .u64 (L0 d), .int .u64 (L1 d), .int .u64 (L2 d), .int .u64 (L3 d), .int .u64 (L0 r), .int .u64 (L1 r), .int .u64 (L2 r), .int .u64 (L3 r), .int .u64 (L0 s), .int .u64 (L1 s), .int .u64 (L2 s), .int .u64 (L3 s)]] w
    fun e w' => e = .returned (.tuple #[.agg #[.int .u64 0, .int .u64 0, .int .u64 0, .int .u64 0], .bool false]) ∧ Below w.heap.size w w' := by
  have hA : Hid (∀ w : World, Calls Try.prog 8 #[.agg #[.int .u64 (L0 c), .int .u64 (L1 c), .int .u64 (L2 c), .int .u64 (L3 c)], .agg #[.int .u64 (L0 d), .int .u64 (L1 d), .int .u64 (L2 d), .int .u64 (L3 d)]] w fun e w' => e = .returned (.tuple #[.agg #[.int .u64 (L0 (c + d)), .int .u64 (L1 (c + d)), .int .u64 (L2 (c + d)), .int .u64 (L3 (c + d))], .int .i64 0]) ∧ Below w.heap.size w w') := Lib.hid (fun w => by have k := add_calls uc ud w; unfold addN addE at k; rw [if_pos h, if_pos h] at k; exact k)
  have ua : U256 (c + d) := ⟨by have := uc.1; have := ud.1; omega, h⟩
  have he : ∀ W, Sem.run Try.prog (binOp .eql 24 (.agg #[.int .u64 (L0 s), .int .u64 (L1 s), .int .u64 (L2 s), .int .u64 (L3 s)]) (.agg #[.int .u64 0, .int .u64 0, .int .u64 0, .int .u64 0])) W = .ok (.bool false) W := fun W => by rw [eql_zero us, decide_eq_false (by omega)]
  have he2 : ∀ W, Sem.run Try.prog (Op.equalIn 10000 24 (.agg #[.int .u64 (L0 s), .int .u64 (L1 s), .int .u64 (L2 s), .int .u64 (L3 s)]) (.agg #[.int .u64 0, .int .u64 0, .int .u64 0, .int .u64 0])) W = .ok false W := fun W => by rw [item_zero us, decide_eq_false (by omega)]
  go_enter Try.func5, Try.ntmps5
  go_wp2_with fail
  (go_at_call 8; ((with_reducible refine (hA.out _).mono ?_); rintro e w1 ⟨rfl, hb1⟩; obtain ⟨hcl1, hfz1⟩ := bcell hb1; have hz1 := hb1.size; (try simp [go_sem] at hz1)))
  have l1_0_0 : w.heap.size < w1.heap.size := by omega
  have l1_0_1 : w.heap.size < w1.heap.size + 1 := by omega
  have l1_0_2 : w.heap.size < w1.heap.size + 1 + 1 := by omega
  have l1_1_0 : w.heap.size + 1 < w1.heap.size := by omega
  have l1_1_1 : w.heap.size + 1 < w1.heap.size + 1 := by omega
  have l1_1_2 : w.heap.size + 1 < w1.heap.size + 1 + 1 := by omega
  go_wp2_with fail
  (go_at_call 9; ((with_reducible refine (out_over ua us h0 ho _).mono ?_); rintro e w2 ⟨rfl, hb2⟩; obtain ⟨hcl2, hfz2⟩ := bcell hb2; have hz2 := hb2.size; (try simp [go_sem] at hz2)))
  have l2_0_0 : w.heap.size < w2.heap.size := by omega
  have l2_0_1 : w.heap.size < w2.heap.size + 1 := by omega
  have l2_0_2 : w.heap.size < w2.heap.size + 1 + 1 := by omega
  have l2_1_0 : w.heap.size + 1 < w2.heap.size := by omega
  have l2_1_1 : w.heap.size + 1 < w2.heap.size + 1 := by omega
  have l2_1_2 : w.heap.size + 1 < w2.heap.size + 1 + 1 := by omega
  go_wp2_with fail
  refine bodyPost_ret (v := .tuple #[.agg #[.int .u64 0, .int .u64 0, .int .u64 0, .int .u64 0], .bool false]) (by simp [results, Try.results5, go_sem, *]) rfl ⟨rfl, ?_⟩
  repeat (first | with_reducible exact Below.refl _ _ | (with_reducible assumption) | with_reducible apply bdrewN | with_reducible apply below_drew1 | with_reducible apply below_al | ((with_reducible refine below_set ?_ ?_); focus (first | omega | (simp [go_sem]; done) | (simp [go_sem]; omega))) | with_reducible refine below_then ?_ hb2 | with_reducible refine below_then ?_ hb1)
set_option maxHeartbeats 8000000 in
set_option maxRecDepth 100000 in
theorem margin_fits {c d r s : Int} (uc : U256 c) (ud : U256 d) (us : U256 s) (h : c + d < 115792089237316195423570985008687907853269984665640564039457584007913129639936) (h0 : 0 < s) (ha : c + d + 1 < 115792089237316195423570985008687907853269984665640564039457584007913129639936) (hs : s + 1 < 115792089237316195423570985008687907853269984665640564039457584007913129639936) (w : World) : Calls Try.prog 5 #[.agg #[.int .u64 (L0 c), .int .u64 (L1 c), .int .u64 (L2 c), .int .u64 (L3 c), .int .u64 (L0 d), .int .u64 (L1 d), .int .u64 (L2 d), .int .u64 (L3 d), .int .u64 (L0 r), .int .u64 (L1 r), .int .u64 (L2 r), .int .u64 (L3 r), .int .u64 (L0 s), .int .u64 (L1 s), .int .u64 (L2 s), .int .u64 (L3 s)]] w
    fun e w' => e = .returned (.tuple #[.agg #[.int .u64 (L0 (c + d - worth (c + d) s)), .int .u64 (L1 (c + d - worth (c + d) s)), .int .u64 (L2 (c + d - worth (c + d) s)), .int .u64 (L3 (c + d - worth (c + d) s))], .bool true]) ∧ Below w.heap.size w w' := by
  have hA : Hid (∀ w : World, Calls Try.prog 8 #[.agg #[.int .u64 (L0 c), .int .u64 (L1 c), .int .u64 (L2 c), .int .u64 (L3 c)], .agg #[.int .u64 (L0 d), .int .u64 (L1 d), .int .u64 (L2 d), .int .u64 (L3 d)]] w fun e w' => e = .returned (.tuple #[.agg #[.int .u64 (L0 (c + d)), .int .u64 (L1 (c + d)), .int .u64 (L2 (c + d)), .int .u64 (L3 (c + d))], .int .i64 0]) ∧ Below w.heap.size w w') := Lib.hid (fun w => by have k := add_calls uc ud w; unfold addN addE at k; rw [if_pos h, if_pos h] at k; exact k)
  have ua : U256 (c + d) := ⟨by have := uc.1; have := ud.1; omega, h⟩
  have he : ∀ W, Sem.run Try.prog (binOp .eql 24 (.agg #[.int .u64 (L0 s), .int .u64 (L1 s), .int .u64 (L2 s), .int .u64 (L3 s)]) (.agg #[.int .u64 0, .int .u64 0, .int .u64 0, .int .u64 0])) W = .ok (.bool false) W := fun W => by rw [eql_zero us, decide_eq_false (by omega)]
  have he2 : ∀ W, Sem.run Try.prog (Op.equalIn 10000 24 (.agg #[.int .u64 (L0 s), .int .u64 (L1 s), .int .u64 (L2 s), .int .u64 (L3 s)]) (.agg #[.int .u64 0, .int .u64 0, .int .u64 0, .int .u64 0])) W = .ok false W := fun W => by rw [item_zero us, decide_eq_false (by omega)]
  have hw := worth_le (all := c + d) (sh := s) ua.1 us.1
  have uw : U256 (worth (c + d) s) := ⟨hw.1, by have := ua.2; omega⟩
  have hS : Hid (∀ w : World, Calls Try.prog 10 #[.agg #[.int .u64 (L0 (c + d)), .int .u64 (L1 (c + d)), .int .u64 (L2 (c + d)), .int .u64 (L3 (c + d))], .agg #[.int .u64 (L0 (worth (c + d) s)), .int .u64 (L1 (worth (c + d) s)), .int .u64 (L2 (worth (c + d) s)), .int .u64 (L3 (worth (c + d) s))]] w fun e w' => e = .returned (.tuple #[.agg #[.int .u64 (L0 (c + d - worth (c + d) s)), .int .u64 (L1 (c + d - worth (c + d) s)), .int .u64 (L2 (c + d - worth (c + d) s)), .int .u64 (L3 (c + d - worth (c + d) s))], .int .i64 0]) ∧ Below w.heap.size w w') := Lib.hid (fun w => by have k := sub_calls ua uw w; unfold subN subE at k; rw [if_pos hw.2, if_pos hw.2] at k; exact k)
  go_enter Try.func5, Try.ntmps5
  go_wp2_with fail
  (go_at_call 8; ((with_reducible refine (hA.out _).mono ?_); rintro e w1 ⟨rfl, hb1⟩; obtain ⟨hcl1, hfz1⟩ := bcell hb1; have hz1 := hb1.size; (try simp [go_sem] at hz1)))
  have l1_0_0 : w.heap.size < w1.heap.size := by omega
  have l1_0_1 : w.heap.size < w1.heap.size + 1 := by omega
  have l1_0_2 : w.heap.size < w1.heap.size + 1 + 1 := by omega
  have l1_1_0 : w.heap.size + 1 < w1.heap.size := by omega
  have l1_1_1 : w.heap.size + 1 < w1.heap.size + 1 := by omega
  have l1_1_2 : w.heap.size + 1 < w1.heap.size + 1 + 1 := by omega
  go_wp2_with fail
  (go_at_call 9; ((with_reducible refine (out_fits ua us h0 ha hs _).mono ?_); rintro e w2 ⟨rfl, hb2⟩; obtain ⟨hcl2, hfz2⟩ := bcell hb2; have hz2 := hb2.size; (try simp [go_sem] at hz2)))
  have l2_0_0 : w.heap.size < w2.heap.size := by omega
  have l2_0_1 : w.heap.size < w2.heap.size + 1 := by omega
  have l2_0_2 : w.heap.size < w2.heap.size + 1 + 1 := by omega
  have l2_1_0 : w.heap.size + 1 < w2.heap.size := by omega
  have l2_1_1 : w.heap.size + 1 < w2.heap.size + 1 := by omega
  have l2_1_2 : w.heap.size + 1 < w2.heap.size + 1 + 1 := by omega
  have l2_2_0 : w1.heap.size < w2.heap.size := by omega
  have l2_2_1 : w1.heap.size < w2.heap.size + 1 := by omega
  have l2_2_2 : w1.heap.size < w2.heap.size + 1 + 1 := by omega
  go_wp2_with fail
  (go_at_call 10; ((with_reducible refine (hS.out _).mono ?_); rintro e w3 ⟨rfl, hb3⟩; obtain ⟨hcl3, hfz3⟩ := bcell hb3; have hz3 := hb3.size; (try simp [go_sem] at hz3)))
  have l3_0_0 : w.heap.size < w3.heap.size := by omega
  have l3_0_1 : w.heap.size < w3.heap.size + 1 := by omega
  have l3_0_2 : w.heap.size < w3.heap.size + 1 + 1 := by omega
  have l3_1_0 : w.heap.size + 1 < w3.heap.size := by omega
  have l3_1_1 : w.heap.size + 1 < w3.heap.size + 1 := by omega
  have l3_1_2 : w.heap.size + 1 < w3.heap.size + 1 + 1 := by omega
  have l3_2_0 : w1.heap.size < w3.heap.size := by omega
  have l3_2_1 : w1.heap.size < w3.heap.size + 1 := by omega
  have l3_2_2 : w1.heap.size < w3.heap.size + 1 + 1 := by omega
  have l3_3_0 : w2.heap.size < w3.heap.size := by omega
  have l3_3_1 : w2.heap.size < w3.heap.size + 1 := by omega
  have l3_3_2 : w2.heap.size < w3.heap.size + 1 + 1 := by omega
  go_wp2_with fail
  refine bodyPost_ret (v := .tuple #[.agg #[.int .u64 (L0 (c + d - worth (c + d) s)), .int .u64 (L1 (c + d - worth (c + d) s)), .int .u64 (L2 (c + d - worth (c + d) s)), .int .u64 (L3 (c + d - worth (c + d) s))], .bool true]) (by simp [results, Try.results5, go_sem, *]) rfl ⟨rfl, ?_⟩
  repeat (first | with_reducible exact Below.refl _ _ | (with_reducible assumption) | with_reducible apply bdrewN | with_reducible apply below_drew1 | with_reducible apply below_al | ((with_reducible refine below_set ?_ ?_); focus (first | omega | (simp [go_sem]; done) | (simp [go_sem]; omega))) | with_reducible refine below_then ?_ hb3 | with_reducible refine below_then ?_ hb2 | with_reducible refine below_then ?_ hb1)
end Go.Proofs.Ytgjdegahofoalaa.Share
