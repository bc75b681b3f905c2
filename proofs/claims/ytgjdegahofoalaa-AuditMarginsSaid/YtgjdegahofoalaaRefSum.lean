/- The document's sums and differences of numbers of 256 bits. -/
import Derived.Test.YtgjdegahofoalaaRefIntA
set_option linter.unusedVariables false
set_option linter.unusedSimpArgs false
namespace Go.Proofs.Ytgjdegahofoalaa.RN
open Go.RowKit Go.Proofs.YtgjdegahofoalaaW.PrintWords
open PDiv RefMul
theorem rowV_one (W : World) : RowV (W.alloc (.cells #[.int .i64 1] 3)) (.slice (some ⟨W.heap.size, 0, none⟩) 1 1) 1 :=
  ⟨[1], can_one, by decide, by decide, ⟨fun _ _ => trivial, OwnRow.lit W 0 (Reps.one (show Kd.M (Kd.int .i64) _ _ _ 1 [.int .i64 1] from rfl) (Reps.none _ _)) (Nat.zero_le _) (by decide)⟩⟩
theorem u256_60 {a : Int} (h : U256 a) : a < B16 60 := by have := B16_60; unfold U256 at h; omega
set_option maxHeartbeats 4000000 in
set_option maxRecDepth 100000 in
theorem one_calls {a : Int} (ua : U256 a) (w : World) : Calls Try.prog 25 #[.agg #[.int .u64 (L0 a), .int .u64 (L1 a), .int .u64 (L2 a), .int .u64 (L3 a)]] w fun e w' => ∃ v, e = .returned v ∧ RowV w' v (a + 1) ∧ Below w.heap.size w w' := by
  have h60 : a + 1 < B16 60 := by have := B16_60; unfold U256 at ua; omega
  go_enter Try.func25, Try.ntmps25
  go_wp2_with (first | (go_at_call 23; ((with_reducible refine (row_calls ua _).mono ?_); rintro e w1 ⟨v1, rfl, r1, hb1⟩; obtain ⟨hcl1, hfz1⟩ := bcell hb1; have hz1 := hb1.size; (try simp [go_sem] at hz1))) | (go_at_call 22; ((with_reducible refine (add_row (r1.alloc _) (rowV_one _) h60).mono ?_); rintro e w2 ⟨v2, rfl, r2, hb2⟩)))
  go_ret
  refine ⟨v2, rfl, r2, ?_⟩
  repeat (first | with_reducible exact Below.refl _ _ | (with_reducible assumption) | with_reducible apply bdrewN | with_reducible apply below_drew1 | with_reducible apply below_al | ((with_reducible refine below_set ?_ ?_); focus (first | omega | (simp [go_sem]; done) | (simp [go_sem]; omega))) | with_reducible refine below_then ?_ hb2 | with_reducible refine below_then ?_ hb1)
set_option maxHeartbeats 8000000 in
set_option maxRecDepth 100000 in
theorem add17_fits {a b : Int} (ua : U256 a) (ub : U256 b) (w : World) (hs : a + b < 115792089237316195423570985008687907853269984665640564039457584007913129639936) : Calls Try.prog 11 #[.agg #[.int .u64 (L0 a), .int .u64 (L1 a), .int .u64 (L2 a), .int .u64 (L3 a)], .agg #[.int .u64 (L0 b), .int .u64 (L1 b), .int .u64 (L2 b), .int .u64 (L3 b)]] w
    fun e w' => e = .returned (.tuple #[.agg #[.int .u64 (L0 (a + b)), .int .u64 (L1 (a + b)), .int .u64 (L2 (a + b)), .int .u64 (L3 (a + b))], .bool true]) ∧ Below w.heap.size w w' := by
  have h60 : a + b < B16 60 := by have := B16_60; unfold U256 at ua ub; omega
  have h16 : a + b < B16 16 := by rw [B16_16]; exact hs
  clear hs
  go_enter Try.func11, Try.ntmps11
  go_wp2_with fail
  go_region_held3 (fun w' => w'.cell? ⟨w.heap.size, 0, none⟩ = some (.int .u64 (L0 a)) ∧ w'.cell? ⟨w.heap.size, 1, none⟩ = some (.int .u64 (L1 a)) ∧ w'.cell? ⟨w.heap.size, 2, none⟩ = some (.int .u64 (L2 a)) ∧ w'.cell? ⟨w.heap.size, 3, none⟩ = some (.int .u64 (L3 a)) ∧ w'.cell? ⟨w.heap.size + 1, 0, none⟩ = some (.int .u64 (L0 b)) ∧ w'.cell? ⟨w.heap.size + 1, 1, none⟩ = some (.int .u64 (L1 b)) ∧ w'.cell? ⟨w.heap.size + 1, 2, none⟩ = some (.int .u64 (L2 b)) ∧ w'.cell? ⟨w.heap.size + 1, 3, none⟩ = some (.int .u64 (L3 b))) ((refine ⟨?_, ?_, ?_, ?_, ?_, ?_, ?_, ?_⟩; all_goals go_simp))
    (first | (go_at_call 23; ((with_reducible refine (row_calls ua _).mono ?_); rintro e w1 ⟨v1, rfl, r1, hb1⟩; obtain ⟨hcl1, hfz1⟩ := bcell hb1; have hz1 := hb1.size; (try simp [go_sem] at hz1); (try have l1_0 : w.heap.size < w1.heap.size := by omega); (try have l1_1 : w.heap.size + 1 < w1.heap.size := by omega); (try have l1_2 : w.heap.size + 1 + 1 < w1.heap.size := by omega))) | (go_at_call 23; ((with_reducible refine (row_calls ub _).mono ?_); rintro e w2 ⟨v2, rfl, r2, hb2⟩; obtain ⟨hcl2, hfz2⟩ := bcell hb2; have hz2 := hb2.size; (try simp [go_sem] at hz2); (try have l2_0 : w.heap.size < w2.heap.size := by omega); (try have l2_1 : w.heap.size + 1 < w2.heap.size := by omega); (try have l2_2 : w.heap.size + 1 + 1 < w2.heap.size := by omega))) | (go_at_call 22; ((with_reducible refine (add_row (r1.below hb2) r2 h60).mono ?_); rintro e w3 ⟨v3, rfl, r3, hb3⟩; obtain ⟨hcl3, hfz3⟩ := bcell hb3; have hz3 := hb3.size; (try simp [go_sem] at hz3); (try have l3_0 : w.heap.size < w3.heap.size := by omega); (try have l3_1 : w.heap.size + 1 < w3.heap.size := by omega); (try have l3_2 : w.heap.size + 1 + 1 < w3.heap.size := by omega))) | (go_at_call 21; ((with_reducible refine (int_fits r3 h16).mono ?_); rintro e w4 ⟨rfl, hb4⟩; obtain ⟨hcl4, hfz4⟩ := bcell hb4; have hz4 := hb4.size; (try simp [go_sem] at hz4); (try have l4_0 : w.heap.size < w4.heap.size := by omega); (try have l4_1 : w.heap.size + 1 < w4.heap.size := by omega); (try have l4_2 : w.heap.size + 1 + 1 < w4.heap.size := by omega))))
  all_goals go_wp2_with fail
  all_goals (refine bodyPost_ret (v := .tuple #[.agg #[.int .u64 (L0 (a + b)), .int .u64 (L1 (a + b)), .int .u64 (L2 (a + b)), .int .u64 (L3 (a + b))], .bool true]) (by simp [results, Try.results11, go_sem, *]) rfl ⟨rfl, ?_⟩)
  all_goals repeat (first | with_reducible exact Below.refl _ _ | (with_reducible assumption) | with_reducible apply bdrewN | with_reducible apply below_drew1 | with_reducible apply below_al | ((with_reducible refine below_set ?_ ?_); focus (first | omega | (simp [go_sem]; done) | (simp [go_sem]; omega))) | with_reducible refine below_then ?_ hb4 | with_reducible refine below_then ?_ hb3 | with_reducible refine below_then ?_ hb2 | with_reducible refine below_then ?_ hb1)
set_option maxHeartbeats 8000000 in
set_option maxRecDepth 100000 in
theorem add17_over {a b : Int} (ua : U256 a) (ub : U256 b) (w : World) (hs : 115792089237316195423570985008687907853269984665640564039457584007913129639936 ≤ a + b) : Calls Try.prog 11 #[.agg #[.int .u64 (L0 a), .int .u64 (L1 a), .int .u64 (L2 a), .int .u64 (L3 a)], .agg #[.int .u64 (L0 b), .int .u64 (L1 b), .int .u64 (L2 b), .int .u64 (L3 b)]] w
    fun e w' => e = .returned (.tuple #[.agg #[.int .u64 0, .int .u64 0, .int .u64 0, .int .u64 0], .bool false]) ∧ Below w.heap.size w w' := by
  have h60 : a + b < B16 60 := by have := B16_60; unfold U256 at ua ub; omega
  have h16 : B16 16 ≤ a + b := by rw [B16_16]; exact hs
  clear hs
  go_enter Try.func11, Try.ntmps11
  go_wp2_with fail
  go_region_held3 (fun w' => w'.cell? ⟨w.heap.size, 0, none⟩ = some (.int .u64 (L0 a)) ∧ w'.cell? ⟨w.heap.size, 1, none⟩ = some (.int .u64 (L1 a)) ∧ w'.cell? ⟨w.heap.size, 2, none⟩ = some (.int .u64 (L2 a)) ∧ w'.cell? ⟨w.heap.size, 3, none⟩ = some (.int .u64 (L3 a)) ∧ w'.cell? ⟨w.heap.size + 1, 0, none⟩ = some (.int .u64 (L0 b)) ∧ w'.cell? ⟨w.heap.size + 1, 1, none⟩ = some (.int .u64 (L1 b)) ∧ w'.cell? ⟨w.heap.size + 1, 2, none⟩ = some (.int .u64 (L2 b)) ∧ w'.cell? ⟨w.heap.size + 1, 3, none⟩ = some (.int .u64 (L3 b))) ((refine ⟨?_, ?_, ?_, ?_, ?_, ?_, ?_, ?_⟩; all_goals go_simp))
    (first | (go_at_call 23; ((with_reducible refine (row_calls ua _).mono ?_); rintro e w1 ⟨v1, rfl, r1, hb1⟩; obtain ⟨hcl1, hfz1⟩ := bcell hb1; have hz1 := hb1.size; (try simp [go_sem] at hz1); (try have l1_0 : w.heap.size < w1.heap.size := by omega); (try have l1_1 : w.heap.size + 1 < w1.heap.size := by omega); (try have l1_2 : w.heap.size + 1 + 1 < w1.heap.size := by omega))) | (go_at_call 23; ((with_reducible refine (row_calls ub _).mono ?_); rintro e w2 ⟨v2, rfl, r2, hb2⟩; obtain ⟨hcl2, hfz2⟩ := bcell hb2; have hz2 := hb2.size; (try simp [go_sem] at hz2); (try have l2_0 : w.heap.size < w2.heap.size := by omega); (try have l2_1 : w.heap.size + 1 < w2.heap.size := by omega); (try have l2_2 : w.heap.size + 1 + 1 < w2.heap.size := by omega))) | (go_at_call 22; ((with_reducible refine (add_row (r1.below hb2) r2 h60).mono ?_); rintro e w3 ⟨v3, rfl, r3, hb3⟩; obtain ⟨hcl3, hfz3⟩ := bcell hb3; have hz3 := hb3.size; (try simp [go_sem] at hz3); (try have l3_0 : w.heap.size < w3.heap.size := by omega); (try have l3_1 : w.heap.size + 1 < w3.heap.size := by omega); (try have l3_2 : w.heap.size + 1 + 1 < w3.heap.size := by omega))) | (go_at_call 21; ((with_reducible refine (int_over r3 h16).mono ?_); rintro e w4 ⟨rfl, hb4⟩; obtain ⟨hcl4, hfz4⟩ := bcell hb4; have hz4 := hb4.size; (try simp [go_sem] at hz4); (try have l4_0 : w.heap.size < w4.heap.size := by omega); (try have l4_1 : w.heap.size + 1 < w4.heap.size := by omega); (try have l4_2 : w.heap.size + 1 + 1 < w4.heap.size := by omega))))
  all_goals go_wp2_with fail
  all_goals (refine bodyPost_ret (v := .tuple #[.agg #[.int .u64 0, .int .u64 0, .int .u64 0, .int .u64 0], .bool false]) (by simp [results, Try.results11, go_sem, *]) rfl ⟨rfl, ?_⟩)
  all_goals repeat (first | with_reducible exact Below.refl _ _ | (with_reducible assumption) | with_reducible apply bdrewN | with_reducible apply below_drew1 | with_reducible apply below_al | ((with_reducible refine below_set ?_ ?_); focus (first | omega | (simp [go_sem]; done) | (simp [go_sem]; omega))) | with_reducible refine below_then ?_ hb4 | with_reducible refine below_then ?_ hb3 | with_reducible refine below_then ?_ hb2 | with_reducible refine below_then ?_ hb1)
set_option maxHeartbeats 8000000 in
set_option maxRecDepth 100000 in
theorem sub17_fits {a b : Int} (ua : U256 a) (ub : U256 b) (w : World) (hle : b ≤ a) : Calls Try.prog 13 #[.agg #[.int .u64 (L0 a), .int .u64 (L1 a), .int .u64 (L2 a), .int .u64 (L3 a)], .agg #[.int .u64 (L0 b), .int .u64 (L1 b), .int .u64 (L2 b), .int .u64 (L3 b)]] w
    fun e w' => e = .returned (.tuple #[.agg #[.int .u64 (L0 (a - b)), .int .u64 (L1 (a - b)), .int .u64 (L2 (a - b)), .int .u64 (L3 (a - b))], .bool true]) ∧ Below w.heap.size w w' := by
  have h60 := u256_60 ua
  have h16 : a - b < B16 16 := by rw [B16_16]; unfold U256 at ua ub; omega
  have hsg : ¬ (sgn a b < 0) := by unfold sgn; rw [if_neg (by omega)]; split <;> omega
  go_enter Try.func13, Try.ntmps13
  go_wp2_with fail
  (go_at_call 23; ((with_reducible refine (row_calls ua _).mono ?_); rintro e w1 ⟨v1, rfl, r1, hb1⟩; obtain ⟨hcl1, hfz1⟩ := bcell hb1; have hz1 := hb1.size; (try simp [go_sem] at hz1); (try have l1_0 : w.heap.size < w1.heap.size := by omega); (try have l1_1 : w.heap.size + 1 < w1.heap.size := by omega); (try have l1_2 : w.heap.size + 1 + 1 < w1.heap.size := by omega)))
  go_wp2_with fail
  (go_at_call 23; ((with_reducible refine (row_calls ub _).mono ?_); rintro e w2 ⟨v2, rfl, r2, hb2⟩; obtain ⟨hcl2, hfz2⟩ := bcell hb2; have hz2 := hb2.size; (try simp [go_sem] at hz2); (try have l2_0 : w.heap.size < w2.heap.size := by omega); (try have l2_1 : w.heap.size + 1 < w2.heap.size := by omega); (try have l2_2 : w.heap.size + 1 + 1 < w2.heap.size := by omega)))
  go_wp2_with fail
  (go_at_call 24; ((with_reducible refine (cmp_row (r1.below hb2) r2).mono ?_); rintro e w3 ⟨rfl, hb3⟩; obtain ⟨hcl3, hfz3⟩ := bcell hb3; have hz3 := hb3.size; (try simp [go_sem] at hz3); (try have l3_0 : w.heap.size < w3.heap.size := by omega); (try have l3_1 : w.heap.size + 1 < w3.heap.size := by omega); (try have l3_2 : w.heap.size + 1 + 1 < w3.heap.size := by omega)))
  go_wp2_with fail
  (go_at_call 28; ((with_reducible refine (sub_row ((r1.below hb2).below hb3) (r2.below hb3) hle h60).mono ?_); rintro e w4 ⟨v4, rfl, r4, hb4⟩; obtain ⟨hcl4, hfz4⟩ := bcell hb4; have hz4 := hb4.size; (try simp [go_sem] at hz4); (try have l4_0 : w.heap.size < w4.heap.size := by omega); (try have l4_1 : w.heap.size + 1 < w4.heap.size := by omega); (try have l4_2 : w.heap.size + 1 + 1 < w4.heap.size := by omega)))
  go_wp2_with fail
  (go_at_call 21; ((with_reducible refine (int_fits r4 h16).mono ?_); rintro e w5 ⟨rfl, hb5⟩; obtain ⟨hcl5, hfz5⟩ := bcell hb5; have hz5 := hb5.size; (try simp [go_sem] at hz5); (try have l5_0 : w.heap.size < w5.heap.size := by omega); (try have l5_1 : w.heap.size + 1 < w5.heap.size := by omega); (try have l5_2 : w.heap.size + 1 + 1 < w5.heap.size := by omega)))
  go_wp2_with fail
  refine bodyPost_ret (v := .tuple #[.agg #[.int .u64 (L0 (a - b)), .int .u64 (L1 (a - b)), .int .u64 (L2 (a - b)), .int .u64 (L3 (a - b))], .bool true]) (by simp [results, Try.results13, go_sem, *]) rfl ⟨rfl, ?_⟩
  repeat (first | with_reducible exact Below.refl _ _ | (with_reducible assumption) | with_reducible apply bdrewN | with_reducible apply below_drew1 | with_reducible apply below_al | ((with_reducible refine below_set ?_ ?_); focus (first | omega | (simp [go_sem]; done) | (simp [go_sem]; omega))) | with_reducible refine below_then ?_ hb5 | with_reducible refine below_then ?_ hb4 | with_reducible refine below_then ?_ hb3 | with_reducible refine below_then ?_ hb2 | with_reducible refine below_then ?_ hb1)
end Go.Proofs.Ytgjdegahofoalaa.RN
