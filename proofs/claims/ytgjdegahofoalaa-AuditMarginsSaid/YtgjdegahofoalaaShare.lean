/- share.more: two numbers, each one more. -/
import Derived.Test.YtgjdegahofoalaaHuge
import Derived.Test.YtgjdegahofoalaaBlk
import Derived.Deep.DeepCutAuto
import Derived.Deep.CutBlock
set_option linter.unusedVariables false
set_option linter.unusedSimpArgs false
namespace Go.Proofs.Ytgjdegahofoalaa.Share
open Go.RowKit Go.Proofs.Ytgjdegahofoalaa.Huge
theorem one_u : U256 1 := ⟨by decide, by decide⟩
theorem of_one (w : World) : Calls Try.prog 32 #[.int .u64 1] w fun e w' => e = .returned (A4 1) ∧ Below w.heap.size w w' := of_calls 1 w
set_option maxHeartbeats 2000000 in
set_option maxRecDepth 100000 in
theorem more_lt {a b : Int} (ua : U256 a) (ub : U256 b) (w : World) (he : addE a 1 < addE b 1) : Calls Try.prog 18 #[.agg #[.int .u64 (L0 a), .int .u64 (L1 a), .int .u64 (L2 a), .int .u64 (L3 a)], .agg #[.int .u64 (L0 b), .int .u64 (L1 b), .int .u64 (L2 b), .int .u64 (L3 b)]] w
    fun e w' => e = .returned (.tuple #[.agg #[.int .u64 (L0 (addN a 1)), .int .u64 (L1 (addN a 1)), .int .u64 (L2 (addN a 1)), .int .u64 (L3 (addN a 1))], .agg #[.int .u64 (L0 (addN b 1)), .int .u64 (L1 (addN b 1)), .int .u64 (L2 (addN b 1)), .int .u64 (L3 (addN b 1))], .int .i64 (addE b 1)]) ∧ Below w.heap.size w w' := by
  go_enter Try.func18, Try.ntmps18
  go_wp2_with fail
  (go_at_call 32; refine (of_one _).mono ?_; rintro e w1 ⟨rfl, hb1⟩; obtain ⟨hcl1, hfz1⟩ := bcell hb1; have hz1 := hb1.size; (try simp [go_sem] at hz1))
  have l1_0 : w.heap.size < w1.heap.size := by omega
  have l1_1 : w.heap.size + 1 < w1.heap.size := by omega
  have l1_2 : w.heap.size + 1 + 1 < w1.heap.size := by omega
  have l1_3 : w.heap.size + 1 + 1 + 1 < w1.heap.size := by omega
  go_wp2_with fail
  (go_at_call 8; refine (add_calls ua one_u _).mono ?_; rintro e w2 ⟨rfl, hb2⟩; obtain ⟨hcl2, hfz2⟩ := bcell hb2; have hz2 := hb2.size; (try simp [go_sem] at hz2))
  have l2_0 : w.heap.size < w2.heap.size := by omega
  have l2_1 : w.heap.size + 1 < w2.heap.size := by omega
  have l2_2 : w.heap.size + 1 + 1 < w2.heap.size := by omega
  have l2_3 : w.heap.size + 1 + 1 + 1 < w2.heap.size := by omega
  have l2_4 : w1.heap.size < w2.heap.size := by omega
  go_upto_region 3 with (fail)
  go_cut [6, 8] (fun v6 v8 wc => v6 = .int .i64 (addE a 1) ∧ v8 = .int .i64 (addE b 1) ∧ BlkAt wc (w.heap.size + 1 + 1) #[.int .u64 (L0 (addN a 1)), .int .u64 (L1 (addN a 1)), .int .u64 (L2 (addN a 1)), .int .u64 (L3 (addN a 1))] 24 ∧ BlkAt wc (w.heap.size + 1 + 1 + 1) #[.int .u64 (L0 (addN b 1)), .int .u64 (L1 (addN b 1)), .int .u64 (L2 (addN b 1)), .int .u64 (L3 (addN b 1))] 24 ∧ Below w.heap.size w wc ∧ w.heap.size + 1 + 1 + 1 < wc.heap.size)
  case first =>
    go_wp2_with fail
    (go_at_call 8; refine (add_calls ub one_u _).mono ?_; rintro e w3 ⟨rfl, hb3⟩; obtain ⟨hcl3, hfz3⟩ := bcell hb3; have hz3 := hb3.size; (try simp [go_sem] at hz3))
    have l3_0 : w.heap.size < w3.heap.size := by omega
    have l3_1 : w.heap.size + 1 < w3.heap.size := by omega
    have l3_2 : w.heap.size + 1 + 1 < w3.heap.size := by omega
    have l3_3 : w.heap.size + 1 + 1 + 1 < w3.heap.size := by omega
    have l3_4 : w1.heap.size < w3.heap.size := by omega
    go_wp2_with fail
    go_meet
    case rel =>
      clear hcl1 hcl2 hcl3 hfz1 hfz2 hfz3
      refine ⟨rfl, rfl, ?_, ?_, ?_, (by first | omega | (simp [go_sem]; omega))⟩
      · repeat (first | (with_reducible assumption) | ((with_reducible refine blk_new ?_); first | omega | (simp [go_sem]; done) | (simp [go_sem]; omega)) | with_reducible apply blk_put8 | with_reducible apply blk_put4 | with_reducible apply blk_put8_0 | with_reducible apply blk_put8_1 | with_reducible apply blk_put8_2 | with_reducible apply blk_put8_3 | with_reducible apply blk_put8_4 | with_reducible apply blk_put8_5 | with_reducible apply blk_put8_6 | with_reducible apply blk_put8_7 | with_reducible apply blk_put4_0 | with_reducible apply blk_put4_1 | with_reducible apply blk_put4_2 | with_reducible apply blk_put4_3 | ((with_reducible refine blk_far ?_ ?_); focus (first | omega | (simp [go_sem]; done) | (simp [go_sem]; omega))) | ((with_reducible refine blk_past ?_ ?_); focus (first | omega | (simp [go_sem]; done) | (simp [go_sem]; omega))) | with_reducible apply blk_drew | with_reducible apply blk_drewN | ((with_reducible refine blk_below hb3 ?_ ?_); focus (first | omega | (simp [go_sem]; done) | (simp [go_sem]; omega))) | ((with_reducible refine blk_below hb2 ?_ ?_); focus (first | omega | (simp [go_sem]; done) | (simp [go_sem]; omega))) | ((with_reducible refine blk_below hb1 ?_ ?_); focus (first | omega | (simp [go_sem]; done) | (simp [go_sem]; omega))))
      · repeat (first | (with_reducible assumption) | ((with_reducible refine blk_new ?_); first | omega | (simp [go_sem]; done) | (simp [go_sem]; omega)) | with_reducible apply blk_put8 | with_reducible apply blk_put4 | with_reducible apply blk_put8_0 | with_reducible apply blk_put8_1 | with_reducible apply blk_put8_2 | with_reducible apply blk_put8_3 | with_reducible apply blk_put8_4 | with_reducible apply blk_put8_5 | with_reducible apply blk_put8_6 | with_reducible apply blk_put8_7 | with_reducible apply blk_put4_0 | with_reducible apply blk_put4_1 | with_reducible apply blk_put4_2 | with_reducible apply blk_put4_3 | ((with_reducible refine blk_far ?_ ?_); focus (first | omega | (simp [go_sem]; done) | (simp [go_sem]; omega))) | ((with_reducible refine blk_past ?_ ?_); focus (first | omega | (simp [go_sem]; done) | (simp [go_sem]; omega))) | with_reducible apply blk_drew | with_reducible apply blk_drewN | ((with_reducible refine blk_below hb3 ?_ ?_); focus (first | omega | (simp [go_sem]; done) | (simp [go_sem]; omega))) | ((with_reducible refine blk_below hb2 ?_ ?_); focus (first | omega | (simp [go_sem]; done) | (simp [go_sem]; omega))) | ((with_reducible refine blk_below hb1 ?_ ?_); focus (first | omega | (simp [go_sem]; done) | (simp [go_sem]; omega))))
      · repeat (first | with_reducible exact Below.refl _ _ | (with_reducible assumption) | with_reducible apply bdrewN | with_reducible apply below_drew1 | with_reducible apply below_al | ((with_reducible refine below_set ?_ ?_); focus (first | omega | (simp [go_sem]; done) | (simp [go_sem]; omega))) | with_reducible refine below_then ?_ hb3 | with_reducible refine below_then ?_ hb2 | with_reducible refine below_then ?_ hb1)
  case rest =>
    obtain ⟨rfl, rfl, b1, b2, hbw, hz⟩ := hcut
    obtain ⟨cx_0, cx_1, cx_2, cx_3, fx_0, fx_1, fx_2, fx_3⟩ := blk_facts4 b1
    obtain ⟨cy_0, cy_1, cy_2, cy_3, fy_0, fy_1, fy_2, fy_3⟩ := blk_facts4 b2
    clear hcl1 hcl2 hfz1 hfz2 hb1 hb2 b1 b2
    go_wp2_with fail
    go_region_held3 (fun w' => w'.cell? ⟨w.heap.size + 1 + 1, 0, none⟩ = some (.int .u64 (L0 (addN a 1))) ∧ w'.cell? ⟨w.heap.size + 1 + 1, 1, none⟩ = some (.int .u64 (L1 (addN a 1))) ∧ w'.cell? ⟨w.heap.size + 1 + 1, 2, none⟩ = some (.int .u64 (L2 (addN a 1))) ∧ w'.cell? ⟨w.heap.size + 1 + 1, 3, none⟩ = some (.int .u64 (L3 (addN a 1))) ∧ w'.cell? ⟨w.heap.size + 1 + 1 + 1, 0, none⟩ = some (.int .u64 (L0 (addN b 1))) ∧ w'.cell? ⟨w.heap.size + 1 + 1 + 1, 1, none⟩ = some (.int .u64 (L1 (addN b 1))) ∧ w'.cell? ⟨w.heap.size + 1 + 1 + 1, 2, none⟩ = some (.int .u64 (L2 (addN b 1))) ∧ w'.cell? ⟨w.heap.size + 1 + 1 + 1, 3, none⟩ = some (.int .u64 (L3 (addN b 1)))) ((refine ⟨?_, ?_, ?_, ?_, ?_, ?_, ?_, ?_⟩; all_goals go_simp)) (fail)
    all_goals go_wp2_with fail
    all_goals (refine bodyPost_ret (v := .tuple #[.agg #[.int .u64 (L0 (addN a 1)), .int .u64 (L1 (addN a 1)), .int .u64 (L2 (addN a 1)), .int .u64 (L3 (addN a 1))], .agg #[.int .u64 (L0 (addN b 1)), .int .u64 (L1 (addN b 1)), .int .u64 (L2 (addN b 1)), .int .u64 (L3 (addN b 1))], .int .i64 (addE b 1)]) (by simp [results, Try.results18, go_sem, *]) rfl ⟨rfl, ?_⟩; repeat (first | with_reducible exact Below.refl _ _ | (with_reducible assumption) | with_reducible apply bdrewN | with_reducible apply below_drew1 | with_reducible apply below_al | ((with_reducible refine below_set ?_ ?_); focus (first | omega | (simp; done) | (simp; omega)))))
set_option maxHeartbeats 2000000 in
set_option maxRecDepth 100000 in
theorem more_ge {a b : Int} (ua : U256 a) (ub : U256 b) (w : World) (he : ¬ (addE a 1 < addE b 1)) : Calls Try.prog 18 #[.agg #[.int .u64 (L0 a), .int .u64 (L1 a), .int .u64 (L2 a), .int .u64 (L3 a)], .agg #[.int .u64 (L0 b), .int .u64 (L1 b), .int .u64 (L2 b), .int .u64 (L3 b)]] w
    fun e w' => e = .returned (.tuple #[.agg #[.int .u64 (L0 (addN a 1)), .int .u64 (L1 (addN a 1)), .int .u64 (L2 (addN a 1)), .int .u64 (L3 (addN a 1))], .agg #[.int .u64 (L0 (addN b 1)), .int .u64 (L1 (addN b 1)), .int .u64 (L2 (addN b 1)), .int .u64 (L3 (addN b 1))], .int .i64 (addE a 1)]) ∧ Below w.heap.size w w' := by
  go_enter Try.func18, Try.ntmps18
  go_wp2_with fail
  (go_at_call 32; refine (of_one _).mono ?_; rintro e w1 ⟨rfl, hb1⟩; obtain ⟨hcl1, hfz1⟩ := bcell hb1; have hz1 := hb1.size; (try simp [go_sem] at hz1))
  have l1_0 : w.heap.size < w1.heap.size := by omega
  have l1_1 : w.heap.size + 1 < w1.heap.size := by omega
  have l1_2 : w.heap.size + 1 + 1 < w1.heap.size := by omega
  have l1_3 : w.heap.size + 1 + 1 + 1 < w1.heap.size := by omega
  go_wp2_with fail
  (go_at_call 8; refine (add_calls ua one_u _).mono ?_; rintro e w2 ⟨rfl, hb2⟩; obtain ⟨hcl2, hfz2⟩ := bcell hb2; have hz2 := hb2.size; (try simp [go_sem] at hz2))
  have l2_0 : w.heap.size < w2.heap.size := by omega
  have l2_1 : w.heap.size + 1 < w2.heap.size := by omega
  have l2_2 : w.heap.size + 1 + 1 < w2.heap.size := by omega
  have l2_3 : w.heap.size + 1 + 1 + 1 < w2.heap.size := by omega
  have l2_4 : w1.heap.size < w2.heap.size := by omega
  go_upto_region 3 with (fail)
  go_cut [6, 8] (fun v6 v8 wc => v6 = .int .i64 (addE a 1) ∧ v8 = .int .i64 (addE b 1) ∧ BlkAt wc (w.heap.size + 1 + 1) #[.int .u64 (L0 (addN a 1)), .int .u64 (L1 (addN a 1)), .int .u64 (L2 (addN a 1)), .int .u64 (L3 (addN a 1))] 24 ∧ BlkAt wc (w.heap.size + 1 + 1 + 1) #[.int .u64 (L0 (addN b 1)), .int .u64 (L1 (addN b 1)), .int .u64 (L2 (addN b 1)), .int .u64 (L3 (addN b 1))] 24 ∧ Below w.heap.size w wc ∧ w.heap.size + 1 + 1 + 1 < wc.heap.size)
  case first =>
    go_wp2_with fail
    (go_at_call 8; refine (add_calls ub one_u _).mono ?_; rintro e w3 ⟨rfl, hb3⟩; obtain ⟨hcl3, hfz3⟩ := bcell hb3; have hz3 := hb3.size; (try simp [go_sem] at hz3))
    have l3_0 : w.heap.size < w3.heap.size := by omega
    have l3_1 : w.heap.size + 1 < w3.heap.size := by omega
    have l3_2 : w.heap.size + 1 + 1 < w3.heap.size := by omega
    have l3_3 : w.heap.size + 1 + 1 + 1 < w3.heap.size := by omega
    have l3_4 : w1.heap.size < w3.heap.size := by omega
    go_wp2_with fail
    go_meet
    case rel =>
      clear hcl1 hcl2 hcl3 hfz1 hfz2 hfz3
      refine ⟨rfl, rfl, ?_, ?_, ?_, (by first | omega | (simp [go_sem]; omega))⟩
      · repeat (first | (with_reducible assumption) | ((with_reducible refine blk_new ?_); first | omega | (simp [go_sem]; done) | (simp [go_sem]; omega)) | with_reducible apply blk_put8 | with_reducible apply blk_put4 | with_reducible apply blk_put8_0 | with_reducible apply blk_put8_1 | with_reducible apply blk_put8_2 | with_reducible apply blk_put8_3 | with_reducible apply blk_put8_4 | with_reducible apply blk_put8_5 | with_reducible apply blk_put8_6 | with_reducible apply blk_put8_7 | with_reducible apply blk_put4_0 | with_reducible apply blk_put4_1 | with_reducible apply blk_put4_2 | with_reducible apply blk_put4_3 | ((with_reducible refine blk_far ?_ ?_); focus (first | omega | (simp [go_sem]; done) | (simp [go_sem]; omega))) | ((with_reducible refine blk_past ?_ ?_); focus (first | omega | (simp [go_sem]; done) | (simp [go_sem]; omega))) | with_reducible apply blk_drew | with_reducible apply blk_drewN | ((with_reducible refine blk_below hb3 ?_ ?_); focus (first | omega | (simp [go_sem]; done) | (simp [go_sem]; omega))) | ((with_reducible refine blk_below hb2 ?_ ?_); focus (first | omega | (simp [go_sem]; done) | (simp [go_sem]; omega))) | ((with_reducible refine blk_below hb1 ?_ ?_); focus (first | omega | (simp [go_sem]; done) | (simp [go_sem]; omega))))
      · repeat (first | (with_reducible assumption) | ((with_reducible refine blk_new ?_); first | omega | (simp [go_sem]; done) | (simp [go_sem]; omega)) | with_reducible apply blk_put8 | with_reducible apply blk_put4 | with_reducible apply blk_put8_0 | with_reducible apply blk_put8_1 | with_reducible apply blk_put8_2 | with_reducible apply blk_put8_3 | with_reducible apply blk_put8_4 | with_reducible apply blk_put8_5 | with_reducible apply blk_put8_6 | with_reducible apply blk_put8_7 | with_reducible apply blk_put4_0 | with_reducible apply blk_put4_1 | with_reducible apply blk_put4_2 | with_reducible apply blk_put4_3 | ((with_reducible refine blk_far ?_ ?_); focus (first | omega | (simp [go_sem]; done) | (simp [go_sem]; omega))) | ((with_reducible refine blk_past ?_ ?_); focus (first | omega | (simp [go_sem]; done) | (simp [go_sem]; omega))) | with_reducible apply blk_drew | with_reducible apply blk_drewN | ((with_reducible refine blk_below hb3 ?_ ?_); focus (first | omega | (simp [go_sem]; done) | (simp [go_sem]; omega))) | ((with_reducible refine blk_below hb2 ?_ ?_); focus (first | omega | (simp [go_sem]; done) | (simp [go_sem]; omega))) | ((with_reducible refine blk_below hb1 ?_ ?_); focus (first | omega | (simp [go_sem]; done) | (simp [go_sem]; omega))))
      · repeat (first | with_reducible exact Below.refl _ _ | (with_reducible assumption) | with_reducible apply bdrewN | with_reducible apply below_drew1 | with_reducible apply below_al | ((with_reducible refine below_set ?_ ?_); focus (first | omega | (simp [go_sem]; done) | (simp [go_sem]; omega))) | with_reducible refine below_then ?_ hb3 | with_reducible refine below_then ?_ hb2 | with_reducible refine below_then ?_ hb1)
  case rest =>
    obtain ⟨rfl, rfl, b1, b2, hbw, hz⟩ := hcut
    obtain ⟨cx_0, cx_1, cx_2, cx_3, fx_0, fx_1, fx_2, fx_3⟩ := blk_facts4 b1
    obtain ⟨cy_0, cy_1, cy_2, cy_3, fy_0, fy_1, fy_2, fy_3⟩ := blk_facts4 b2
    clear hcl1 hcl2 hfz1 hfz2 hb1 hb2 b1 b2
    go_wp2_with fail
    go_region_held3 (fun w' => w'.cell? ⟨w.heap.size + 1 + 1, 0, none⟩ = some (.int .u64 (L0 (addN a 1))) ∧ w'.cell? ⟨w.heap.size + 1 + 1, 1, none⟩ = some (.int .u64 (L1 (addN a 1))) ∧ w'.cell? ⟨w.heap.size + 1 + 1, 2, none⟩ = some (.int .u64 (L2 (addN a 1))) ∧ w'.cell? ⟨w.heap.size + 1 + 1, 3, none⟩ = some (.int .u64 (L3 (addN a 1))) ∧ w'.cell? ⟨w.heap.size + 1 + 1 + 1, 0, none⟩ = some (.int .u64 (L0 (addN b 1))) ∧ w'.cell? ⟨w.heap.size + 1 + 1 + 1, 1, none⟩ = some (.int .u64 (L1 (addN b 1))) ∧ w'.cell? ⟨w.heap.size + 1 + 1 + 1, 2, none⟩ = some (.int .u64 (L2 (addN b 1))) ∧ w'.cell? ⟨w.heap.size + 1 + 1 + 1, 3, none⟩ = some (.int .u64 (L3 (addN b 1)))) ((refine ⟨?_, ?_, ?_, ?_, ?_, ?_, ?_, ?_⟩; all_goals go_simp)) (fail)
    all_goals go_wp2_with fail
    all_goals (refine bodyPost_ret (v := .tuple #[.agg #[.int .u64 (L0 (addN a 1)), .int .u64 (L1 (addN a 1)), .int .u64 (L2 (addN a 1)), .int .u64 (L3 (addN a 1))], .agg #[.int .u64 (L0 (addN b 1)), .int .u64 (L1 (addN b 1)), .int .u64 (L2 (addN b 1)), .int .u64 (L3 (addN b 1))], .int .i64 (addE a 1)]) (by simp [results, Try.results18, go_sem, *]) rfl ⟨rfl, ?_⟩; repeat (first | with_reducible exact Below.refl _ _ | (with_reducible assumption) | with_reducible apply bdrewN | with_reducible apply below_drew1 | with_reducible apply below_al | ((with_reducible refine below_set ?_ ?_); focus (first | omega | (simp; done) | (simp; omega)))))
end Go.Proofs.Ytgjdegahofoalaa.Share
