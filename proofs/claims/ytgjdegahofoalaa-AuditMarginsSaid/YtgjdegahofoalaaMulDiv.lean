/- wide.MulDiv: a product by a number. -/
import Derived.Test.YtgjdegahofoalaaWideA
import Derived.Test.YtgjdegahofoalaaDivide1
import Derived.Test.YtgjdegahofoalaaBlk
import Derived.Deep.DeepCutAuto
import Derived.Deep.CutBlock
set_option linter.unusedVariables false
set_option linter.unusedSimpArgs false
namespace Go.Proofs.Ytgjdegahofoalaa.Wide
open Go.RowKit

theorem put4_ {w : World} {n : Nat} {a0 a1 a2 a3 v0 v1 v2 v3 : Value} {t : TypeId} (k : BlkAt w n #[a0, a1, a2, a3] t) :
    BlkAt ((((w.setCell ⟨n, 0, none⟩ v0).setCell ⟨n, 1, none⟩ v1).setCell ⟨n, 2, none⟩ v2).setCell ⟨n, 3, none⟩ v3) n #[v0, v1, v2, v3] t := blk_put4 k
set_option maxHeartbeats 60000000 in
set_option maxRecDepth 100000 in
theorem muldiv_fits {a b d q r : Int} (ua : U256 a) (ub : U256 b) (w : World)
    (hD : Hid (∀ w : World, Calls Try.prog 33 #[.agg #[.int .u64 (L0 (a * b)), .int .u64 (L1 (a * b)), .int .u64 (L2 (a * b)), .int .u64 (L3 (a * b)), .int .u64 (L4 (a * b)), .int .u64 (L5 (a * b)), .int .u64 (L6 (a * b)), .int .u64 (L7 (a * b))], .agg #[.int .u64 (L0 d), .int .u64 (L1 d), .int .u64 (L2 d), .int .u64 (L3 d)]] w fun e w' => e = .returned (.tuple #[.agg #[.int .u64 (L0 q), .int .u64 (L1 q), .int .u64 (L2 q), .int .u64 (L3 q), .int .u64 (L4 q), .int .u64 (L5 q), .int .u64 (L6 q), .int .u64 (L7 q)], .agg #[.int .u64 (L0 r), .int .u64 (L1 r), .int .u64 (L2 r), .int .u64 (L3 r)], .int .i64 0]) ∧ Below w.heap.size w w')) (hz : (Go.bits .or .u64 (Go.bits .or .u64 (Go.bits .or .u64 (L4 q) (L5 q)) (L6 q)) (L7 q) != 0) = false) :
    Calls Try.prog 19 #[.agg #[.int .u64 (L0 a), .int .u64 (L1 a), .int .u64 (L2 a), .int .u64 (L3 a)], .agg #[.int .u64 (L0 b), .int .u64 (L1 b), .int .u64 (L2 b), .int .u64 (L3 b)], .agg #[.int .u64 (L0 d), .int .u64 (L1 d), .int .u64 (L2 d), .int .u64 (L3 d)]] w fun e w' => e = .returned (.tuple #[.agg #[.int .u64 (L0 q), .int .u64 (L1 q), .int .u64 (L2 q), .int .u64 (L3 q)], .int .i64 0]) ∧ Below w.heap.size w w' := by
  have HZ := Lib.hid hz; clear hz
  go_enter Try.func19, Try.ntmps19
  go_upto_region 1 with (fail)
  go_cut [8, 10] (fun v8 v10 wc => ∃ p8 : Nat, v8 = .pointer (some ⟨p8, 0, none⟩) ∧ v10 = .int .i64 0 ∧ BlkAt wc p8 #[.int .u64 (L0 q), .int .u64 (L1 q), .int .u64 (L2 q), .int .u64 (L3 q), .int .u64 (L4 q), .int .u64 (L5 q), .int .u64 (L6 q), .int .u64 (L7 q)] 63 ∧ BlkAt wc (w.heap.size + 1 + 1 + 1) #[.int .u64 0, .int .u64 0, .int .u64 0, .int .u64 0] 24 ∧ Below w.heap.size w wc ∧ w.heap.size + 1 + 1 + 1 < wc.heap.size ∧ p8 < wc.heap.size)
  case first =>
    go_region_held3 (fun w' => w'.cell? ⟨w.heap.size, 0, none⟩ = some (.int .u64 (L0 a)) ∧ w'.cell? ⟨w.heap.size, 1, none⟩ = some (.int .u64 (L1 a)) ∧ w'.cell? ⟨w.heap.size, 2, none⟩ = some (.int .u64 (L2 a)) ∧ w'.cell? ⟨w.heap.size, 3, none⟩ = some (.int .u64 (L3 a)) ∧ w'.cell? ⟨w.heap.size + 1, 0, none⟩ = some (.int .u64 (L0 b)) ∧ w'.cell? ⟨w.heap.size + 1, 1, none⟩ = some (.int .u64 (L1 b)) ∧ w'.cell? ⟨w.heap.size + 1, 2, none⟩ = some (.int .u64 (L2 b)) ∧ w'.cell? ⟨w.heap.size + 1, 3, none⟩ = some (.int .u64 (L3 b)) ∧ w'.cell? ⟨w.heap.size + 1 + 1, 0, none⟩ = some (.int .u64 (L0 d)) ∧ w'.cell? ⟨w.heap.size + 1 + 1, 1, none⟩ = some (.int .u64 (L1 d)) ∧ w'.cell? ⟨w.heap.size + 1 + 1, 2, none⟩ = some (.int .u64 (L2 d)) ∧ w'.cell? ⟨w.heap.size + 1 + 1, 3, none⟩ = some (.int .u64 (L3 d))) ((refine ⟨?_, ?_, ?_, ?_, ?_, ?_, ?_, ?_, ?_, ?_, ?_, ?_⟩; all_goals go_simp))
      (first | (go_at_call 34; refine (product_calls ua ub _).mono ?_; rintro e w1 ⟨rfl, hb1⟩; obtain ⟨hcl1, hfz1⟩ := bcell hb1; have hz1 := hb1.size; (try simp [go_sem] at hz1); (try have l100 : w.heap.size < w1.heap.size := by omega); (try have l101 : w.heap.size < w1.heap.size + 1 := by omega); (try have l102 : w.heap.size < w1.heap.size + 1 + 1 := by omega); (try have l110 : w.heap.size + 1 < w1.heap.size := by omega); (try have l111 : w.heap.size + 1 < w1.heap.size + 1 := by omega); (try have l112 : w.heap.size + 1 < w1.heap.size + 1 + 1 := by omega); (try have l120 : w.heap.size + 1 + 1 < w1.heap.size := by omega); (try have l121 : w.heap.size + 1 + 1 < w1.heap.size + 1 := by omega); (try have l122 : w.heap.size + 1 + 1 < w1.heap.size + 1 + 1 := by omega); (try have l130 : w.heap.size + 1 + 1 + 1 < w1.heap.size := by omega); (try have l131 : w.heap.size + 1 + 1 + 1 < w1.heap.size + 1 := by omega); (try have l132 : w.heap.size + 1 + 1 + 1 < w1.heap.size + 1 + 1 := by omega); (try have l140 : w.heap.size + 1 + 1 + 1 + 1 < w1.heap.size := by omega); (try have l141 : w.heap.size + 1 + 1 + 1 + 1 < w1.heap.size + 1 := by omega); (try have l142 : w.heap.size + 1 + 1 + 1 + 1 < w1.heap.size + 1 + 1 := by omega); (try have l150 : w.heap.size + 1 + 1 + 1 + 1 + 1 < w1.heap.size := by omega); (try have l151 : w.heap.size + 1 + 1 + 1 + 1 + 1 < w1.heap.size + 1 := by omega); (try have l152 : w.heap.size + 1 + 1 + 1 + 1 + 1 < w1.heap.size + 1 + 1 := by omega)) | (go_at_call 33; refine (hD.out _).mono ?_; rintro e w2 ⟨rfl, hb2⟩; obtain ⟨hcl2, hfz2⟩ := bcell hb2; have hz2 := hb2.size; (try simp [go_sem] at hz2); (try have l200 : w.heap.size < w2.heap.size := by omega); (try have l201 : w.heap.size < w2.heap.size + 1 := by omega); (try have l202 : w.heap.size < w2.heap.size + 1 + 1 := by omega); (try have l210 : w.heap.size + 1 < w2.heap.size := by omega); (try have l211 : w.heap.size + 1 < w2.heap.size + 1 := by omega); (try have l212 : w.heap.size + 1 < w2.heap.size + 1 + 1 := by omega); (try have l220 : w.heap.size + 1 + 1 < w2.heap.size := by omega); (try have l221 : w.heap.size + 1 + 1 < w2.heap.size + 1 := by omega); (try have l222 : w.heap.size + 1 + 1 < w2.heap.size + 1 + 1 := by omega); (try have l230 : w.heap.size + 1 + 1 + 1 < w2.heap.size := by omega); (try have l231 : w.heap.size + 1 + 1 + 1 < w2.heap.size + 1 := by omega); (try have l232 : w.heap.size + 1 + 1 + 1 < w2.heap.size + 1 + 1 := by omega); (try have l240 : w.heap.size + 1 + 1 + 1 + 1 < w2.heap.size := by omega); (try have l241 : w.heap.size + 1 + 1 + 1 + 1 < w2.heap.size + 1 := by omega); (try have l242 : w.heap.size + 1 + 1 + 1 + 1 < w2.heap.size + 1 + 1 := by omega); (try have l250 : w.heap.size + 1 + 1 + 1 + 1 + 1 < w2.heap.size := by omega); (try have l251 : w.heap.size + 1 + 1 + 1 + 1 + 1 < w2.heap.size + 1 := by omega); (try have l252 : w.heap.size + 1 + 1 + 1 + 1 + 1 < w2.heap.size + 1 + 1 := by omega); (try have m200 : w1.heap.size < w2.heap.size := by omega); (try have m201 : w1.heap.size < w2.heap.size + 1 := by omega); (try have m202 : w1.heap.size < w2.heap.size + 1 + 1 := by omega); (try have m210 : w1.heap.size + 1 < w2.heap.size := by omega); (try have m211 : w1.heap.size + 1 < w2.heap.size + 1 := by omega); (try have m212 : w1.heap.size + 1 < w2.heap.size + 1 + 1 := by omega)))
    all_goals go_wp2_with fail
    all_goals go_meet
    all_goals clear hcl1 hfz1 hcl2 hfz2 hD HZ
    all_goals (try clear l100)
    all_goals (try clear l101)
    all_goals (try clear l102)
    all_goals (try clear l110)
    all_goals (try clear l111)
    all_goals (try clear l112)
    all_goals (try clear l120)
    all_goals (try clear l121)
    all_goals (try clear l122)
    all_goals (try clear l130)
    all_goals (try clear l131)
    all_goals (try clear l132)
    all_goals (try clear l140)
    all_goals (try clear l141)
    all_goals (try clear l142)
    all_goals (try clear l150)
    all_goals (try clear l151)
    all_goals (try clear l152)
    all_goals (try clear l200)
    all_goals (try clear l201)
    all_goals (try clear l202)
    all_goals (try clear l210)
    all_goals (try clear l211)
    all_goals (try clear l212)
    all_goals (try clear l220)
    all_goals (try clear l221)
    all_goals (try clear l222)
    all_goals (try clear l230)
    all_goals (try clear l231)
    all_goals (try clear l232)
    all_goals (try clear l240)
    all_goals (try clear l241)
    all_goals (try clear l242)
    all_goals (try clear l250)
    all_goals (try clear l251)
    all_goals (try clear l252)
    all_goals (try clear m200)
    all_goals (try clear m201)
    all_goals (try clear m202)
    all_goals (try clear m210)
    all_goals (try clear m211)
    all_goals (try clear m212)
    all_goals (case rel => refine ⟨_, rfl, rfl, ?_, ?_, (by repeat (first | with_reducible exact Below.refl _ _ | (with_reducible assumption) | with_reducible apply bdrewN | with_reducible apply below_drew1 | with_reducible apply below_al | ((with_reducible refine below_set ?_ ?_); focus (first | omega | (simp [go_sem]; done) | (simp [go_sem]; omega))) | with_reducible refine below_then ?_ hb2 | with_reducible refine below_then ?_ hb1)), (by first | omega | (simp [go_sem]; done) | (simp [go_sem]; omega)), (by first | omega | (simp [go_sem]; done) | (simp [go_sem]; omega))⟩ <;> repeat (first | (with_reducible assumption) | ((with_reducible refine blk_new ?_); first | omega | (simp [go_sem]; done) | (simp [go_sem]; omega)) | with_reducible apply blk_put8 | with_reducible apply blk_put4 | with_reducible apply blk_put8_0 | with_reducible apply blk_put8_1 | with_reducible apply blk_put8_2 | with_reducible apply blk_put8_3 | with_reducible apply blk_put8_4 | with_reducible apply blk_put8_5 | with_reducible apply blk_put8_6 | with_reducible apply blk_put8_7 | with_reducible apply blk_put4_0 | with_reducible apply blk_put4_1 | with_reducible apply blk_put4_2 | with_reducible apply blk_put4_3 | ((with_reducible refine blk_far ?_ ?_); focus (first | omega | (simp [go_sem]; done) | (simp [go_sem]; omega))) | ((with_reducible refine blk_past ?_ ?_); focus (first | omega | (simp [go_sem]; done) | (simp [go_sem]; omega))) | with_reducible apply blk_drew | with_reducible apply blk_drewN | ((with_reducible refine blk_below hb2 ?_ ?_); focus (first | omega | (simp [go_sem]; done) | (simp [go_sem]; omega))) | ((with_reducible refine blk_below hb1 ?_ ?_); focus (first | omega | (simp [go_sem]; done) | (simp [go_sem]; omega)))))
  case rest =>
    obtain ⟨p8, rfl, rfl, QN, RN, hbw, hz, hp⟩ := hcut
    have q0 := blk_cell QN 0
    have q1 := blk_cell QN 1
    have q2 := blk_cell QN 2
    have q3 := blk_cell QN 3
    have q4 := blk_cell QN 4
    have q5 := blk_cell QN 5
    have q6 := blk_cell QN 6
    have q7 := blk_cell QN 7
    have r0 := blk_cell RN 0
    have r1 := blk_cell RN 1
    have r2 := blk_cell RN 2
    have r3 := blk_cell RN 3
    have f0 := blk_free RN 0
    have f1 := blk_free RN 1
    have f2 := blk_free RN 2
    have f3 := blk_free RN 3
    clear QN RN
    simp only [List.getElem?_toArray, List.getElem?_cons_zero, List.getElem?_cons_succ] at q0 q1 q2 q3 q4 q5 q6 q7 r0 r1 r2 r3
    go_wp2_with (go_at_call 35; refine (narrow_fits q _ HZ.out).mono ?_; rintro e w3 ⟨rfl, hb3⟩; obtain ⟨hcl3, hfz3⟩ := bcell hb3; have hbw3 := below_then hbw hb3; have hz3 := hb3.size)
    refine bodyPost_ret (v := .tuple #[.agg #[.int .u64 (L0 q), .int .u64 (L1 q), .int .u64 (L2 q), .int .u64 (L3 q)], .int .i64 0]) (by simp [results, Try.results19, go_sem, *]) rfl ⟨rfl, ?_⟩
    repeat (first | with_reducible exact Below.refl _ _ | (with_reducible assumption) | with_reducible apply bdrewN | with_reducible apply below_drew1 | with_reducible apply below_al | ((with_reducible refine below_set ?_ ?_); focus (first | omega | (simp; done) | (simp; omega))))
end Go.Proofs.Ytgjdegahofoalaa.Wide

/- wide.MulDiv in numbers. -/
namespace Go.Proofs.Ytgjdegahofoalaa.Wide
open Go.RowKit
theorem mul_lt_sq {a b M : Int} (a0 : 0 ≤ a) (ha : a < M) (b0 : 0 ≤ b) (hb : b < M) (hM : 0 < M) : a * b < M * M :=
  Int.lt_of_le_of_lt (Int.mul_le_mul_of_nonneg_right (Int.le_of_lt ha) b0) (Int.mul_lt_mul_of_pos_left hb hM)
theorem muldiv_calls {a b d : Int} (ua : U256 a) (ub : U256 b) (ud : U256 d) (hd : 0 < d) (hq : a * b / d < 115792089237316195423570985008687907853269984665640564039457584007913129639936) (w : World) :
    Calls Try.prog 19 #[.agg #[.int .u64 (L0 a), .int .u64 (L1 a), .int .u64 (L2 a), .int .u64 (L3 a)], .agg #[.int .u64 (L0 b), .int .u64 (L1 b), .int .u64 (L2 b), .int .u64 (L3 b)], .agg #[.int .u64 (L0 d), .int .u64 (L1 d), .int .u64 (L2 d), .int .u64 (L3 d)]] w fun e w' => e = .returned (.tuple #[.agg #[.int .u64 (L0 (a * b / d)), .int .u64 (L1 (a * b / d)), .int .u64 (L2 (a * b / d)), .int .u64 (L3 (a * b / d))], .int .i64 0]) ∧ Below w.heap.size w w' := by
  have h0 : 0 ≤ a * b := Int.mul_nonneg ua.1 ub.1
  have h1 : a * b < 115792089237316195423570985008687907853269984665640564039457584007913129639936 * 115792089237316195423570985008687907853269984665640564039457584007913129639936 := mul_lt_sq ua.1 ua.2 ub.1 ub.2 (by decide)
  have q0 : 0 ≤ a * b / d := Int.ediv_nonneg h0 (by omega)
  refine muldiv_fits (q := a * b / d) (r := a * b % d) ua ub w (Lib.hid fun w => divide_all (a * b) d w h0 ?_ ud hd) ?_
  · generalize a * b = n at *
    unfold hi
    omega
  · generalize a * b / d = q at *
    have e4 : L4 q = 0 := by unfold L4 lo hi; omega
    have e5 : L5 q = 0 := by unfold L5 lo hi; omega
    have e6 : L6 q = 0 := by unfold L6 lo hi; omega
    have e7 : L7 q = 0 := by unfold L7 lo hi; omega
    rw [e4, e5, e6, e7]
    decide
end Go.Proofs.Ytgjdegahofoalaa.Wide
