/- audit.sum: of numbers whose sum has 256 bits. -/
import Derived.Test.YtgjdegahofoalaaHuge
import Derived.Test.YtgjdegahofoalaaBlk
import Derived.Test.YtgjdegahofoalaaWideA
import Derived.Deep.DeepCutAuto
import Derived.Deep.CutBlock
set_option linter.unusedVariables false
set_option linter.unusedSimpArgs false
namespace Go.Proofs.Ytgjdegahofoalaa.Audit
open Go.RowKit Go.Proofs.Ytgjdegahofoalaa.Huge
structure Aside0 (p : Prop) : Prop where mk :: (out : p)
theorem step_copy4 {P : Program} {ops : Array Oper} {o : Oper} {a : Act} {w : World} {K : Act → World → Prop} {Q : Exit → Act → World → Prop} {E : Prop} (hgd : o.guard = none) (d s : Operand) (dT sT : TypeId)
    (ho : o.op = .call { callee := .builtin .copy, args := #[d, s], argTypes := #[dT, sT] }) (elem : TypeId) (hu : P.underlying dT = some (.slice elem)) (hsz : (P.info? elem).map (·.size) = some 1)
    (b dLen dCap sb sLen sCap : Nat) (hd : a.eval d = .slice (some ⟨b, 0, none⟩) dLen dCap) (hs : a.eval s = .slice (some ⟨sb, 0, none⟩) sLen sCap) (v0 v1 v2 v3 : Int) (hn : 4 = Nat.min sLen dLen)
    (s0 : w.cell? ⟨sb, 0 + 0, none⟩ = some (.int .u64 v0)) (d0 : (w.cell? ⟨b, 0 + 0, none⟩).isSome = true) (f0 : w.frozen? ⟨b, 0 + 0, none⟩ = false)
    (s1 : w.cell? ⟨sb, 0 + 1, none⟩ = some (.int .u64 v1)) (d1 : (w.cell? ⟨b, 0 + 1, none⟩).isSome = true) (f1 : w.frozen? ⟨b, 0 + 1, none⟩ = false)
    (s2 : w.cell? ⟨sb, 0 + 2, none⟩ = some (.int .u64 v2)) (d2 : (w.cell? ⟨b, 0 + 2, none⟩).isSome = true) (f2 : w.frozen? ⟨b, 0 + 2, none⟩ = false)
    (s3 : w.cell? ⟨sb, 0 + 3, none⟩ = some (.int .u64 v3)) (d3 : (w.cell? ⟨b, 0 + 3, none⟩).isSome = true) (f3 : w.frozen? ⟨b, 0 + 3, none⟩ = false)
    (h : K (a.put o.dst (goInt 4)) (w.setCells b 0 [.int .u64 v0, .int .u64 v1, .int .u64 v2, .int .u64 v3])) :
    if Region.wanted o (yielded ops a.tmps) = true then Oper.wp P o a w K Q else E := by
  refine step_copy_cells hgd d s dT sT ho elem hu hsz b 0 dLen dCap sb 0 sLen sCap hd hs [.int .u64 v0, .int .u64 v1, .int .u64 v2, .int .u64 v3] hn ?_ ?_ ?_ (by simp [Value.oneCell']) h
  · intro j hj
    match j, hj with
    | 0, _ => exact s0
    | 1, _ => exact s1
    | 2, _ => exact s2
    | 3, _ => exact s3
  · intro j hj
    have hj' : j < 4 := hj
    match j, hj' with
    | 0, _ => exact d0
    | 1, _ => exact d1
    | 2, _ => exact d2
    | 3, _ => exact d3
  · intro j hj
    have hj' : j < 4 := hj
    match j, hj' with
    | 0, _ => exact f0
    | 1, _ => exact f1
    | 2, _ => exact f2
    | 3, _ => exact f3
set_option maxHeartbeats 16000000 in
set_option maxRecDepth 100000 in
theorem sum_to (N S : Nat → Int) (m cap : Nat) (b : Nat) (w : World) (hb : b < w.heap.size) (hm : m ≤ 1000) (hS0 : S 0 = 0)
    (hA : Hid (∀ i, i < m → ∀ w : World, Calls Try.prog 8 #[A4 (S i), A4 (N i)] w fun e w' => e = .returned (.tuple #[A4 (S (i + 1)), .int .i64 0]) ∧ Below w.heap.size w w'))
    (hc : Hid (∀ i, i < m → w.cell? ⟨b, i * 4, none⟩ = some (.int .u64 (L0 (N i))) ∧ w.cell? ⟨b, i * 4 + 1, none⟩ = some (.int .u64 (L1 (N i))) ∧ w.cell? ⟨b, i * 4 + 2, none⟩ = some (.int .u64 (L2 (N i))) ∧ w.cell? ⟨b, i * 4 + 3, none⟩ = some (.int .u64 (L3 (N i))))) :
    Calls Try.prog 29 #[.slice (some ⟨b, 0, none⟩) m cap] w fun e w' => e = .returned (.agg #[.int .u64 (L0 (S m)), .int .u64 (L1 (S m)), .int .u64 (L2 (S m)), .int .u64 (L3 (S m)), .int .u64 0, .int .u64 0, .int .u64 0, .int .u64 0]) ∧ Below w.heap.size w w' := by
  have ha8 : ∀ (a : Addr) (w : World), (Instr.arrayAt 24 (.slice (some a) 4 8)).run Try.prog w = .ok (.pointer (some a)) w := fun _ _ => by kernel_rfl
  go_enter Try.func29, Try.ntmps29
  go_wp2_with fail
  go_loopw [13] (fun v13 w' => ∃ i : Nat, i ≤ m ∧ v13 = .int .i64 (i : Int) ∧ Aside0 (BlkAt w' (w.heap.size + 1) #[.int .u64 (L0 (S i)), .int .u64 (L1 (S i)), .int .u64 (L2 (S i)), .int .u64 (L3 (S i)), .int .u64 0, .int .u64 0, .int .u64 0, .int .u64 0] 63) ∧ Aside0 (BlkAt w' w.heap.size #[.int .u64 0, .int .u64 0, .int .u64 0, .int .u64 0, .int .u64 0, .int .u64 0, .int .u64 0, .int .u64 0] 63) ∧ Aside0 (Below w.heap.size w w')) (fun v13 _ => m - (intOf v13).toNat)
  case atStart =>
    refine ⟨0, Nat.zero_le _, rfl, ⟨?_⟩, ⟨blk_past (by simp) (blk_new rfl)⟩, ⟨below_al (below_al (Below.refl _ _))⟩⟩
    rw [hS0]
    exact blk_new (by simp)
  case round =>
    obtain ⟨i, hi, rfl, HK, HR, HB⟩ := hrel
    obtain ⟨k0, k1, k2, k3, k4, k5, k6, k7, m0, m1, m2, m3, m4, m5, m6, m7⟩ := blk_facts8 HK.out
    have lK := blk_lt HK.out
    have lR := blk_lt HR.out
    by_cases hlt : i < m
    · obtain ⟨hclr, hfzr⟩ := bcell HB.out
      have hbr : b < wr.heap.size := by have := HB.out.size; omega
      obtain ⟨h0, h1, h2, h3⟩ := hc.out i hlt
      have g0 := (hclr b _ hb).trans h0
      have g1 := (hclr b _ hb).trans h1
      have g2 := (hclr b _ hb).trans h2
      have g3 := (hclr b _ hb).trans h3
      have hAi := Lib.hid (hA.out i hlt)
      clear h0 h1 h2 h3 hclr hfzr
      have hlt' : (i : Int) < (m : Int) := by omega
      go_upto_region 5 with (fail)
      go_cut [6, 7] (fun v6 v7 wc => ∃ p6 : Nat, v6 = .pointer (some ⟨p6, 0, none⟩) ∧ v7 = .int .i64 0 ∧ BlkAt wc p6 #[.int .u64 (L0 (S (i + 1))), .int .u64 (L1 (S (i + 1))), .int .u64 (L2 (S (i + 1))), .int .u64 (L3 (S (i + 1)))] 24 ∧ BlkAt wc (w.heap.size + 1) #[.int .u64 (L0 (S i)), .int .u64 (L1 (S i)), .int .u64 (L2 (S i)), .int .u64 (L3 (S i)), .int .u64 0, .int .u64 0, .int .u64 0, .int .u64 0] 63 ∧ BlkAt wc w.heap.size #[.int .u64 0, .int .u64 0, .int .u64 0, .int .u64 0, .int .u64 0, .int .u64 0, .int .u64 0, .int .u64 0] 63 ∧ Below w.heap.size w wc ∧ (w.heap.size + 1) < p6)
      case first =>
        go_region_held3 (fun w' => w'.cell? ⟨(w.heap.size + 1), 0, none⟩ = some (.int .u64 (L0 (S i))) ∧ w'.cell? ⟨(w.heap.size + 1), 1, none⟩ = some (.int .u64 (L1 (S i))) ∧ w'.cell? ⟨(w.heap.size + 1), 2, none⟩ = some (.int .u64 (L2 (S i))) ∧ w'.cell? ⟨(w.heap.size + 1), 3, none⟩ = some (.int .u64 (L3 (S i))) ∧ w'.cell? ⟨wr.heap.size, 0, none⟩ = some (.int .u64 (L0 (N i))) ∧ w'.cell? ⟨wr.heap.size, 1, none⟩ = some (.int .u64 (L1 (N i))) ∧ w'.cell? ⟨wr.heap.size, 2, none⟩ = some (.int .u64 (L2 (N i))) ∧ w'.cell? ⟨wr.heap.size, 3, none⟩ = some (.int .u64 (L3 (N i)))) ((refine ⟨?_, ?_, ?_, ?_, ?_, ?_, ?_, ?_⟩; all_goals go_simp))
          (first | (go_at_call 8; ((with_reducible refine (hAi.out _).mono ?_); rintro e w1 ⟨rfl, hb1⟩; obtain ⟨hcl1, hfz1⟩ := bcell hb1; have hz1 := hb1.size; (try simp [go_sem] at hz1); (try have l0_0 : w.heap.size < w1.heap.size := by omega); (try have l0_1 : w.heap.size < w1.heap.size + 1 := by omega); (try have l0_2 : w.heap.size < w1.heap.size + 1 + 1 := by omega); (try have l1_0 : w.heap.size + 1 < w1.heap.size := by omega); (try have l1_1 : w.heap.size + 1 < w1.heap.size + 1 := by omega); (try have l1_2 : w.heap.size + 1 < w1.heap.size + 1 + 1 := by omega); (try have l2_0 : b < w1.heap.size := by omega); (try have l2_1 : b < w1.heap.size + 1 := by omega); (try have l2_2 : b < w1.heap.size + 1 + 1 := by omega); (try have l3_0 : wr.heap.size < w1.heap.size := by omega); (try have l3_1 : wr.heap.size < w1.heap.size + 1 := by omega); (try have l3_2 : wr.heap.size < w1.heap.size + 1 + 1 := by omega))))
        all_goals go_wp2_with fail
        all_goals go_meet
        all_goals clear hcl1 hfz1
        all_goals (have HK1 := HK.out; have HR1 := HR.out)
        all_goals (case rel => refine ⟨_, rfl, rfl, ?_, ?_, ?_, (by have HB1 := HB.out; repeat (first | with_reducible exact Below.refl _ _ | (with_reducible assumption) | with_reducible apply bdrewN | with_reducible apply below_drew1 | with_reducible apply below_al | ((with_reducible refine below_set ?_ ?_); focus (first | omega | (simp [go_sem]; done) | (simp [go_sem]; omega))) | with_reducible refine below_then ?_ hb1 | with_reducible refine below_then ?_ HB1)), (by first | omega | (simp [go_sem]; omega))⟩ <;> repeat (first | (with_reducible assumption) | ((with_reducible refine blk_new ?_); first | omega | (simp [go_sem]; done) | (simp [go_sem]; omega)) | with_reducible apply blk_put8 | with_reducible apply blk_put4 | with_reducible apply blk_put8_0 | with_reducible apply blk_put8_1 | with_reducible apply blk_put8_2 | with_reducible apply blk_put8_3 | with_reducible apply blk_put8_4 | with_reducible apply blk_put8_5 | with_reducible apply blk_put8_6 | with_reducible apply blk_put8_7 | with_reducible apply blk_put4_0 | with_reducible apply blk_put4_1 | with_reducible apply blk_put4_2 | with_reducible apply blk_put4_3 | ((with_reducible refine blk_far ?_ ?_); focus (first | omega | (simp [go_sem]; done) | (simp [go_sem]; omega))) | ((with_reducible refine blk_past ?_ ?_); focus (first | omega | (simp [go_sem]; done) | (simp [go_sem]; omega))) | with_reducible apply blk_drew | with_reducible apply blk_drewN | ((with_reducible refine blk_below hb1 ?_ ?_); focus (first | omega | (simp [go_sem]; done) | (simp [go_sem]; omega)))))
      case rest =>
        clear k0 k1 k2 k3 k4 k5 k6 k7 m0 m1 m2 m3 m4 m5 m6 m7 g0 g1 g2 g3
        obtain ⟨p6, rfl, rfl, b6, b3, b2, hbw, hp6⟩ := hcut
        obtain ⟨q0, q1, q2, q3, n0, n1, n2, n3⟩ := blk_facts4 b6
        obtain ⟨k0, k1, k2, k3, k4, k5, k6, k7, m0, m1, m2, m3, m4, m5, m6, m7⟩ := blk_facts8 b3
        have hne : ¬ w.heap.size + 1 = p6 := by omega
        have hne' : ¬ p6 = w.heap.size + 1 := by omega
        go_wp2_with fail
        go_region_law ((refine step_copy4 rfl _ _ _ _ rfl 22 Try.underlying75 (by kernel_rfl) (w.heap.size + 1) 8 8 p6 4 4 rfl rfl (L0 (S (i + 1))) (L1 (S (i + 1))) (L2 (S (i + 1))) (L3 (S (i + 1))) rfl (by go_simp) (by go_simp) (by go_simp) (by go_simp) (by go_simp) (by go_simp) (by go_simp) (by go_simp) (by go_simp) (by go_simp) (by go_simp) (by go_simp) ?_))
        go_wp2_with fail
        go_roundw
        case measure => simp [intOf]; omega
        case rel =>
          refine ⟨i + 1, by omega, by go_num, ⟨?_⟩, ⟨?_⟩, ⟨?_⟩⟩
          · repeat (first | (with_reducible assumption) | ((with_reducible refine blk_new ?_); first | omega | (simp [go_sem]; done) | (simp [go_sem]; omega)) | with_reducible apply blk_put8 | with_reducible apply blk_put4 | with_reducible apply blk_put8_0 | with_reducible apply blk_put8_1 | with_reducible apply blk_put8_2 | with_reducible apply blk_put8_3 | with_reducible apply blk_put8_4 | with_reducible apply blk_put8_5 | with_reducible apply blk_put8_6 | with_reducible apply blk_put8_7 | with_reducible apply blk_put4_0 | with_reducible apply blk_put4_1 | with_reducible apply blk_put4_2 | with_reducible apply blk_put4_3 | ((with_reducible refine blk_far ?_ ?_); focus (first | omega | (simp [go_sem]; done) | (simp [go_sem]; omega))) | ((with_reducible refine blk_past ?_ ?_); focus (first | omega | (simp [go_sem]; done) | (simp [go_sem]; omega))) | with_reducible apply blk_drew | with_reducible apply blk_drewN | ((with_reducible refine blk_below hb1 ?_ ?_); focus (first | omega | (simp [go_sem]; done) | (simp [go_sem]; omega))))
          · repeat (first | (with_reducible assumption) | ((with_reducible refine blk_new ?_); first | omega | (simp [go_sem]; done) | (simp [go_sem]; omega)) | with_reducible apply blk_put8 | with_reducible apply blk_put4 | with_reducible apply blk_put8_0 | with_reducible apply blk_put8_1 | with_reducible apply blk_put8_2 | with_reducible apply blk_put8_3 | with_reducible apply blk_put8_4 | with_reducible apply blk_put8_5 | with_reducible apply blk_put8_6 | with_reducible apply blk_put8_7 | with_reducible apply blk_put4_0 | with_reducible apply blk_put4_1 | with_reducible apply blk_put4_2 | with_reducible apply blk_put4_3 | ((with_reducible refine blk_far ?_ ?_); focus (first | omega | (simp [go_sem]; done) | (simp [go_sem]; omega))) | ((with_reducible refine blk_past ?_ ?_); focus (first | omega | (simp [go_sem]; done) | (simp [go_sem]; omega))) | with_reducible apply blk_drew | with_reducible apply blk_drewN | ((with_reducible refine blk_below hb1 ?_ ?_); focus (first | omega | (simp [go_sem]; done) | (simp [go_sem]; omega))))
          · repeat (first | with_reducible exact Below.refl _ _ | (with_reducible assumption) | with_reducible apply bdrewN | with_reducible apply below_drew1 | with_reducible apply below_al | ((with_reducible refine below_set ?_ ?_); focus (first | omega | (simp [go_sem]; done) | (simp [go_sem]; omega))) | with_reducible refine below_then ?_ HB1)
    · obtain rfl : i = m := by omega
      obtain ⟨z0, z1, z2, z3, z4, z5, z6, z7, y0, y1, y2, y3, y4, y5, y6, y7⟩ := blk_facts8 HR.out
      go_wp2_with fail
      refine bodyPost_ret (v := .agg #[.int .u64 (L0 (S i)), .int .u64 (L1 (S i)), .int .u64 (L2 (S i)), .int .u64 (L3 (S i)), .int .u64 0, .int .u64 0, .int .u64 0, .int .u64 0]) (by simp [results, Try.results29, go_sem, *]) rfl ⟨rfl, ?_⟩
      have HB1 := HB.out
      repeat (first | with_reducible exact Below.refl _ _ | (with_reducible assumption) | with_reducible apply bdrewN | with_reducible apply below_drew1 | with_reducible apply below_al | ((with_reducible refine below_set ?_ ?_); focus (first | omega | (simp [go_sem]; done) | (simp [go_sem]; omega))) | with_reducible refine below_then ?_ HB1)
end Go.Proofs.Ytgjdegahofoalaa.Audit
