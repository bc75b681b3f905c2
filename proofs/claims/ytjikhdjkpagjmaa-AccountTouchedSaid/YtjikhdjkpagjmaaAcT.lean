/- huge.Sum of one number; account.Totals of one line that gives and one that takes; account.Balance of two events. -/
import Derived.Test.YtjikhdjkpagjmaaAcL
import Derived.Test.YtjikhdjkpagjmaaHugeB
set_option linter.unusedVariables false
set_option linter.unusedSimpArgs false
namespace Go.Proofs.Ytjikhdjkpagjmaa.Ac
open Go.RowKit Go.Proofs.YtjikhdjkpagjmaaW.PrintWords
theorem A4_small {a : Int} (h0 : 0 ≤ a) (h1 : a < 18446744073709551616) : Huge.A4 a = .agg #[.int .u64 a, .int .u64 0, .int .u64 0, .int .u64 0] := by
  have l0 : L0 a = a := by unfold L0 lo; omega
  have l1 : L1 a = 0 := by unfold L1 lo hi; omega
  have l2 : L2 a = 0 := by unfold L2 lo hi; omega
  have l3 : L3 a = 0 := by unfold L3 lo hi; omega
  unfold Huge.A4
  rw [l0, l1, l2, l3]
theorem add_small {a : Int} (h0 : 0 ≤ a) (h1 : a < 18446744073709551616) (w : World) : Calls Try.prog 30 #[.agg #[.int .u64 0, .int .u64 0, .int .u64 0, .int .u64 0], .agg #[.int .u64 a, .int .u64 0, .int .u64 0, .int .u64 0]] w fun e w' => e = .returned (.tuple #[.agg #[.int .u64 a, .int .u64 0, .int .u64 0, .int .u64 0], .int .i64 0]) ∧ Below w.heap.size w w' := by
  have h := Huge.add_calls (x := 0) (y := a) ⟨by omega, by omega⟩ ⟨h0, by omega⟩ w
  have e1 : Huge.addN 0 a = a := by unfold Huge.addN; rw [if_pos (by omega)]; omega
  have e2 : Huge.addE 0 a = 0 := by unfold Huge.addE; rw [if_pos (by omega)]
  rw [e1, e2, A4_small (a := 0) (by omega) (by omega), A4_small h0 h1] at h
  exact h
theorem sub_53 (w : World) : Calls Try.prog 12 #[.agg #[.int .u64 5, .int .u64 0, .int .u64 0, .int .u64 0], .agg #[.int .u64 2, .int .u64 0, .int .u64 0, .int .u64 0]] w fun e w' => e = .returned (.tuple #[.agg #[.int .u64 3, .int .u64 0, .int .u64 0, .int .u64 0], .int .i64 0]) ∧ Below w.heap.size w w' := by
  have h := Huge.sub_calls (x := 5) (y := 2) ⟨by omega, by omega⟩ ⟨by omega, by omega⟩ w
  have e1 : Huge.subN 5 2 = 3 := by decide
  have e2 : Huge.subE 5 2 = 0 := by decide
  rw [e1, e2, A4_small (a := 5) (by omega) (by omega), A4_small (a := 2) (by omega) (by omega), A4_small (a := 3) (by omega) (by omega)] at h
  exact h
theorem rounds_cut {P : Program} {c : Code} {Q : Exit → Act → World → Prop} {n : Nat} {a : Act} {w : World} (S : World → Prop) (h : S w) (k : ∀ W, S W → Code.rounds P c Q n a W) : Code.rounds P c Q n a w := k w h
set_option maxHeartbeats 8000000 in
set_option maxRecDepth 100000 in
theorem sum_one {a : Int} (h0 : 0 ≤ a) (h1 : a < 18446744073709551616) (b c : Nat) (w : World) (hb : b < w.heap.size) (c0 : w.cell? ⟨b, 0, none⟩ = some (.int .u64 a)) (c1 : w.cell? ⟨b, 1, none⟩ = some (.int .u64 0)) (c2 : w.cell? ⟨b, 2, none⟩ = some (.int .u64 0)) (c3 : w.cell? ⟨b, 3, none⟩ = some (.int .u64 0)) :
    Calls Try.prog 16 #[.slice (some ⟨b, 0, none⟩) 1 c] w fun e w' => e = .returned (.tuple #[.agg #[.int .u64 a, .int .u64 0, .int .u64 0, .int .u64 0], .int .i64 0]) ∧ Below w.heap.size w w' := by
  have hc : Hid (∀ w, Calls Try.prog 30 #[.agg #[.int .u64 0, .int .u64 0, .int .u64 0, .int .u64 0], .agg #[.int .u64 a, .int .u64 0, .int .u64 0, .int .u64 0]] w fun e w' => e = .returned (.tuple #[.agg #[.int .u64 a, .int .u64 0, .int .u64 0, .int .u64 0], .int .i64 0]) ∧ Below w.heap.size w w') := Lib.hid (fun w => add_small h0 h1 w)
  have n0 : ¬ (b = w.heap.size) := by omega
  have n1 : ¬ (b = w.heap.size + 1) := by omega
  have n2 : ¬ (b = w.heap.size + 2) := by omega
  clear h0 h1
  go_enter Try.func16, Try.ntmps16
  go_wp2_with fail
  refine wp_loop_rounds 2 ?_
  rw [rounds_succ]
  go_wp2_with (first | (go_at_call 30; refine (hc.out _).mono ?_; rintro e w1 ⟨rfl, hb1⟩; obtain ⟨hcl1, hfz1⟩ := bcell hb1; have hbw1 := below_then (w := w) (by repeat (first | with_reducible exact Below.refl _ _ | (with_reducible assumption) | with_reducible apply bdrewN | with_reducible apply below_drew1 | with_reducible apply below_al | ((with_reducible refine below_set ?_ ?_); focus (first | omega | (simp; done) | (simp; omega))))) hb1; have hz1 := hb1.size; (try simp [go_sem] at hz1); (try have l1_0 : w.heap.size < w1.heap.size := by omega); (try have l1_1 : w.heap.size + 1 < w1.heap.size := by omega); (try have l1_2 : w.heap.size + 2 < w1.heap.size := by omega)))
  refine rounds_cut (fun W => BlkAt W (w.heap.size + 1) #[.int .u64 a, .int .u64 0, .int .u64 0, .int .u64 0] 32 ∧ BlkAt W w.heap.size #[.int .u64 0, .int .u64 0, .int .u64 0, .int .u64 0] 32 ∧ Below w.heap.size w W) ⟨?p1, ?p2, ?p3⟩ ?_
  case p1 => repeat (first | (with_reducible assumption) | ((with_reducible refine blk_new ?_); first | omega | (simp [go_sem]; done) | (simp [go_sem]; omega)) | with_reducible apply blk_put8 | with_reducible apply blk_put4 | with_reducible apply blk_put8_0 | with_reducible apply blk_put8_1 | with_reducible apply blk_put8_2 | with_reducible apply blk_put8_3 | with_reducible apply blk_put8_4 | with_reducible apply blk_put8_5 | with_reducible apply blk_put8_6 | with_reducible apply blk_put8_7 | with_reducible apply blk_put4_0 | with_reducible apply blk_put4_1 | with_reducible apply blk_put4_2 | with_reducible apply blk_put4_3 | ((with_reducible refine blk_far ?_ ?_); focus (first | omega | (simp [go_sem]; done) | (simp [go_sem]; omega))) | ((with_reducible refine blk_past ?_ ?_); focus (first | omega | (simp [go_sem]; done) | (simp [go_sem]; omega))) | with_reducible apply blk_drew | with_reducible apply blk_drewN | ((with_reducible refine blk_below hb1 ?_ ?_); focus (first | omega | (simp [go_sem]; done) | (simp [go_sem]; omega))))
  case p2 => repeat (first | (with_reducible assumption) | ((with_reducible refine blk_new ?_); first | omega | (simp [go_sem]; done) | (simp [go_sem]; omega)) | with_reducible apply blk_put8 | with_reducible apply blk_put4 | with_reducible apply blk_put8_0 | with_reducible apply blk_put8_1 | with_reducible apply blk_put8_2 | with_reducible apply blk_put8_3 | with_reducible apply blk_put8_4 | with_reducible apply blk_put8_5 | with_reducible apply blk_put8_6 | with_reducible apply blk_put8_7 | with_reducible apply blk_put4_0 | with_reducible apply blk_put4_1 | with_reducible apply blk_put4_2 | with_reducible apply blk_put4_3 | ((with_reducible refine blk_far ?_ ?_); focus (first | omega | (simp [go_sem]; done) | (simp [go_sem]; omega))) | ((with_reducible refine blk_past ?_ ?_); focus (first | omega | (simp [go_sem]; done) | (simp [go_sem]; omega))) | with_reducible apply blk_drew | with_reducible apply blk_drewN | ((with_reducible refine blk_below hb1 ?_ ?_); focus (first | omega | (simp [go_sem]; done) | (simp [go_sem]; omega))))
  case p3 => repeat (first | with_reducible exact Below.refl _ _ | (with_reducible assumption) | with_reducible apply bdrewN | with_reducible apply below_drew1 | with_reducible apply below_al | ((with_reducible refine below_set ?_ ?_); focus (first | omega | (simp [go_sem]; done) | (simp [go_sem]; omega))) | with_reducible refine below_then ?_ hb1)
  clear hb1 hcl1 hfz1 hz1 l1_0 l1_1 l1_2
  rintro W ⟨hA, hB, hbW⟩
  have sA := blk_lt hA
  have sB := blk_lt hB
  obtain ⟨a0_, a1_, a2_, a3_, _, _, _, _⟩ := blk_facts4 hA
  obtain ⟨b0_, b1_, b2_, b3_, f0_, f1_, f2_, f3_⟩ := blk_facts4 hB
  clear hA hB
  rw [rounds_succ]
  go_wp2_with fail
  refine bodyPost_ret (v := .tuple #[.agg #[.int .u64 a, .int .u64 0, .int .u64 0, .int .u64 0], .int .i64 0]) (by simp [results, Try.results16, go_sem, b0_, b1_, b2_, b3_]) rfl ⟨rfl, ?_⟩
  repeat (first | with_reducible exact Below.refl _ _ | (with_reducible assumption) | with_reducible apply bdrewN | with_reducible apply below_drew1 | with_reducible apply below_al | ((with_reducible refine below_set ?_ ?_); focus (first | omega | (simp [go_sem]; done) | (simp [go_sem]; omega))) | with_reducible refine below_then ?_ hb1)
theorem own_one {w : World} {base : Nat} {e : TypeId} {v : Value} {x0 x1 x2 x3 : Value} (h : w.ownsRow base e 4 v 1 [x0, x1, x2, x3]) :
    ∃ g cap, v = .slice (some ⟨g, 0, none⟩) 1 cap ∧ base ≤ g ∧ g < w.heap.size ∧ w.cell? ⟨g, 0, none⟩ = some x0 ∧ w.cell? ⟨g, 1, none⟩ = some x1 ∧ w.cell? ⟨g, 2, none⟩ = some x2 ∧ w.cell? ⟨g, 3, none⟩ = some x3 := by
  rcases h.2 with ⟨_, h1⟩ | ⟨g, cap, cur, rfl, hb, hg, _, _, _, ht⟩
  · exact absurd h1 (by decide)
  · have hl := h.lt g rfl
    have hc : ∀ j u, [x0, x1, x2, x3][j]? = some u → w.cell? ⟨g, j, none⟩ = some u := fun j u hu => by
      have := h.cells (g := g) rfl j u hu
      rwa [show (⟨g, 0, none⟩ : Addr).add j = ⟨g, j, none⟩ by unfold Addr.add; split <;> simp_all] at this
    exact ⟨g, cap, rfl, hb, hl.2, hc 0 _ rfl, hc 1 _ rfl, hc 2 _ rfl, hc 3 _ rfl⟩
theorem wp_cut {P : Program} {c : Code} {Q : Exit → Act → World → Prop} {a : Act} {w : World} (S : World → Prop) (h : S w) (k : ∀ W, S W → Code.wp P c Q a W) : Code.wp P c Q a w := k w h
theorem post_cut {P : Program} {f : Func} {R : Ending → World → Prop} {x : Exit} {a : Act} {w : World} (S : World → Prop) (h : S w) (k : ∀ W, S W → bodyPost P f R x a W) : bodyPost P f R x a w := k w h
theorem cell_far4 {w : World} {b g j : Nat} {v0 v1 v2 v3 : Value} (h : ¬ b = g) : ((((w.setCell ⟨b, 0, none⟩ v0).setCell ⟨b, 1, none⟩ v1).setCell ⟨b, 2, none⟩ v2).setCell ⟨b, 3, none⟩ v3).cell? ⟨g, j, none⟩ = w.cell? ⟨g, j, none⟩ := by
  have n : ∀ i, (⟨b, i, none⟩ : Addr) ≠ ⟨g, j, none⟩ := fun i e => h (by simpa using congrArg Addr.block e)
  rw [World.cell?_setCell_other _ _ _ _ (n 3), World.cell?_setCell_other _ _ _ _ (n 2), World.cell?_setCell_other _ _ _ _ (n 1), World.cell?_setCell_other _ _ _ _ (n 0)]
set_option maxHeartbeats 8000000 in
set_option maxRecDepth 100000 in
theorem totals_two (k0 k1 : Int) (b c : Nat) (w : World) (hb : b < w.heap.size) (hcells : ∀ j u, (ln 0 k0 true (fun i => if i = 0 then 5 else 0) ++ ln 1 k1 false (fun i => if i = 0 then 2 else 0))[j]? = some u → w.cell? ⟨b, j, none⟩ = some u) :
    Calls Try.prog 11 #[.slice (some ⟨b, 0, none⟩) 2 c] w fun e w' => e = .returned (.tuple #[.agg #[.int .u64 5, .int .u64 0, .int .u64 0, .int .u64 0], .agg #[.int .u64 2, .int .u64 0, .int .u64 0, .int .u64 0], .int .i64 0]) ∧ Below w.heap.size w w' := by
  have hi4 : (Try.prog.info? 32).map (fun i => (i.zero, i.size, i.bytes)) = some (some (.agg #[.int .u64 0, .int .u64 0, .int .u64 0, .int .u64 0]), 4, 32) := by kernel_rfl
  have hi7 : Hid ((Try.prog.info? 46).map (·.size) = some 7) := Lib.hid (by kernel_rfl)
  have d0 := hcells 0 _ rfl
  have d1 := hcells 1 _ rfl
  have d2 := hcells 2 _ rfl
  have d3 := hcells 3 _ rfl
  have d4 := hcells 4 _ rfl
  have d5 := hcells 5 _ rfl
  have d6 := hcells 6 _ rfl
  have d7 := hcells 7 _ rfl
  have d8 := hcells 8 _ rfl
  have d9 := hcells 9 _ rfl
  have d10 := hcells 10 _ rfl
  have d11 := hcells 11 _ rfl
  have d12 := hcells 12 _ rfl
  have d13 := hcells 13 _ rfl
  clear hcells
  simp at d3 d4 d5 d6 d10 d11 d12 d13
  have n0 : ¬ (b = w.heap.size) := by omega
  have n1 : ¬ (b = w.heap.size + 1) := by omega
  have n2 : ¬ (b = w.heap.size + 2) := by omega
  go_enter Try.func11, Try.ntmps11
  go_wp2_with fail
  refine wp_loop_rounds 3 ?_
  rw [rounds_succ]
  go_wp2_with (first | ((with_reducible refine gate_store (t := 46) (p := 8) (v := .tmp 15) rfl ?_); refine store_new rfl 46 (.tmp 8) (.tmp 15) rfl #[.int .i64 0, .int .u8 k0, .bool true, .int .u64 5, .int .u64 0, .int .u64 0, .int .u64 0] rfl rfl 46 _ hi7.out rfl rfl ?_) | ((with_reducible refine gate_dst (N := 22) rfl ?_); at_builtin; go_loud (refine print_append_cells (w0 := _) _ rfl (.tmp 18) (.tmp 21) 55 32 (.agg #[.int .u64 0, .int .u64 0, .int .u64 0, .int .u64 0]) 4 32 rfl Try.underlying55 hi4 rfl (by decide) (by decide) _ 0 [] [.int .u64 5, .int .u64 0, .int .u64 0, .int .u64 0] rfl (by first | rfl | simp [Act.eval, World.size_alloc]) rfl ?a1 (World.ownsRow_nil _ _ _ _) (Below.refl _ _) (Nat.le_refl _) (by decide) ?_; (case a1 => intro u hu; simp at hu; rcases hu with rfl | rfl <;> rfl); intro v2 w2 hown2 hb2 hg2 hat2; obtain ⟨g2, cap2, rfl, hga2, hgl2, e20, e21, e22, e23⟩ := own_one hown2; clear hown2 hg2 hat2; obtain ⟨hcl2, hfz2⟩ := bcell hb2; have hz2 := hb2.size; (try simp [go_sem] at hz2 hga2))))
  refine rounds_cut (fun W => BlkAt W w.heap.size #[.int .u64 0, .int .u64 0, .int .u64 0, .int .u64 0] 32 ∧ BlkAt W (w.heap.size + 1) #[.int .u64 0, .int .u64 0, .int .u64 0, .int .u64 0] 32 ∧ w.heap.size + 1 < g2 ∧ g2 < W.heap.size ∧ (W.cell? ⟨g2, 0, none⟩ = some (.int .u64 5) ∧ W.cell? ⟨g2, 1, none⟩ = some (.int .u64 0) ∧ W.cell? ⟨g2, 2, none⟩ = some (.int .u64 0) ∧ W.cell? ⟨g2, 3, none⟩ = some (.int .u64 0)) ∧ Below w.heap.size w W) ⟨?p1, ?p2, ?p3, ?p4, ?p5, ?p6⟩ ?_
  case p1 => repeat (first | (with_reducible assumption) | ((with_reducible refine blk_new ?_); first | omega | (simp [go_sem]; done) | (simp [go_sem]; omega)) | with_reducible apply blk_put8 | with_reducible apply blk_put4 | with_reducible apply blk_put8_0 | with_reducible apply blk_put8_1 | with_reducible apply blk_put8_2 | with_reducible apply blk_put8_3 | with_reducible apply blk_put8_4 | with_reducible apply blk_put8_5 | with_reducible apply blk_put8_6 | with_reducible apply blk_put8_7 | with_reducible apply blk_put4_0 | with_reducible apply blk_put4_1 | with_reducible apply blk_put4_2 | with_reducible apply blk_put4_3 | ((with_reducible refine blk_far ?_ ?_); focus (first | omega | (simp [go_sem]; done) | (simp [go_sem]; omega))) | ((with_reducible refine blk_past ?_ ?_); focus (first | omega | (simp [go_sem]; done) | (simp [go_sem]; omega))) | with_reducible apply blk_drew | with_reducible apply blk_drewN | ((with_reducible refine blk_below hb2 ?_ ?_); focus (first | omega | (simp [go_sem]; done) | (simp [go_sem]; omega))))
  case p2 => repeat (first | (with_reducible assumption) | ((with_reducible refine blk_new ?_); first | omega | (simp [go_sem]; done) | (simp [go_sem]; omega)) | with_reducible apply blk_put8 | with_reducible apply blk_put4 | with_reducible apply blk_put8_0 | with_reducible apply blk_put8_1 | with_reducible apply blk_put8_2 | with_reducible apply blk_put8_3 | with_reducible apply blk_put8_4 | with_reducible apply blk_put8_5 | with_reducible apply blk_put8_6 | with_reducible apply blk_put8_7 | with_reducible apply blk_put4_0 | with_reducible apply blk_put4_1 | with_reducible apply blk_put4_2 | with_reducible apply blk_put4_3 | ((with_reducible refine blk_far ?_ ?_); focus (first | omega | (simp [go_sem]; done) | (simp [go_sem]; omega))) | ((with_reducible refine blk_past ?_ ?_); focus (first | omega | (simp [go_sem]; done) | (simp [go_sem]; omega))) | with_reducible apply blk_drew | with_reducible apply blk_drewN | ((with_reducible refine blk_below hb2 ?_ ?_); focus (first | omega | (simp [go_sem]; done) | (simp [go_sem]; omega))))
  case p3 => omega
  case p4 => omega
  case p5 => exact ⟨e20, e21, e22, e23⟩
  case p6 => repeat (first | with_reducible exact Below.refl _ _ | (with_reducible assumption) | with_reducible apply bdrewN | with_reducible apply below_drew1 | with_reducible apply below_al | ((with_reducible refine below_set ?_ ?_); focus (first | omega | (simp [go_sem]; done) | (simp [go_sem]; omega))) | with_reducible refine below_then ?_ hb2)
  clear hb2 hcl2 hfz2 hz2 hga2 hgl2 e20 e21 e22 e23
  rintro W ⟨hA, hB, hg, hgW, ⟨s0, s1, s2, s3⟩, hbW⟩
  obtain ⟨hclW, hfzW⟩ := bcell hbW
  have HA := Lib.hid hA
  have HB := Lib.hid hB
  have HbW := Lib.hid hbW
  have sA := blk_lt hA
  have sB := blk_lt hB
  clear hA hB hbW
  have nb : b < W.heap.size := by have := HbW.out.size; omega
  rw [rounds_succ]
  go_wp2_with (first | ((with_reducible refine gate_store (t := 46) (p := 8) (v := .tmp 15) rfl ?_); refine store_new rfl 46 (.tmp 8) (.tmp 15) rfl #[.int .i64 1, .int .u8 k1, .bool false, .int .u64 2, .int .u64 0, .int .u64 0, .int .u64 0] rfl rfl 46 _ hi7.out rfl rfl ?_) | ((with_reducible refine gate_dst (N := 27) rfl ?_); at_builtin; go_loud (refine print_append_cells (w0 := _) _ rfl (.tmp 23) (.tmp 26) 55 32 (.agg #[.int .u64 0, .int .u64 0, .int .u64 0, .int .u64 0]) 4 32 rfl Try.underlying55 hi4 rfl (by decide) (by decide) _ 0 [] [.int .u64 2, .int .u64 0, .int .u64 0, .int .u64 0] rfl (by first | rfl | simp [Act.eval, World.size_alloc]) rfl ?a1 (World.ownsRow_nil _ _ _ _) (Below.refl _ _) (Nat.le_refl _) (by decide) ?_; (case a1 => intro u hu; simp at hu; rcases hu with rfl | rfl <;> rfl); intro v3 w3 hown3 hb3 hg3 hat3; obtain ⟨g3, cap3, rfl, hga3, hgl3, e30, e31, e32, e33⟩ := own_one hown3; clear hown3 hg3 hat3; obtain ⟨hcl3, hfz3⟩ := bcell hb3; have hz3 := hb3.size; (try simp [go_sem] at hz3 hga3))))
  refine rounds_cut (fun V => BlkAt V w.heap.size #[.int .u64 0, .int .u64 0, .int .u64 0, .int .u64 0] 32 ∧ BlkAt V (w.heap.size + 1) #[.int .u64 0, .int .u64 0, .int .u64 0, .int .u64 0] 32 ∧ W.heap.size ≤ g3 ∧ g3 < V.heap.size ∧ (V.cell? ⟨g3, 0, none⟩ = some (.int .u64 2) ∧ V.cell? ⟨g3, 1, none⟩ = some (.int .u64 0) ∧ V.cell? ⟨g3, 2, none⟩ = some (.int .u64 0) ∧ V.cell? ⟨g3, 3, none⟩ = some (.int .u64 0)) ∧ Below w.heap.size w V ∧ Below W.heap.size W V) ⟨?p1, ?p2, ?p3, ?p4, ?p5, ?p6, ?p7⟩ ?_
  case p1 => have hA := HA.out; repeat (first | (with_reducible assumption) | ((with_reducible refine blk_new ?_); first | omega | (simp [go_sem]; done) | (simp [go_sem]; omega)) | with_reducible apply blk_put8 | with_reducible apply blk_put4 | with_reducible apply blk_put8_0 | with_reducible apply blk_put8_1 | with_reducible apply blk_put8_2 | with_reducible apply blk_put8_3 | with_reducible apply blk_put8_4 | with_reducible apply blk_put8_5 | with_reducible apply blk_put8_6 | with_reducible apply blk_put8_7 | with_reducible apply blk_put4_0 | with_reducible apply blk_put4_1 | with_reducible apply blk_put4_2 | with_reducible apply blk_put4_3 | ((with_reducible refine blk_far ?_ ?_); focus (first | omega | (simp [go_sem]; done) | (simp [go_sem]; omega))) | ((with_reducible refine blk_past ?_ ?_); focus (first | omega | (simp [go_sem]; done) | (simp [go_sem]; omega))) | with_reducible apply blk_drew | with_reducible apply blk_drewN | ((with_reducible refine blk_below hb3 ?_ ?_); focus (first | omega | (simp [go_sem]; done) | (simp [go_sem]; omega))))
  case p2 => have hB := HB.out; repeat (first | (with_reducible assumption) | ((with_reducible refine blk_new ?_); first | omega | (simp [go_sem]; done) | (simp [go_sem]; omega)) | with_reducible apply blk_put8 | with_reducible apply blk_put4 | with_reducible apply blk_put8_0 | with_reducible apply blk_put8_1 | with_reducible apply blk_put8_2 | with_reducible apply blk_put8_3 | with_reducible apply blk_put8_4 | with_reducible apply blk_put8_5 | with_reducible apply blk_put8_6 | with_reducible apply blk_put8_7 | with_reducible apply blk_put4_0 | with_reducible apply blk_put4_1 | with_reducible apply blk_put4_2 | with_reducible apply blk_put4_3 | ((with_reducible refine blk_far ?_ ?_); focus (first | omega | (simp [go_sem]; done) | (simp [go_sem]; omega))) | ((with_reducible refine blk_past ?_ ?_); focus (first | omega | (simp [go_sem]; done) | (simp [go_sem]; omega))) | with_reducible apply blk_drew | with_reducible apply blk_drewN | ((with_reducible refine blk_below hb3 ?_ ?_); focus (first | omega | (simp [go_sem]; done) | (simp [go_sem]; omega))))
  case p3 => omega
  case p4 => omega
  case p5 => exact ⟨e30, e31, e32, e33⟩
  case p6 =>
    have h7 : Below W.heap.size W w3 := by repeat (first | with_reducible exact Below.refl _ _ | (with_reducible assumption) | with_reducible apply bdrewN | with_reducible apply below_drew1 | with_reducible apply below_al | ((with_reducible refine below_set ?_ ?_); focus (first | omega | (simp [go_sem]; done) | (simp [go_sem]; omega))) | with_reducible refine below_then ?_ hb3)
    exact HbW.out.trans (h7.mono HbW.out.size)
  case p7 => repeat (first | with_reducible exact Below.refl _ _ | (with_reducible assumption) | with_reducible apply bdrewN | with_reducible apply below_drew1 | with_reducible apply below_al | ((with_reducible refine below_set ?_ ?_); focus (first | omega | (simp [go_sem]; done) | (simp [go_sem]; omega))) | with_reducible refine below_then ?_ hb3)
  clear hb3 hcl3 hfz3 hz3 hga3 hgl3 e30 e31 e32 e33 HA HB hclW hfzW d0 d1 d2 d3 d4 d5 d6 d7 d8 d9 d10 d11 d12 d13
  rintro V ⟨hA, hB, hg3, hgV, ⟨t0, t1, t2, t3⟩, hbV, hbWV⟩
  have q0 := (hbWV.cell (p := ⟨g2, 0, none⟩) hgW).trans s0
  have q1 := (hbWV.cell (p := ⟨g2, 1, none⟩) hgW).trans s1
  have q2 := (hbWV.cell (p := ⟨g2, 2, none⟩) hgW).trans s2
  have q3 := (hbWV.cell (p := ⟨g2, 3, none⟩) hgW).trans s3
  have hg2V : g2 < V.heap.size := Nat.lt_of_lt_of_le hgW hbWV.size
  have HbV := Lib.hid hbV
  have sA := blk_lt hA
  have sB := blk_lt hB
  obtain ⟨a0_, a1_, a2_, a3_, fa0, fa1, fa2, fa3⟩ := blk_facts4 hA
  obtain ⟨b0_, b1_, b2_, b3_, fb0, fb1, fb2, fb3⟩ := blk_facts4 hB
  have m0 : ¬ (w.heap.size = g3) := by omega
  have m1 : ¬ (w.heap.size + 1 = g3) := by omega
  have hsum1 := Lib.hid (sum_one (a := 5) (by decide) (by decide) g2 cap2 V hg2V q0 q1 q2 q3)
  have HA := Lib.hid hA
  have HB := Lib.hid hB
  clear hA hB hbV hbWV s0 s1 s2 s3 hgW q0 q1 q2 q3
  rw [rounds_succ]
  go_wp2_with fail
  (go_at_call 16; (with_reducible refine hsum1.out.mono ?_); rintro e w4 ⟨rfl, hb4⟩; obtain ⟨hcl4, hfz4⟩ := bcell hb4; have hz4 := hb4.size)
  have l4_0 : w.heap.size < w4.heap.size := by omega
  have l4_1 : w.heap.size + 1 < w4.heap.size := by omega
  have l4_2 : g3 < w4.heap.size := by omega
  go_wp2_with fail
  have u0 := (hcl4 g3 0 hgV).trans t0
  have u1 := (hcl4 g3 1 hgV).trans t1
  have u2 := (hcl4 g3 2 hgV).trans t2
  have u3 := (hcl4 g3 3 hgV).trans t3
  (go_at_call 16; (with_reducible refine (sum_one (a := 2) (by decide) (by decide) g3 cap3 _ ?yx ?y0 ?y1 ?y2 ?y3).mono ?_))
  case yx => simp only [go_sem, World.size_setCell]; omega
  case y0 => rw [cell_far4 m0]; exact u0
  case y1 => rw [cell_far4 m0]; exact u1
  case y2 => rw [cell_far4 m0]; exact u2
  case y3 => rw [cell_far4 m0]; exact u3
  rintro e w5 ⟨rfl, hb5⟩
  have hz5 := hb5.size
  simp only [go_sem, World.size_setCell] at hz5
  have l5_0 : w.heap.size < w5.heap.size := by omega
  have l5_1 : w.heap.size + 1 < w5.heap.size := by omega
  have hP5 : BlkAt w5 w.heap.size #[.int .u64 5, .int .u64 0, .int .u64 0, .int .u64 0] 32 := by
    have hA := HA.out
    repeat (first | (with_reducible assumption) | ((with_reducible refine blk_new ?_); first | omega | (simp [go_sem]; done) | (simp [go_sem]; omega)) | with_reducible apply blk_put8 | with_reducible apply blk_put4 | with_reducible apply blk_put8_0 | with_reducible apply blk_put8_1 | with_reducible apply blk_put8_2 | with_reducible apply blk_put8_3 | with_reducible apply blk_put8_4 | with_reducible apply blk_put8_5 | with_reducible apply blk_put8_6 | with_reducible apply blk_put8_7 | with_reducible apply blk_put4_0 | with_reducible apply blk_put4_1 | with_reducible apply blk_put4_2 | with_reducible apply blk_put4_3 | ((with_reducible refine blk_far ?_ ?_); focus (first | omega | (simp [go_sem]; done) | (simp [go_sem]; omega))) | ((with_reducible refine blk_past ?_ ?_); focus (first | omega | (simp [go_sem]; done) | (simp [go_sem]; omega))) | with_reducible apply blk_drew | with_reducible apply blk_drewN | ((with_reducible refine blk_below hb5 ?_ ?_); focus (first | omega | (simp [go_sem]; done) | (simp [go_sem]; omega))) | ((with_reducible refine blk_below hb4 ?_ ?_); focus (first | omega | (simp [go_sem]; done) | (simp [go_sem]; omega))))
  have hR5 : BlkAt w5 (w.heap.size + 1) #[.int .u64 0, .int .u64 0, .int .u64 0, .int .u64 0] 32 := by
    have hB := HB.out
    repeat (first | (with_reducible assumption) | ((with_reducible refine blk_new ?_); first | omega | (simp [go_sem]; done) | (simp [go_sem]; omega)) | with_reducible apply blk_put8 | with_reducible apply blk_put4 | with_reducible apply blk_put8_0 | with_reducible apply blk_put8_1 | with_reducible apply blk_put8_2 | with_reducible apply blk_put8_3 | with_reducible apply blk_put8_4 | with_reducible apply blk_put8_5 | with_reducible apply blk_put8_6 | with_reducible apply blk_put8_7 | with_reducible apply blk_put4_0 | with_reducible apply blk_put4_1 | with_reducible apply blk_put4_2 | with_reducible apply blk_put4_3 | ((with_reducible refine blk_far ?_ ?_); focus (first | omega | (simp [go_sem]; done) | (simp [go_sem]; omega))) | ((with_reducible refine blk_past ?_ ?_); focus (first | omega | (simp [go_sem]; done) | (simp [go_sem]; omega))) | with_reducible apply blk_drew | with_reducible apply blk_drewN | ((with_reducible refine blk_below hb5 ?_ ?_); focus (first | omega | (simp [go_sem]; done) | (simp [go_sem]; omega))) | ((with_reducible refine blk_below hb4 ?_ ?_); focus (first | omega | (simp [go_sem]; done) | (simp [go_sem]; omega))))
  have hb5w : Hid (Below w.heap.size w w5) := Lib.hid (by have hbV := HbV.out; repeat (first | with_reducible exact Below.refl _ _ | (with_reducible assumption) | with_reducible apply bdrewN | with_reducible apply below_drew1 | with_reducible apply below_al | ((with_reducible refine below_set ?_ ?_); focus (first | omega | (simp [go_sem]; done) | (simp [go_sem]; omega))) | with_reducible refine below_then ?_ hb5 | with_reducible refine below_then ?_ hb4))
  clear hcl4 hfz4 u0 u1 u2 u3 hb5 hb4 a0_ a1_ a2_ a3_ fa0 fa1 fa2 fa3 b0_ b1_ b2_ b3_ fb0 fb1 fb2 fb3 HA HB
  obtain ⟨a0_, a1_, a2_, a3_, fa0, fa1, fa2, fa3⟩ := blk_facts4 hP5
  obtain ⟨b0_, b1_, b2_, b3_, fb0, fb1, fb2, fb3⟩ := blk_facts4 hR5
  have HA := Lib.hid hP5
  have HB := Lib.hid hR5
  clear hP5 hR5
  go_wp2_with fail
  refine wp_cut (fun V => BlkAt V w.heap.size #[.int .u64 5, .int .u64 0, .int .u64 0, .int .u64 0] 32 ∧ BlkAt V (w.heap.size + 1) #[.int .u64 2, .int .u64 0, .int .u64 0, .int .u64 0] 32 ∧ Below w.heap.size w V) ⟨?p1, ?p2, ?p3⟩ ?_
  case p1 => have hP := HA.out; repeat (first | (with_reducible assumption) | ((with_reducible refine blk_new ?_); first | omega | (simp [go_sem]; done) | (simp [go_sem]; omega)) | with_reducible apply blk_put8 | with_reducible apply blk_put4 | with_reducible apply blk_put8_0 | with_reducible apply blk_put8_1 | with_reducible apply blk_put8_2 | with_reducible apply blk_put8_3 | with_reducible apply blk_put8_4 | with_reducible apply blk_put8_5 | with_reducible apply blk_put8_6 | with_reducible apply blk_put8_7 | with_reducible apply blk_put4_0 | with_reducible apply blk_put4_1 | with_reducible apply blk_put4_2 | with_reducible apply blk_put4_3 | ((with_reducible refine blk_far ?_ ?_); focus (first | omega | (simp [go_sem]; done) | (simp [go_sem]; omega))) | ((with_reducible refine blk_past ?_ ?_); focus (first | omega | (simp [go_sem]; done) | (simp [go_sem]; omega))) | with_reducible apply blk_drew | with_reducible apply blk_drewN)
  case p2 => have hQ := HB.out; repeat (first | (with_reducible assumption) | ((with_reducible refine blk_new ?_); first | omega | (simp [go_sem]; done) | (simp [go_sem]; omega)) | with_reducible apply blk_put8 | with_reducible apply blk_put4 | with_reducible apply blk_put8_0 | with_reducible apply blk_put8_1 | with_reducible apply blk_put8_2 | with_reducible apply blk_put8_3 | with_reducible apply blk_put8_4 | with_reducible apply blk_put8_5 | with_reducible apply blk_put8_6 | with_reducible apply blk_put8_7 | with_reducible apply blk_put4_0 | with_reducible apply blk_put4_1 | with_reducible apply blk_put4_2 | with_reducible apply blk_put4_3 | ((with_reducible refine blk_far ?_ ?_); focus (first | omega | (simp [go_sem]; done) | (simp [go_sem]; omega))) | ((with_reducible refine blk_past ?_ ?_); focus (first | omega | (simp [go_sem]; done) | (simp [go_sem]; omega))) | with_reducible apply blk_drew | with_reducible apply blk_drewN)
  case p3 => have hbw := hb5w.out; repeat (first | with_reducible exact Below.refl _ _ | (with_reducible assumption) | with_reducible apply bdrewN | with_reducible apply below_drew1 | with_reducible apply below_al | ((with_reducible refine below_set ?_ ?_); focus (first | omega | (simp [go_sem]; done) | (simp [go_sem]; omega))))
  clear HA HB a0_ a1_ a2_ a3_ fa0 fa1 fa2 fa3 b0_ b1_ b2_ b3_ fb0 fb1 fb2 fb3 hb5w l4_0 l4_1 l4_2 l5_0 l5_1 hz4 hz5
  rintro U ⟨hA, hB, hbU⟩
  have sA := blk_lt hA
  have sB := blk_lt hB
  have HbU := Lib.hid hbU
  obtain ⟨a0_, a1_, a2_, a3_, fa0, fa1, fa2, fa3⟩ := blk_facts4 hA
  obtain ⟨b0_, b1_, b2_, b3_, fb0, fb1, fb2, fb3⟩ := blk_facts4 hB
  have HA := Lib.hid (show BlkAt U w.heap.size #[.int .u64 5, .int .u64 0, .int .u64 0, .int .u64 0] 32 from hA)
  have HB := Lib.hid hB
  clear hA hB hbU
  go_region
  go_wp2_with fail
  refine post_cut (fun V => BlkAt V w.heap.size #[.int .u64 5, .int .u64 0, .int .u64 0, .int .u64 0] 32 ∧ BlkAt V (w.heap.size + 1) #[.int .u64 2, .int .u64 0, .int .u64 0, .int .u64 0] 32 ∧ Below w.heap.size w V) ⟨?p1, ?p2, ?p3⟩ ?_
  case p1 => have hP := HA.out; repeat (first | (with_reducible assumption) | ((with_reducible refine blk_new ?_); first | omega | (simp [go_sem]; done) | (simp [go_sem]; omega)) | with_reducible apply blk_put8 | with_reducible apply blk_put4 | with_reducible apply blk_put8_0 | with_reducible apply blk_put8_1 | with_reducible apply blk_put8_2 | with_reducible apply blk_put8_3 | with_reducible apply blk_put8_4 | with_reducible apply blk_put8_5 | with_reducible apply blk_put8_6 | with_reducible apply blk_put8_7 | with_reducible apply blk_put4_0 | with_reducible apply blk_put4_1 | with_reducible apply blk_put4_2 | with_reducible apply blk_put4_3 | ((with_reducible refine blk_far ?_ ?_); focus (first | omega | (simp [go_sem]; done) | (simp [go_sem]; omega))) | ((with_reducible refine blk_past ?_ ?_); focus (first | omega | (simp [go_sem]; done) | (simp [go_sem]; omega))) | with_reducible apply blk_drew | with_reducible apply blk_drewN)
  case p2 => have hQ := HB.out; repeat (first | (with_reducible assumption) | ((with_reducible refine blk_new ?_); first | omega | (simp [go_sem]; done) | (simp [go_sem]; omega)) | with_reducible apply blk_put8 | with_reducible apply blk_put4 | with_reducible apply blk_put8_0 | with_reducible apply blk_put8_1 | with_reducible apply blk_put8_2 | with_reducible apply blk_put8_3 | with_reducible apply blk_put8_4 | with_reducible apply blk_put8_5 | with_reducible apply blk_put8_6 | with_reducible apply blk_put8_7 | with_reducible apply blk_put4_0 | with_reducible apply blk_put4_1 | with_reducible apply blk_put4_2 | with_reducible apply blk_put4_3 | ((with_reducible refine blk_far ?_ ?_); focus (first | omega | (simp [go_sem]; done) | (simp [go_sem]; omega))) | ((with_reducible refine blk_past ?_ ?_); focus (first | omega | (simp [go_sem]; done) | (simp [go_sem]; omega))) | with_reducible apply blk_drew | with_reducible apply blk_drewN)
  case p3 => have hbw := HbU.out; repeat (first | with_reducible exact Below.refl _ _ | (with_reducible assumption) | with_reducible apply bdrewN | with_reducible apply below_drew1 | with_reducible apply below_al | ((with_reducible refine below_set ?_ ?_); focus (first | omega | (simp [go_sem]; done) | (simp [go_sem]; omega))))
  clear a0_ a1_ a2_ a3_ fa0 fa1 fa2 fa3 b0_ b1_ b2_ b3_ fb0 fb1 fb2 fb3 HbU HA HB
  rintro V2 ⟨hAv, hBv, hbV2⟩
  obtain ⟨a0_, a1_, a2_, a3_, fa0, fa1, fa2, fa3⟩ := blk_facts4 hAv
  obtain ⟨b0_, b1_, b2_, b3_, fb0, fb1, fb2, fb3⟩ := blk_facts4 hBv
  exact bodyPost_ret (v := .tuple #[.agg #[.int .u64 5, .int .u64 0, .int .u64 0, .int .u64 0], .agg #[.int .u64 2, .int .u64 0, .int .u64 0, .int .u64 0], .int .i64 0]) (by simp [results, Try.results11, go_sem, a0_, a1_, a2_, a3_, b0_, b1_, b2_, b3_]) rfl ⟨rfl, hbV2⟩
end Go.Proofs.Ytjikhdjkpagjmaa.Ac
