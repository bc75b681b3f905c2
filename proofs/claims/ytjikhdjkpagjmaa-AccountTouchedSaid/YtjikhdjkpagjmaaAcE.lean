/- account.Balance of the example's two events. -/
import Derived.Test.YtjikhdjkpagjmaaAcT
set_option linter.unusedVariables false
set_option linter.unusedSimpArgs false
namespace Go.Proofs.Ytjikhdjkpagjmaa.Ac
open Go.RowKit Go.Proofs.YtjikhdjkpagjmaaW.PrintWords
def xK (i : Nat) : Int := if i = 0 then 0 else 9
def xF (i : Nat) : Int := if i = 0 then 0 else 1
def xR (i : Nat) : Int := if i = 0 then 1 else 0
def xZ (i : Nat) : Int := 0
def xA (i j : Nat) : Int := if j = 0 then (if i = 0 then 5 else 2) else 0
theorem lns_two : lns xK xZ xZ xF xR xA 1 0 2 = [ln 0 0 true (fun i => if i = 0 then 5 else 0), ln 1 9 false (fun i => if i = 0 then 2 else 0)] := rfl
set_option maxHeartbeats 8000000 in
set_option maxRecDepth 100000 in
theorem balance_two {p : Option Addr} {c : Nat} {E : Nat → Array Value} (w : World) (hE : EvRow w p 2 E xK xZ xZ xF xR) (hA : ∀ i, i < 2 → ∀ j, j < 4 → (E i)[38 + j]? = some (.int .u64 (xA i j))) :
    Calls Try.prog 7 #[.slice p 2 c, .int .u8 1, .int .u8 0] w fun e w' => e = .returned (.tuple #[.agg #[.int .u64 3, .int .u64 0, .int .u64 0, .int .u64 0], .int .i64 0]) ∧ Below w.heap.size w w' := by
  have hb0 : Below w.heap.size w (w.alloc (.cells #[.int .u64 0, .int .u64 0, .int .u64 0, .int .u64 0] 32)) := below_al (Below.refl _ _)
  have hL := Lib.hid (lines_calls (c := c) (by decide : (2 : Nat) ≤ 40) 1 0 _ (hE.below hb0) hA)
  rw [lns_two] at hL
  clear hE hA hb0
  go_enter Try.func7, Try.ntmps7
  go_wp2_with fail
  (go_at_call 6; (with_reducible refine hL.out.mono ?_))
  rintro e w1 ⟨p1, c1, rfl, ho, hb1⟩
  have hz1 := hb1.size
  simp only [go_sem, World.size_alloc] at hz1
  obtain ⟨g, rfl, hg, hgl, hgc⟩ : ∃ g, p1 = some ⟨g, 0, none⟩ ∧ (w.alloc (.cells #[.int .u64 0, .int .u64 0, .int .u64 0, .int .u64 0] 32)).heap.size ≤ g ∧ g < w1.heap.size ∧ ∀ j u, (ln 0 0 true (fun i => if i = 0 then 5 else 0) ++ ln 1 9 false (fun i => if i = 0 then 2 else 0))[j]? = some u → w1.cell? ⟨g, j, none⟩ = some u := by
    rcases ho.2 with ⟨_, h1⟩ | ⟨g, cap, cur, he, hb, hg, _, _, _, ht⟩
    · exact absurd h1 (by decide)
    · simp only [Value.slice.injEq] at he
      obtain ⟨rfl, _, rfl⟩ := he
      refine ⟨g, rfl, hb, (ho.lt g rfl).2, fun j u hu => ?_⟩
      have := ho.cells (g := g) rfl j u (by simpa using hu)
      rwa [show (⟨g, 0, none⟩ : Addr).add j = ⟨g, j, none⟩ by unfold Addr.add; split <;> simp_all] at this
  have hT := Lib.hid (totals_two 0 9 g c1 w1 hgl hgc)
  clear ho hgc hL
  go_wp2_with fail
  (go_at_call 11; (with_reducible refine hT.out.mono ?_))
  rintro e w2 ⟨rfl, hb2⟩
  have hz2 := hb2.size
  have l2_0 : w.heap.size < w2.heap.size := by omega
  obtain ⟨hcl2, hfz2⟩ := bcell hb2
  clear hT
  go_wp2_with fail
  (go_at_call 12; (with_reducible refine (sub_53 _).mono ?_))
  rintro e w3 ⟨rfl, hb3⟩
  have hz3 := hb3.size
  simp only [go_sem, World.size_setCell, World.size_alloc] at hz3
  have l3_0 : w.heap.size < w3.heap.size := by omega
  have hP : BlkAt w3 w.heap.size #[.int .u64 0, .int .u64 0, .int .u64 0, .int .u64 0] 32 := by
    repeat (first | (with_reducible assumption) | ((with_reducible refine blk_new ?_); first | omega | (simp [go_sem]; done) | (simp [go_sem]; omega)) | with_reducible apply blk_put8 | with_reducible apply blk_put4 | with_reducible apply blk_put8_0 | with_reducible apply blk_put8_1 | with_reducible apply blk_put8_2 | with_reducible apply blk_put8_3 | with_reducible apply blk_put8_4 | with_reducible apply blk_put8_5 | with_reducible apply blk_put8_6 | with_reducible apply blk_put8_7 | with_reducible apply blk_put4_0 | with_reducible apply blk_put4_1 | with_reducible apply blk_put4_2 | with_reducible apply blk_put4_3 | ((with_reducible refine blk_far ?_ ?_); focus (first | omega | (simp [go_sem]; done) | (simp [go_sem]; omega))) | ((with_reducible refine blk_past ?_ ?_); focus (first | omega | (simp [go_sem]; done) | (simp [go_sem]; omega))) | with_reducible apply blk_drew | with_reducible apply blk_drewN | ((with_reducible refine blk_below hb3 ?_ ?_); focus (first | omega | (simp [go_sem]; done) | (simp [go_sem]; omega))) | ((with_reducible refine blk_below hb2 ?_ ?_); focus (first | omega | (simp [go_sem]; done) | (simp [go_sem]; omega))) | ((with_reducible refine blk_below hb1 ?_ ?_); focus (first | omega | (simp [go_sem]; done) | (simp [go_sem]; omega))))
  have hbw : Below w.heap.size w w3 := by repeat (first | with_reducible exact Below.refl _ _ | (with_reducible assumption) | with_reducible apply bdrewN | with_reducible apply below_drew1 | with_reducible apply below_al | ((with_reducible refine below_set ?_ ?_); focus (first | omega | (simp [go_sem]; done) | (simp [go_sem]; omega))) | with_reducible refine below_then ?_ hb3 | with_reducible refine below_then ?_ hb2 | with_reducible refine below_then ?_ hb1)
  clear hb1 hb2 hb3 hcl2 hfz2 hz2 hz1 hz3
  obtain ⟨a0_, a1_, a2_, a3_, fa0, fa1, fa2, fa3⟩ := blk_facts4 hP
  have HP := Lib.hid hP
  have Hbw := Lib.hid hbw
  clear hP hbw
  go_wp2_with fail
  refine post_cut (fun V => BlkAt V w.heap.size #[.int .u64 3, .int .u64 0, .int .u64 0, .int .u64 0] 32 ∧ Below w.heap.size w V) ⟨?p1, ?p2⟩ ?_
  case p1 => have hP := HP.out; repeat (first | (with_reducible assumption) | ((with_reducible refine blk_new ?_); first | omega | (simp [go_sem]; done) | (simp [go_sem]; omega)) | with_reducible apply blk_put8 | with_reducible apply blk_put4 | with_reducible apply blk_put8_0 | with_reducible apply blk_put8_1 | with_reducible apply blk_put8_2 | with_reducible apply blk_put8_3 | with_reducible apply blk_put8_4 | with_reducible apply blk_put8_5 | with_reducible apply blk_put8_6 | with_reducible apply blk_put8_7 | with_reducible apply blk_put4_0 | with_reducible apply blk_put4_1 | with_reducible apply blk_put4_2 | with_reducible apply blk_put4_3 | ((with_reducible refine blk_far ?_ ?_); focus (first | omega | (simp [go_sem]; done) | (simp [go_sem]; omega))) | ((with_reducible refine blk_past ?_ ?_); focus (first | omega | (simp [go_sem]; done) | (simp [go_sem]; omega))) | with_reducible apply blk_drew | with_reducible apply blk_drewN)
  case p2 => have hbw := Hbw.out; repeat (first | with_reducible exact Below.refl _ _ | (with_reducible assumption) | with_reducible apply bdrewN | with_reducible apply below_drew1 | with_reducible apply below_al | ((with_reducible refine below_set ?_ ?_); focus (first | omega | (simp [go_sem]; done) | (simp [go_sem]; omega))))
  rintro V ⟨hAv, hbV⟩
  clear a0_ a1_ a2_ a3_ fa0 fa1 fa2 fa3
  obtain ⟨a0_, a1_, a2_, a3_, fa0, fa1, fa2, fa3⟩ := blk_facts4 hAv
  exact bodyPost_ret (v := .tuple #[.agg #[.int .u64 3, .int .u64 0, .int .u64 0, .int .u64 0], .int .i64 0]) (by simp [results, Try.results7, go_sem, a0_, a1_, a2_, a3_]) rfl ⟨rfl, hbV⟩
end Go.Proofs.Ytjikhdjkpagjmaa.Ac
