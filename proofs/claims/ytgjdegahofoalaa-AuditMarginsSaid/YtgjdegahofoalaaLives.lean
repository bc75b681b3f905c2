/- sponsionlaw28's example: it is as it says. -/
import Derived.Test.YtgjdegahofoalaaCheckB
import Derived.Laws.StructEq
import Derived.Test.YtgjdegahofoalaaEq
set_option linter.unusedVariables false
set_option linter.unusedSimpArgs false
namespace Go.Proofs.Ytgjdegahofoalaa.Audit
open Go.RowKit

theorem own_form {w : World} {base : Nat} {e : TypeId} {size : Nat} {v : Value} {n : Nat} {xs : List Value} (h : w.ownsRow base e size v n xs) : ∃ A c, v = .slice A n c := by
  rcases h.2 with ⟨rfl, rfl⟩ | ⟨g, cap, cur, rfl, _⟩
  · exact ⟨none, 0, rfl⟩
  · exact ⟨_, cap, rfl⟩
theorem own_cells {w : World} {base : Nat} {e : TypeId} {size : Nat} {v : Value} {n : Nat} {xs : List Value} (h : w.ownsRow base e size v n xs) (hn : 0 < n) :
    ∃ g c, v = .slice (some ⟨g, 0, none⟩) n c ∧ base ≤ g ∧ ∀ i, i < xs.length → w.cell? ⟨g, i, none⟩ = xs[i]? := by
  obtain ⟨hl, h⟩ := h
  rcases h with ⟨rfl, rfl⟩ | ⟨g, cap, cur, rfl, hb, hg, hc, hm, hs, ht⟩
  · omega
  · refine ⟨g, cap, rfl, hb, fun i hi => ?_⟩
    rw [cell_of_row w g i cur e (0, 0) hg, ← ht]
    rw [← ht, List.length_take] at hi
    rw [List.getElem?_take, if_pos (by omega)]
    simp
set_option maxRecDepth 100000 in
theorem pic_one : (pic 0).setIfInBounds 24 (.int .u64 1) = pic 1 := rfl
set_option maxRecDepth 100000 in
theorem pic_one5 : (pic 1).setIfInBounds 25 (.int .u64 0) = pic 1 ∧ (pic 1).setIfInBounds 26 (.int .u64 0) = pic 1 ∧ (pic 1).setIfInBounds 27 (.int .u64 0) = pic 1 := ⟨rfl, rfl, rfl⟩
set_option maxRecDepth 100000 in
theorem pic_24 : (pic 0)[24]? = some (.int .u64 0) ∧ (pic 0)[25]? = some (.int .u64 0) ∧ (pic 0)[26]? = some (.int .u64 0) ∧ (pic 0)[27]? = some (.int .u64 0) := ⟨rfl, rfl, rfl, rfl⟩
theorem fa_zero : fa 0 5 = [] := by decide +kernel
theorem fa_one : fa 1 5 = [.int .u8 1, .int .u8 2, .int .u8 4, .int .u8 2] := by rfl
set_option maxHeartbeats 16000000 in
set_option maxRecDepth 100000 in
theorem lives_calls (w : World) : Calls Try.prog 4 #[] w fun e w' => e = .returned (.bool true) ∧ Below w.heap.size w w' := by
  have hi36 : ∀ x, (Try.prog.info? 36).map (·.size) = some (pic x).size := fun x => by rw [pic_size]; kernel_rfl
  have hz36 : ∀ W, Sem.run Try.prog (zeroValue 36) W = .ok (.agg (pic 0)) W := fun _ => by kernel_rfl
  have HC0 := Lib.hid (check_calls 0 (.inl rfl))
  have HC1 := Lib.hid (check_calls 1 (.inr rfl))
  go_enter Try.func4, Try.ntmps4
  go_upto_region 1 with (fail)
  go_cut [1] (fun v1 wc => v1 = .pointer (some ⟨w.heap.size, 0, none⟩) ∧ Aside0 (BlkAt wc w.heap.size (pic 0) 36) ∧ Aside0 (Below w.heap.size w wc))
  case first =>
    go_wp2_with fail
    go_meet
    case rel => exact ⟨rfl, ⟨(blk_new rfl : BlkAt (w.alloc (.cells (pic 0) 36)) w.heap.size (pic 0) 36)⟩, ⟨below_al (Below.refl _ _)⟩⟩
  case rest =>
    clear hz36
    obtain ⟨rfl, HP, HB⟩ := hcut
    go_upto_region 4 with (first | ((with_reducible refine Go.Proofs.YtgjdegahofoalaaW.PrintWords.gate_dst (N := 4) rfl ?_); refine wpList_load_row rfl 36 (.tmp 1) rfl w.heap.size rfl 36 (pic 0) (0, 0) _ HP.out Try.underlying36 rfl (hi36 0) ?_) | (go_at_call 7; ((with_reducible refine (HC0.out _).mono ?_); rintro e w1 ⟨v1, rfl, ho1, hb1⟩; rw [fa_zero] at ho1; obtain ⟨A1, c1, rfl⟩ := own_form ho1; clear ho1; have HP1 := Aside0.mk (blk_below hb1 (blk_lt HP.out) HP.out); have hlt1 := blk_lt HP1.out; have q24 := (blk_cell HP1.out 24).trans pic_24.1; have q25 := (blk_cell HP1.out 25).trans pic_24.2.1; have q26 := (blk_cell HP1.out 26).trans pic_24.2.2.1; have q27 := (blk_cell HP1.out 27).trans pic_24.2.2.2; have f24 := blk_free HP1.out 24; have f25 := blk_free HP1.out 25; have f26 := blk_free HP1.out 26; have f27 := blk_free HP1.out 27)))
    have HP2 := Aside0.mk (blk_put (blk_put (blk_put (blk_put HP1.out pic_one) pic_one5.1) pic_one5.2.1) pic_one5.2.2)
    clear q24 q25 q26 q27 f24 f25 f26 f27 HP HP1
    go_wp2_with (first | ((with_reducible refine Go.Proofs.YtgjdegahofoalaaW.PrintWords.gate_dst (N := 10) rfl ?_); refine wpList_load_row rfl 36 (.tmp 1) rfl w.heap.size rfl 36 (pic 1) (0, 0) _ HP2.out Try.underlying36 rfl (hi36 1) ?_) | (go_at_call 7; ((with_reducible refine (HC1.out _).mono ?_); rintro e w2 ⟨v2, rfl, ho2, hb2⟩; rw [fa_one] at ho2; obtain ⟨g, c2, rfl, hg, hcells⟩ := own_cells ho2 (by decide); have g0 := hcells 0 (by decide); have g1 := hcells 1 (by decide); simp at g0 g1; clear ho2 hcells)))
    go_ret
    refine ⟨rfl, ?_⟩
    have HBo := HB.out
    repeat (first | with_reducible exact Below.refl _ _ | (with_reducible assumption) | with_reducible apply bdrewN | with_reducible apply below_drew1 | with_reducible apply below_al | ((with_reducible refine below_set ?_ ?_); focus (first | omega | (simp [go_sem]; done) | (simp [go_sem]; omega))) | with_reducible refine below_then ?_ hb2 | with_reducible refine below_then ?_ hb1 | with_reducible refine below_then ?_ HBo)
end Go.Proofs.Ytgjdegahofoalaa.Audit
