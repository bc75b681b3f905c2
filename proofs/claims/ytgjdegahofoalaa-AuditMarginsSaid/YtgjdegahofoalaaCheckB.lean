/- audit.Picture's Check, of two pictures. -/
import Derived.Test.YtgjdegahofoalaaCheckA
import Derived.Test.YtgjdegahofoalaaWds
set_option linter.unusedVariables false
set_option linter.unusedSimpArgs false
namespace Go.Proofs.Ytgjdegahofoalaa.Audit
open Go.RowKit

def fr (x : Int) (k : Nat) : Nat → List Value
  | 0 => []
  | t + 1 => fr x k t ++ (if bad x k t = true then [.int .u8 (k : Int), .int .u8 (t : Int)] else [])
def fa (x : Int) : Nat → List Value
  | 0 => []
  | k + 1 => fa x k ++ fr x k 4
theorem fr_len (x : Int) (k t : Nat) : (fr x k t).length ≤ 2 * t ∧ (fr x k t).length = (fr x k t).length / 2 * 2 := by
  induction t with
  | zero => exact ⟨by simp [fr], by simp [fr]⟩
  | succ t ih =>
    unfold fr
    by_cases h : bad x k t = true
    · have e2 : [Value.int IntKind.u8 (k : Int), Value.int IntKind.u8 (t : Int)].length = 2 := rfl
      rw [if_pos h, List.length_append, e2]
      omega
    · rw [if_neg h, List.append_nil]
      omega
theorem fa_len (x : Int) (k : Nat) : (fa x k).length ≤ 8 * k ∧ (fa x k).length = (fa x k).length / 2 * 2 := by
  induction k with
  | zero => exact ⟨by simp [fa], by simp [fa]⟩
  | succ k ih =>
    have h := fr_len x k 4
    unfold fa
    rw [List.length_append]
    omega
theorem all_len (x : Int) (k t : Nat) : (fa x k ++ fr x k t).length ≤ 8 * k + 2 * t ∧ (fa x k ++ fr x k t).length = (fa x k ++ fr x k t).length / 2 * 2 := by
  have h1 := fa_len x k
  have h2 := fr_len x k t
  rw [List.length_append]
  omega
theorem nil_own (x : Int) (W : World) (b : Nat) : Aside0 (W.ownsRow b 40 2 (.slice none 0 0) ((fa x 0).length / 2) (fa x 0)) := by
  have e1 : fa x 0 = [] := by simp [fa]
  rw [e1]
  exact ⟨Go.Proofs.YtgjdegahofoalaaW.PrintWords.own_nil _ _ _ _⟩
theorem grown_below {B : Nat} {w w1 w2 : World} (h : Below B w w1) (hB : B ≤ w1.heap.size) (k : Below w1.heap.size w1 w2) : Below B w w2 := h.trans (k.mono hB)
theorem own_below {W W1 : World} {base : Nat} {e : TypeId} {size : Nat} {v : Value} {n : Nat} {xs : List Value} (h : W.ownsRow base e size v n xs) (hb : Below W.heap.size W W1) : W1.ownsRow base e size v n xs := Go.Proofs.YtgjdegahofoalaaW.PrintWords.pw_own_below h hb
theorem grown_blk {w w1 : World} {row : Option Nat} {b : Nat} {c : Array Value} {t : TypeId} (k : BlkAt w b c t) (hg : w.grownBy w1 row) (hne : some b ≠ row) : BlkAt w1 b c t := (hg.block b (blk_lt k) hne).trans k
theorem own_ne {w : World} {base : Nat} {e : TypeId} {size : Nat} {v : Value} {n b : Nat} {xs : List Value} (h : w.ownsRow base e size v n xs) (hb : b < base) : some b ≠ v.ownBlock := by
  rcases h.2 with ⟨rfl, _⟩ | ⟨g, cap, cur, rfl, hg, _⟩
  · simp [Value.ownBlock]
  · simp [Value.ownBlock]
    omega
set_option maxHeartbeats 8000000 in
set_option maxRecDepth 100000 in
theorem check_calls (x : Int) (hx : x = 0 ∨ x = 1) (w : World) : Calls Try.prog 7 #[.agg (pic x)] w
    fun e w' => ∃ v, e = .returned v ∧ w'.ownsRow (w.heap.size + 1) 40 2 v ((fa x 5).length / 2) (fa x 5) ∧ Below w.heap.size w w' := by
  have hi40 : (Try.prog.info? 40).map (fun i => (i.zero, i.size, i.bytes)) = some (some (.agg #[.int .u8 0, .int .u8 0]), 2, 2) := by kernel_rfl
  have hi36 : (Try.prog.info? 36).map (·.size) = some (pic x).size := by rw [pic_size]; kernel_rfl
  have HW := Lib.hid (fun k t hk ht w => wrong_pic x hx k t hk ht w)
  have HP0 : Aside0 (BlkAt (w.alloc (.cells (pic x) 36)) w.heap.size (pic x) 36) := ⟨blk_new rfl⟩
  obtain ⟨w0, hw0⟩ : ∃ w0 : World, w0 = w.alloc (.cells (pic x) 36) := ⟨_, rfl⟩
  have HB0 : Aside0 (Below (w.heap.size + 1) w0 (w.alloc (.cells (pic x) 36))) := ⟨by rw [hw0]; exact Below.refl _ _⟩
  have hz0 : w0.heap.size = w.heap.size + 1 := by rw [hw0]; simp
  have Hz0 := Lib.hid hz0
  have Hw0 : Hid (Below w.heap.size w w0) := Lib.hid (by rw [hw0]; exact below_al (Below.refl _ _))
  clear hw0 hz0
  have HO0 : Aside0 ((w.alloc (.cells (pic x) 36)).ownsRow (w.heap.size + 1) 40 2 (.slice none 0 0) ((fa x 0).length / 2) (fa x 0)) := nil_own _ _ _
  have hps := pic_size x
  generalize pic x = P at *
  go_enter Try.func7, Try.ntmps7
  go_wp2_with fail
  go_loopw [3, 4] (fun v3 v4 w' => ∃ k : Nat, k ≤ 5 ∧ v4 = .int .u8 (k : Int) ∧ Aside0 (w'.ownsRow (w.heap.size + 1) 40 2 v3 ((fa x k).length / 2) (fa x k)) ∧ Aside0 (BlkAt w' w.heap.size P 36) ∧ Aside0 (Below (w.heap.size + 1) w0 w')) (fun _ v4 _ => 5 - (intOf v4).toNat)
  case atStart => exact ⟨0, by omega, rfl, HO0, HP0, HB0⟩
  case round =>
    clear HO0 HP0 HB0
    obtain ⟨k, hk, rfl, HO, HP, HB⟩ := hrel
    by_cases hlt : k ≤ 4
    · have hk4 : (k : Int) ≤ 4 := by omega
      go_wp2_with fail
      have HO1 : Aside0 (wr.ownsRow (w.heap.size + 1) 40 2 _ ((fa x k ++ fr x k 0).length / 2) (fa x k ++ fr x k 0)) := ⟨by show wr.ownsRow _ _ _ _ ((fa x k ++ []).length / 2) (fa x k ++ []); rw [List.append_nil]; exact HO.out⟩
      go_loopw [3, 5, 10] (fun v3 v5 v10 w' => ∃ t : Nat, t ≤ 4 ∧ v10 = .int .u8 (t : Int) ∧ Aside0 (w'.ownsRow (w.heap.size + 1) 40 2 v3 ((fa x k ++ fr x k t).length / 2) (fa x k ++ fr x k t)) ∧ Aside0 (BlkAt w' w.heap.size P 36) ∧ Aside0 (Below (w.heap.size + 1) w0 w')) (fun _ _ v10 _ => 4 - (intOf v10).toNat)
      case atStart => exact ⟨0, by omega, rfl, HO1, HP, HB⟩
      case round =>
        clear HO HP HB HO1
        obtain ⟨t, ht, rfl, HO, HP, HB⟩ := hrel
        by_cases hlt2 : t < 4
        · have hal := all_len x k t
          have hw := HW.out k t hlt hlt2
          by_cases hbad : bad x k t = true
          · rw [hbad] at hw
            have HW2 := Lib.hid hw
            have hfr : fa x k ++ fr x k (t + 1) = (fa x k ++ fr x k t) ++ [.int .u8 (k : Int), .int .u8 (t : Int)] := by
              show fa x k ++ (fr x k t ++ (if bad x k t = true then [.int .u8 (k : Int), .int .u8 (t : Int)] else [])) = _
              rw [if_pos hbad, List.append_assoc]
            have Hfr := Lib.hid hfr
            clear hw hbad hfr
            go_wp2_with (first | ((with_reducible refine Go.Proofs.YtgjdegahofoalaaW.PrintWords.gate_dst (N := 13) rfl ?_); refine wpList_load_row rfl 36 (.tmp 1) rfl w.heap.size rfl 36 P (0, 0) _ HP.out Try.underlying36 rfl hi36 ?_) | (go_at_call 14; ((with_reducible refine (HW2.out _).mono ?_); rintro e w1 ⟨rfl, hb1⟩)) | (at_builtin; go_loud (refine Go.Proofs.YtgjdegahofoalaaW.PrintWords.print_append_cells (w0 := w0) (w.heap.size + 1) rfl (.tmp 17) (.tmp 21) 37 40 (.agg #[.int .u8 0, .int .u8 0]) 2 2 rfl Try.underlying37 hi40 rfl (by decide) (by decide) _ _ (fa x k ++ fr x k t) [.int .u8 (k : Int), .int .u8 (t : Int)] rfl rfl rfl ?a1 (own_below HO.out hb1) ?aB ?aS ?aL ?_; (case a1 => intro u hu; simp at hu; rcases hu with rfl | rfl <;> rfl); (case aB => exact grown_below HB.out (by have := HB.out.size; have := Hz0.out; omega) hb1); (case aS => (have h1 := HB.out.size; have h2 := Hz0.out; have h3 := hb1.size; omega)); (case aL => omega); intro v2 w2 hown hb2 hg hat)))
            go_roundw
            case measure => simp [intOf]; omega
            case rel => exact ⟨t + 1, by omega, by go_num, ⟨by have e2 : [Value.int IntKind.u8 (k : Int), Value.int IntKind.u8 (t : Int)].length = 2 := rfl; rw [Hfr.out, List.length_append, e2, Nat.add_div_right _ (by decide)]; exact hown⟩, ⟨grown_blk (blk_below hb1 (blk_lt HP.out) HP.out) hg (own_ne HO.out (by omega))⟩, ⟨hb2⟩⟩
          · have hbad' : bad x k t = false := by simpa using hbad
            rw [hbad'] at hw
            have HW2 := Lib.hid hw
            have hfr : fa x k ++ fr x k (t + 1) = fa x k ++ fr x k t := by
              show fa x k ++ (fr x k t ++ (if bad x k t = true then [.int .u8 (k : Int), .int .u8 (t : Int)] else [])) = _
              rw [if_neg hbad, List.append_nil]
            have Hfr := Lib.hid hfr
            clear hw hbad hbad' hfr
            go_wp2_with (first | ((with_reducible refine Go.Proofs.YtgjdegahofoalaaW.PrintWords.gate_dst (N := 13) rfl ?_); refine wpList_load_row rfl 36 (.tmp 1) rfl w.heap.size rfl 36 P (0, 0) _ HP.out Try.underlying36 rfl hi36 ?_) | (go_at_call 14; ((with_reducible refine (HW2.out _).mono ?_); rintro e w1 ⟨rfl, hb1⟩)))
            go_wp2_with fail
            go_roundw
            case measure => simp [intOf]; omega
            case rel => exact ⟨t + 1, by omega, by go_num, ⟨by rw [Hfr.out]; exact own_below HO.out hb1⟩, ⟨blk_below hb1 (blk_lt HP.out) HP.out⟩, ⟨grown_below HB.out (by have h1 := HB.out.size; have h2 := Hz0.out; omega) hb1⟩⟩
        · obtain rfl : t = 4 := by omega
          go_wp2_with fail
          go_roundw
          case measure => simp [intOf]; omega
          case rel => exact ⟨k + 1, by omega, by go_num, HO, HP, HB⟩
    · obtain rfl : k = 5 := by omega
      go_wp2_with fail
      go_ret
      exact ⟨_, rfl, HO.out, Hw0.out.trans (HB.out.mono (by omega))⟩
end Go.Proofs.Ytgjdegahofoalaa.Audit
