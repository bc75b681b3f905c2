/- The tokens told: rising, each once, and just those of the events that give or take. Plain Lean. -/
import Derived.Test.YtjikhdjkpagjmaaAcC
set_option linter.unusedVariables false
set_option linter.unusedSimpArgs false
namespace Go.Proofs.Ytjikhdjkpagjmaa.Ac
/-- Compact of a row that does not fall: rising. -/
theorem compact_rising (zs : List Int) (h : zs.Pairwise (· ≤ ·)) : (Lib.compact zs).Pairwise (· < ·) := by
  unfold Lib.compact Lib.compactUpTo
  rw [List.pairwise_map]
  have hz : ∀ j, j < zs.length → zs.toArray[j]! = zs[j]! := fun j hj => by simp
  have hr : ((List.range zs.length).filter (Lib.keeps zs.toArray)).Pairwise (· < ·) := (List.pairwise_lt_range).sublist List.filter_sublist
  refine List.Pairwise.imp_of_mem ?_ hr
  intro a b ha hb hab
  obtain ⟨ha1, _⟩ := List.mem_filter.1 ha
  obtain ⟨hb1, hb2⟩ := List.mem_filter.1 hb
  have hbl := List.mem_range.1 hb1
  have hk : zs.toArray[b]! ≠ zs.toArray[b - 1]! := by
    unfold Lib.keeps at hb2
    have := of_decide_eq_true hb2
    rcases this with h0 | h0
    · omega
    · exact h0
  have le : ∀ i j, i ≤ j → j < zs.length → zs.toArray[i]! ≤ zs.toArray[j]! := fun i j hij hj => by
    rcases Nat.lt_or_ge i j with h1 | h1
    · have := List.pairwise_iff_getElem.1 h i j (by omega) hj h1
      simpa [List.getElem!_toArray, getElem!_pos zs i (by omega), getElem!_pos zs j hj] using this
    · have : i = j := by omega
      subst this
      exact Int.le_refl _
  have h1 := le a (b - 1) (by omega) (by omega)
  have h2 := le (b - 1) b (by omega) hbl
  omega
theorem compact_mem (zs : List Int) (x : Int) : x ∈ Lib.compact zs ↔ x ∈ zs := by
  unfold Lib.compact Lib.compactUpTo
  constructor
  · intro h
    obtain ⟨j, hj, rfl⟩ := List.mem_map.1 h
    have hl := List.mem_range.1 (List.mem_filter.1 hj).1
    simp only [List.getElem!_toArray, getElem!_pos zs j hl]
    exact List.getElem_mem hl
  · intro h
    -- the first place at which x lies
    have ⟨j, hj, hx⟩ : ∃ j, j < zs.length ∧ zs[j]! = x := by
      obtain ⟨j, hj, e⟩ := List.mem_iff_getElem.1 h
      exact ⟨j, hj, by rw [getElem!_pos zs j hj]; exact e⟩
    clear h
    have key : ∀ j, j < zs.length → zs[j]! = x → ∃ i, i < zs.length ∧ zs[i]! = x ∧ Lib.keeps zs.toArray i = true := by
      intro j
      induction j with
      | zero => intro h e; exact ⟨0, h, e, by simp [Lib.keeps]⟩
      | succ j ih =>
        intro h e
        by_cases hd : zs[j + 1]! = zs[j]!
        · exact ih (by omega) (by rw [← hd]; exact e)
        · exact ⟨j + 1, h, e, by simp only [Lib.keeps]; exact decide_eq_true (Or.inr (by simpa using hd))⟩
    obtain ⟨i, hi, e, hk⟩ := key j hj hx
    exact List.mem_map.2 ⟨i, List.mem_filter.2 ⟨List.mem_range.2 hi, hk⟩, by simpa using e⟩
theorem told_rising (K S T F R : Nat → Int) (who : Int) (n : Nat) : (told K S T F R who n).Pairwise (· < ·) := by
  refine compact_rising _ ?_
  have := List.pairwise_mergeSort (le := fun x y : Int => decide (x ≤ y)) (fun a b c h1 h2 => by simp at *; omega) (fun a b => by simp; omega) (toks K S T F R who n)
  exact this.imp (fun h => by simpa using h)
theorem told_mem (K S T F R : Nat → Int) (who : Int) (n : Nat) (x : Int) : x ∈ told K S T F R who n ↔ x ∈ toks K S T F R who n := by
  unfold told
  rw [compact_mem, List.mem_mergeSort]
end Go.Proofs.Ytjikhdjkpagjmaa.Ac
