/- Cells that are written twice. -/
import Derived.Test.YtgjdegahofoalaaBase
set_option linter.unusedVariables false
set_option linter.unusedSimpArgs false
namespace Go.Proofs.Ytgjdegahofoalaa
open Go.RowKit
@[go_sem] theorem setCell_same2 (w : World) (b o : Nat) (x y : Value) : (w.setCell ⟨b, o, none⟩ x).setCell ⟨b, o, none⟩ y = w.setCell ⟨b, o, none⟩ y := by
  unfold World.setCell
  congr 1
  apply Array.ext_getElem?
  intro k
  simp only [Array.getElem?_modify]
  by_cases hk : b = k
  · subst hk
    simp only [if_true]
    cases w.heap[b]? with
    | none => rfl
    | some ob => cases ob <;> simp
  · simp [hk]
theorem setCell_comm (w : World) (b o o' : Nat) (x y : Value) (h : o ≠ o') : (w.setCell ⟨b, o, none⟩ x).setCell ⟨b, o', none⟩ y = (w.setCell ⟨b, o', none⟩ y).setCell ⟨b, o, none⟩ x := by
  unfold World.setCell
  congr 1
  apply Array.ext_getElem?
  intro k
  simp only [Array.getElem?_modify]
  by_cases hk : b = k
  · subst hk
    simp only [if_true]
    cases w.heap[b]? with
    | none => rfl
    | some ob =>
      cases ob <;> simp
      exact Array.setIfInBounds_comm _ _ h
  · simp [hk]
@[go_sem] theorem setCell_sort (w : World) (b o o' : Nat) (x y : Value) (h : o' < o) : (w.setCell ⟨b, o, none⟩ x).setCell ⟨b, o', none⟩ y = (w.setCell ⟨b, o', none⟩ y).setCell ⟨b, o, none⟩ x := setCell_comm w b o o' x y (by omega)
theorem setCell_comm_block (w : World) (b b' o o' : Nat) (x y : Value) (h : b ≠ b') : (w.setCell ⟨b, o, none⟩ x).setCell ⟨b', o', none⟩ y = (w.setCell ⟨b', o', none⟩ y).setCell ⟨b, o, none⟩ x := by
  unfold World.setCell
  congr 1
  apply Array.ext_getElem?
  intro k
  simp only [Array.getElem?_modify]
  by_cases hk : b = k
  · subst hk
    simp [Ne.symm h]
  · by_cases hk' : b' = k
    · subst hk'
      simp [h]
    · simp [hk, hk']
@[go_sem] theorem setCell_sort_block (w : World) (b b' o o' : Nat) (x y : Value) (h : b' < b) : (w.setCell ⟨b, o, none⟩ x).setCell ⟨b', o', none⟩ y = (w.setCell ⟨b', o', none⟩ y).setCell ⟨b, o, none⟩ x := setCell_comm_block w b b' o o' x y (by omega)
theorem setCells_after (b : Nat) : ∀ (vs : List Value) (o o' : Nat) (w : World) (x : Value), o < o' → (w.setCells b o' vs).setCell ⟨b, o, none⟩ x = (w.setCell ⟨b, o, none⟩ x).setCells b o' vs
  | [], _, _, _, _, _ => rfl
  | v :: r, o, o', w, x, h => by
    show ((w.setCell ⟨b, o', none⟩ v).setCells b (o' + 1) r).setCell ⟨b, o, none⟩ x = ((w.setCell ⟨b, o, none⟩ x).setCell ⟨b, o', none⟩ v).setCells b (o' + 1) r
    rw [setCells_after b r o (o' + 1) _ x (by omega), setCell_comm w b o' o v x (by omega)]
theorem setCells_twice (b : Nat) : ∀ (vs vs' : List Value) (o : Nat) (w : World), vs.length = vs'.length → (w.setCells b o vs).setCells b o vs' = w.setCells b o vs'
  | [], [], _, _, _ => rfl
  | v :: r, v' :: r', o, w, h => by
    show (((w.setCell ⟨b, o, none⟩ v).setCells b (o + 1) r).setCell ⟨b, o, none⟩ v').setCells b (o + 1) r' = (w.setCell ⟨b, o, none⟩ v').setCells b (o + 1) r'
    rw [setCells_after b r o (o + 1) _ v' (by omega), setCell_same2, setCells_twice b r r' (o + 1) _ (by simpa using h)]
end Go.Proofs.Ytgjdegahofoalaa
