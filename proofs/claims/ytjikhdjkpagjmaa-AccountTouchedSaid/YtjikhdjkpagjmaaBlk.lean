/- A block that is known whole: what turns it and what does not. -/
import Derived.Test.YtjikhdjkpagjmaaRow
namespace Go.Proofs.Ytjikhdjkpagjmaa
open Go.RowKit
theorem blk_heap {w : World} {b : Nat} {c : Array Value} {t : TypeId} (h : BlkAt w b c t) : w.heap[b]? = some (.cells c t (0, 0)) := h
theorem blk_cell {w : World} {b : Nat} {c : Array Value} {t : TypeId} (h : BlkAt w b c t) (j : Nat) : w.cell? ⟨b, j, none⟩ = c[j]? := by
  have h' := blk_heap h
  simp [World.cell?, h']
theorem blk_free {w : World} {b : Nat} {c : Array Value} {t : TypeId} (h : BlkAt w b c t) (j : Nat) : w.frozen? ⟨b, j, none⟩ = false := by
  have h' := blk_heap h
  simp [World.frozen?, h']
theorem blk_new {w : World} {n : Nat} {c : Array Value} {t : TypeId} (h : n = w.heap.size) : BlkAt (w.alloc (.cells c t)) n c t := heap_at w _ n h
theorem blk_past {w : World} {o : Obj} {n : Nat} {c : Array Value} {t : TypeId} (h : n < w.heap.size) (k : BlkAt w n c t) : BlkAt (w.alloc o) n c t := by
  unfold BlkAt; rw [heap_past w o n h]; exact k
theorem blk_drew {w : World} {n : Nat} {c : Array Value} {t : TypeId} (k : BlkAt w n c t) : BlkAt w.drew n c t := k
theorem blk_drewN {w : World} {m n : Nat} {c : Array Value} {t : TypeId} (k : BlkAt w n c t) : BlkAt (w.drewN m) n c t := k
theorem blk_below {B : Nat} {w w1 : World} (h : Below B w w1) {b : Nat} {c : Array Value} {t : TypeId} (hb : b < B) (k : BlkAt w b c t) : BlkAt w1 b c t := by
  unfold BlkAt; rw [h.block b hb]; exact k
theorem blk_far {w : World} {b n i : Nat} {v : Value} {c : Array Value} {t : TypeId} (h : b ≠ n) (k : BlkAt w n c t) : BlkAt (w.setCell ⟨b, i, none⟩ v) n c t := by
  unfold BlkAt World.setCell
  rw [Array.getElem?_modify, if_neg h]; exact k
theorem blk_put {w : World} {n i : Nat} {v : Value} {c c' : Array Value} {t : TypeId} (k : BlkAt w n c t) (hc : c.setIfInBounds i v = c') : BlkAt (w.setCell ⟨n, i, none⟩ v) n c' t := by
  unfold BlkAt World.setCell
  rw [Array.getElem?_modify, if_pos rfl, blk_heap k]
  subst hc
  simp
theorem blk_lt {w : World} {n : Nat} {c : Array Value} {t : TypeId} (k : BlkAt w n c t) : n < w.heap.size := by
  obtain ⟨h, _⟩ := Array.getElem?_eq_some_iff.1 (blk_heap k)
  exact h
theorem blk_put4 {w : World} {n : Nat} {a0 a1 a2 a3 v0 v1 v2 v3 : Value} {t : TypeId} (k : BlkAt w n #[a0, a1, a2, a3] t) :
    BlkAt ((((w.setCell ⟨n, 0, none⟩ v0).setCell ⟨n, 1, none⟩ v1).setCell ⟨n, 2, none⟩ v2).setCell ⟨n, 3, none⟩ v3) n #[v0, v1, v2, v3] t := by
  have k := blk_put (i := 0) (v := v0) (c' := #[v0, a1, a2, a3]) k rfl
  have k := blk_put (i := 1) (v := v1) (c' := #[v0, v1, a2, a3]) k rfl
  have k := blk_put (i := 2) (v := v2) (c' := #[v0, v1, v2, a3]) k rfl
  have k := blk_put (i := 3) (v := v3) (c' := #[v0, v1, v2, v3]) k rfl
  exact k
theorem blk_put8 {w : World} {n : Nat} {a0 a1 a2 a3 a4 a5 a6 a7 v0 v1 v2 v3 v4 v5 v6 v7 : Value} {t : TypeId} (k : BlkAt w n #[a0, a1, a2, a3, a4, a5, a6, a7] t) :
    BlkAt ((((((((w.setCell ⟨n, 0, none⟩ v0).setCell ⟨n, 1, none⟩ v1).setCell ⟨n, 2, none⟩ v2).setCell ⟨n, 3, none⟩ v3).setCell ⟨n, 4, none⟩ v4).setCell ⟨n, 5, none⟩ v5).setCell ⟨n, 6, none⟩ v6).setCell ⟨n, 7, none⟩ v7) n #[v0, v1, v2, v3, v4, v5, v6, v7] t := by
  have k := blk_put (i := 0) (v := v0) (c' := #[v0, a1, a2, a3, a4, a5, a6, a7]) k rfl
  have k := blk_put (i := 1) (v := v1) (c' := #[v0, v1, a2, a3, a4, a5, a6, a7]) k rfl
  have k := blk_put (i := 2) (v := v2) (c' := #[v0, v1, v2, a3, a4, a5, a6, a7]) k rfl
  have k := blk_put (i := 3) (v := v3) (c' := #[v0, v1, v2, v3, a4, a5, a6, a7]) k rfl
  have k := blk_put (i := 4) (v := v4) (c' := #[v0, v1, v2, v3, v4, a5, a6, a7]) k rfl
  have k := blk_put (i := 5) (v := v5) (c' := #[v0, v1, v2, v3, v4, v5, a6, a7]) k rfl
  have k := blk_put (i := 6) (v := v6) (c' := #[v0, v1, v2, v3, v4, v5, v6, a7]) k rfl
  have k := blk_put (i := 7) (v := v7) (c' := #[v0, v1, v2, v3, v4, v5, v6, v7]) k rfl
  exact k
theorem blk_facts4 {w : World} {b : Nat} {a0 a1 a2 a3 : Value} {t : TypeId} (h : BlkAt w b #[a0, a1, a2, a3] t) : w.cell? ⟨b, 0, none⟩ = some a0 ∧ w.cell? ⟨b, 1, none⟩ = some a1 ∧ w.cell? ⟨b, 2, none⟩ = some a2 ∧ w.cell? ⟨b, 3, none⟩ = some a3 ∧ w.frozen? ⟨b, 0, none⟩ = false ∧ w.frozen? ⟨b, 1, none⟩ = false ∧ w.frozen? ⟨b, 2, none⟩ = false ∧ w.frozen? ⟨b, 3, none⟩ = false :=
  ⟨blk_cell h 0, blk_cell h 1, blk_cell h 2, blk_cell h 3, blk_free h 0, blk_free h 1, blk_free h 2, blk_free h 3⟩
theorem blk_facts8 {w : World} {b : Nat} {a0 a1 a2 a3 a4 a5 a6 a7 : Value} {t : TypeId} (h : BlkAt w b #[a0, a1, a2, a3, a4, a5, a6, a7] t) : w.cell? ⟨b, 0, none⟩ = some a0 ∧ w.cell? ⟨b, 1, none⟩ = some a1 ∧ w.cell? ⟨b, 2, none⟩ = some a2 ∧ w.cell? ⟨b, 3, none⟩ = some a3 ∧ w.cell? ⟨b, 4, none⟩ = some a4 ∧ w.cell? ⟨b, 5, none⟩ = some a5 ∧ w.cell? ⟨b, 6, none⟩ = some a6 ∧ w.cell? ⟨b, 7, none⟩ = some a7 ∧ w.frozen? ⟨b, 0, none⟩ = false ∧ w.frozen? ⟨b, 1, none⟩ = false ∧ w.frozen? ⟨b, 2, none⟩ = false ∧ w.frozen? ⟨b, 3, none⟩ = false ∧ w.frozen? ⟨b, 4, none⟩ = false ∧ w.frozen? ⟨b, 5, none⟩ = false ∧ w.frozen? ⟨b, 6, none⟩ = false ∧ w.frozen? ⟨b, 7, none⟩ = false :=
  ⟨blk_cell h 0, blk_cell h 1, blk_cell h 2, blk_cell h 3, blk_cell h 4, blk_cell h 5, blk_cell h 6, blk_cell h 7, blk_free h 0, blk_free h 1, blk_free h 2, blk_free h 3, blk_free h 4, blk_free h 5, blk_free h 6, blk_free h 7⟩
theorem blk_facts16 {w : World} {b : Nat} {a0 a1 a2 a3 a4 a5 a6 a7 a8 a9 a10 a11 a12 a13 a14 a15 : Value} {t : TypeId} (h : BlkAt w b #[a0, a1, a2, a3, a4, a5, a6, a7, a8, a9, a10, a11, a12, a13, a14, a15] t) : w.cell? ⟨b, 0, none⟩ = some a0 ∧ w.cell? ⟨b, 1, none⟩ = some a1 ∧ w.cell? ⟨b, 2, none⟩ = some a2 ∧ w.cell? ⟨b, 3, none⟩ = some a3 ∧ w.cell? ⟨b, 4, none⟩ = some a4 ∧ w.cell? ⟨b, 5, none⟩ = some a5 ∧ w.cell? ⟨b, 6, none⟩ = some a6 ∧ w.cell? ⟨b, 7, none⟩ = some a7 ∧ w.cell? ⟨b, 8, none⟩ = some a8 ∧ w.cell? ⟨b, 9, none⟩ = some a9 ∧ w.cell? ⟨b, 10, none⟩ = some a10 ∧ w.cell? ⟨b, 11, none⟩ = some a11 ∧ w.cell? ⟨b, 12, none⟩ = some a12 ∧ w.cell? ⟨b, 13, none⟩ = some a13 ∧ w.cell? ⟨b, 14, none⟩ = some a14 ∧ w.cell? ⟨b, 15, none⟩ = some a15 ∧ w.frozen? ⟨b, 0, none⟩ = false ∧ w.frozen? ⟨b, 1, none⟩ = false ∧ w.frozen? ⟨b, 2, none⟩ = false ∧ w.frozen? ⟨b, 3, none⟩ = false ∧ w.frozen? ⟨b, 4, none⟩ = false ∧ w.frozen? ⟨b, 5, none⟩ = false ∧ w.frozen? ⟨b, 6, none⟩ = false ∧ w.frozen? ⟨b, 7, none⟩ = false ∧ w.frozen? ⟨b, 8, none⟩ = false ∧ w.frozen? ⟨b, 9, none⟩ = false ∧ w.frozen? ⟨b, 10, none⟩ = false ∧ w.frozen? ⟨b, 11, none⟩ = false ∧ w.frozen? ⟨b, 12, none⟩ = false ∧ w.frozen? ⟨b, 13, none⟩ = false ∧ w.frozen? ⟨b, 14, none⟩ = false ∧ w.frozen? ⟨b, 15, none⟩ = false :=
  ⟨blk_cell h 0, blk_cell h 1, blk_cell h 2, blk_cell h 3, blk_cell h 4, blk_cell h 5, blk_cell h 6, blk_cell h 7, blk_cell h 8, blk_cell h 9, blk_cell h 10, blk_cell h 11, blk_cell h 12, blk_cell h 13, blk_cell h 14, blk_cell h 15, blk_free h 0, blk_free h 1, blk_free h 2, blk_free h 3, blk_free h 4, blk_free h 5, blk_free h 6, blk_free h 7, blk_free h 8, blk_free h 9, blk_free h 10, blk_free h 11, blk_free h 12, blk_free h 13, blk_free h 14, blk_free h 15⟩
theorem blk_put8_0 {w : World} {n : Nat} {a0 a1 a2 a3 a4 a5 a6 a7 v : Value} {t : TypeId} (k : BlkAt w n #[a0, a1, a2, a3, a4, a5, a6, a7] t) : BlkAt (w.setCell ⟨n, 0, none⟩ v) n #[v, a1, a2, a3, a4, a5, a6, a7] t := blk_put k rfl
theorem blk_put8_1 {w : World} {n : Nat} {a0 a1 a2 a3 a4 a5 a6 a7 v : Value} {t : TypeId} (k : BlkAt w n #[a0, a1, a2, a3, a4, a5, a6, a7] t) : BlkAt (w.setCell ⟨n, 1, none⟩ v) n #[a0, v, a2, a3, a4, a5, a6, a7] t := blk_put k rfl
theorem blk_put8_2 {w : World} {n : Nat} {a0 a1 a2 a3 a4 a5 a6 a7 v : Value} {t : TypeId} (k : BlkAt w n #[a0, a1, a2, a3, a4, a5, a6, a7] t) : BlkAt (w.setCell ⟨n, 2, none⟩ v) n #[a0, a1, v, a3, a4, a5, a6, a7] t := blk_put k rfl
theorem blk_put8_3 {w : World} {n : Nat} {a0 a1 a2 a3 a4 a5 a6 a7 v : Value} {t : TypeId} (k : BlkAt w n #[a0, a1, a2, a3, a4, a5, a6, a7] t) : BlkAt (w.setCell ⟨n, 3, none⟩ v) n #[a0, a1, a2, v, a4, a5, a6, a7] t := blk_put k rfl
theorem blk_put8_4 {w : World} {n : Nat} {a0 a1 a2 a3 a4 a5 a6 a7 v : Value} {t : TypeId} (k : BlkAt w n #[a0, a1, a2, a3, a4, a5, a6, a7] t) : BlkAt (w.setCell ⟨n, 4, none⟩ v) n #[a0, a1, a2, a3, v, a5, a6, a7] t := blk_put k rfl
theorem blk_put8_5 {w : World} {n : Nat} {a0 a1 a2 a3 a4 a5 a6 a7 v : Value} {t : TypeId} (k : BlkAt w n #[a0, a1, a2, a3, a4, a5, a6, a7] t) : BlkAt (w.setCell ⟨n, 5, none⟩ v) n #[a0, a1, a2, a3, a4, v, a6, a7] t := blk_put k rfl
theorem blk_put8_6 {w : World} {n : Nat} {a0 a1 a2 a3 a4 a5 a6 a7 v : Value} {t : TypeId} (k : BlkAt w n #[a0, a1, a2, a3, a4, a5, a6, a7] t) : BlkAt (w.setCell ⟨n, 6, none⟩ v) n #[a0, a1, a2, a3, a4, a5, v, a7] t := blk_put k rfl
theorem blk_put8_7 {w : World} {n : Nat} {a0 a1 a2 a3 a4 a5 a6 a7 v : Value} {t : TypeId} (k : BlkAt w n #[a0, a1, a2, a3, a4, a5, a6, a7] t) : BlkAt (w.setCell ⟨n, 7, none⟩ v) n #[a0, a1, a2, a3, a4, a5, a6, v] t := blk_put k rfl
theorem blk_put4_0 {w : World} {n : Nat} {a0 a1 a2 a3 v : Value} {t : TypeId} (k : BlkAt w n #[a0, a1, a2, a3] t) : BlkAt (w.setCell ⟨n, 0, none⟩ v) n #[v, a1, a2, a3] t := blk_put k rfl
theorem blk_put4_1 {w : World} {n : Nat} {a0 a1 a2 a3 v : Value} {t : TypeId} (k : BlkAt w n #[a0, a1, a2, a3] t) : BlkAt (w.setCell ⟨n, 1, none⟩ v) n #[a0, v, a2, a3] t := blk_put k rfl
theorem blk_put4_2 {w : World} {n : Nat} {a0 a1 a2 a3 v : Value} {t : TypeId} (k : BlkAt w n #[a0, a1, a2, a3] t) : BlkAt (w.setCell ⟨n, 2, none⟩ v) n #[a0, a1, v, a3] t := blk_put k rfl
theorem blk_put4_3 {w : World} {n : Nat} {a0 a1 a2 a3 v : Value} {t : TypeId} (k : BlkAt w n #[a0, a1, a2, a3] t) : BlkAt (w.setCell ⟨n, 3, none⟩ v) n #[a0, a1, a2, v] t := blk_put k rfl
end Go.Proofs.Ytjikhdjkpagjmaa
