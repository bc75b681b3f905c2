/- A row (a block of cells) whose content is written whole: the walk's normal form for a block that came in and is stored into. -/
import Derived.Test.YtjikhdjkpagjmaaBase
import Derived.Deep.WholeRow
namespace Go.Proofs.Ytjikhdjkpagjmaa
open Go.RowKit
def RowAt (w : World) (g : Nat) : Prop := ∃ cur t, w.heap[g]? = some (.cells cur t (0, 0))
@[go_sem] theorem cell_row (w : World) (g j : Nat) (c : Array Value) (h : RowAt w g) : (w.setRow g c).cell? ⟨g, j, none⟩ = c[j]? := by
  obtain ⟨cur, t, h⟩ := h
  exact cell_setRow_same w g j cur c t (0, 0) h
@[go_sem] theorem cell_row_far (w : World) (g b j : Nat) (c : Array Value) (h : ¬ b = g) : (w.setRow g c).cell? ⟨b, j, none⟩ = w.cell? ⟨b, j, none⟩ :=
  cell_setRow_other w g c ⟨b, j, none⟩ h
@[go_sem] theorem frozen_row (w : World) (g j : Nat) (c : Array Value) (h : RowAt w g) : (w.setRow g c).frozen? ⟨g, j, none⟩ = false := by
  obtain ⟨cur, t, h⟩ := h
  have := setRow_heap w g cur c t (0, 0) h
  simp [World.frozen?, this]
@[go_sem] theorem setCell_row (w : World) (g j : Nat) (c : Array Value) (v : Value) (h : RowAt w g) : (w.setRow g c).setCell ⟨g, j, none⟩ v = w.setRow g (c.setIfInBounds j v) := by
  obtain ⟨cur, t, h⟩ := h
  have h1 := setRow_heap w g cur c t (0, 0) h
  rw [setCell_eq_setRow _ g j c t (0, 0) v h1, setRow_setRow]
@[go_sem] theorem row_row (w : World) (g : Nat) (c c' : Array Value) : (w.setRow g c).setRow g c' = w.setRow g c' := setRow_setRow w g c c'
@[go_sem] theorem row_drew (w : World) (g : Nat) (c : Array Value) : w.drew.setRow g c = (w.setRow g c).drew := rfl
@[go_sem] theorem row_drewN (w : World) (n g : Nat) (c : Array Value) : (w.drewN n).setRow g c = (w.setRow g c).drewN n := rfl
@[go_sem] theorem row_alloc_at (w : World) (n : Nat) (c c' : Array Value) (t : TypeId) (h : n = w.heap.size) : (w.alloc (.cells c t)).setRow n c' = w.alloc (.cells c' t) := by
  subst h
  exact World.setRow_alloc_new w c c' t
@[go_sem] theorem row_alloc_past (w : World) (o : Obj) (n : Nat) (c : Array Value) (h : n < w.heap.size) : (w.alloc o).setRow n c = (w.setRow n c).alloc o := by
  unfold World.setRow World.alloc
  congr 1
  apply Array.ext_getElem?
  intro k
  simp only [Array.getElem?_modify, Array.getElem?_push, Array.size_modify]
  by_cases hk : k = w.heap.size
  · subst hk
    simp [Nat.ne_of_lt h]
  · simp [hk]
@[go_sem] theorem heap_at (w : World) (o : Obj) (n : Nat) (h : n = w.heap.size) : (w.alloc o).heap[n]? = some o := by
  subst h
  exact heap_alloc_new w o
@[go_sem] theorem heap_past (w : World) (o : Obj) (n : Nat) (h : n < w.heap.size) : (w.alloc o).heap[n]? = w.heap[n]? := Below.heap_alloc w o n h
@[go_sem] theorem heap_drew1 (w : World) : w.drew.heap = w.heap := rfl
@[go_sem] theorem heap_drewN1 (w : World) (n : Nat) : (w.drewN n).heap = w.heap := rfl
/-- Block b is just these cells. -/
def BlkAt (w : World) (b : Nat) (c : Array Value) (t : TypeId) : Prop := w.heap[b]? = some (.cells c t (0, 0))
@[go_sem] theorem blkAt_at (w : World) (n : Nat) (c : Array Value) (t : TypeId) (h : n = w.heap.size) : BlkAt (w.alloc (.cells c t)) n c t = True := eq_true (heap_at w _ n h)
@[go_sem] theorem blkAt_past (w : World) (o : Obj) (n : Nat) (c : Array Value) (t : TypeId) (h : n < w.heap.size) : BlkAt (w.alloc o) n c t = BlkAt w n c t := by unfold BlkAt; rw [heap_past w o n h]
@[go_sem] theorem blkAt_drew (w : World) (n : Nat) (c : Array Value) (t : TypeId) : BlkAt w.drew n c t = BlkAt w n c t := rfl
@[go_sem] theorem blkAt_drewN (w : World) (m n : Nat) (c : Array Value) (t : TypeId) : BlkAt (w.drewN m) n c t = BlkAt w n c t := rfl
theorem wrap_i64_nat {t : Nat} (h : t ≤ 64) : IntKind.i64.wrap (t : Int) = (t : Int) := by
  simp [IntKind.wrap, IntKind.bits, IntKind.signed]
  omega
theorem RowAt.of_cell {w : World} {g : Nat} {c : Array Value} {t : TypeId} (h : w.heap[g]? = some (.cells c t (0, 0))) : RowAt w g := ⟨c, t, h⟩
/-- A contract that speaks of a row written whole serves a world that holds just that row. -/
theorem calls_row {P : Program} {f : FuncId} {args : Array Value} {w : World} {g : Nat} {c : Array Value} {t : TypeId} {R : Ending → World → Prop} (h : w.heap[g]? = some (.cells c t (0, 0)))
    (hc : Calls P f args (w.setRow g c) R) : Calls P f args w R := by
  rwa [setRow_self w g c t (0, 0) h] at hc
end Go.Proofs.Ytjikhdjkpagjmaa
