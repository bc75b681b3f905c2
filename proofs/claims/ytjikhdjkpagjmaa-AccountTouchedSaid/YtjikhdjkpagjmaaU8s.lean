/- slices.Sort at uint8: put together. -/
import Derived.Sort.AssemblyPlain
import Derived.Test.YtjikhdjkpagjmaaU8f
set_option linter.unusedVariables false
set_option linter.unusedSimpArgs false
namespace Go.Proofs.Ytjikhdjkpagjmaa.U8
open Go.RowKit Go.Sort
theorem callees13 : Callees13 where
  ins := insertionSort_int
  brk := breakPatterns_int
  piv := choosePivot_int
  par := partialInsertionSort_int
  peq := partitionEqualOrdered_int
  prt := partitionOrdered_int
theorem plain13 : Plain13 where
  swo := swo_ltInt
  ins := insertionSort_holds
  par := partialInsertionSort_holds
  prt := partition_holds _
  peq := partitionEqual_holds _
  pdq := pdq_sorts _
theorem pdqWalkInt : pdqWalk_int := fun blk off cap a b limit d w hH hb hab hbd hsz hl hB =>
  pdqsort_int callees13 plain13 (b - a + 1) blk off cap a b limit d w (by omega) hH hb hab hbd hsz hl hB
theorem sort_int_eq (zs : List Int) : Sort.sort ltInt zs.toArray = (zs.mergeSort fun x y => decide (x ≤ y)).toArray := by
  rw [← sortInt zs]
theorem slices_Sort (blk off cap : Nat) (zs : List Int) (w : World) (hH : Holds (Value.int .u8) w blk off zs.toArray) (hblk : blk < w.heap.size) (hsz : zs.length < 4611686018427387904) :
    Calls Try.prog 9 #[.slice (some ⟨blk, off, none⟩) zs.length cap] w fun e w' =>
      e = .returned (.tuple #[]) ∧ ∃ n os, w' = grow (putRow (Value.int .u8) (Sort.ahead w n) blk off (zs.mergeSort fun x y => decide (x ≤ y)).toArray) os := by
  have h := Sort_int pdqWalkInt blk off cap zs.toArray w hH hblk (by simpa using hsz)
  rw [sort_int_eq] at h
  simpa using h
end Go.Proofs.Ytjikhdjkpagjmaa.U8
