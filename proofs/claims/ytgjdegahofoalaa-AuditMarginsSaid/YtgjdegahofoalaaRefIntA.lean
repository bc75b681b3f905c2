/- sponsionref02.Int: the number of digits, if it has at most 256 bits. -/
import Derived.Test.YtgjdegahofoalaaRefRow
import Derived.Test.YtgjdegahofoalaaBlk
import Derived.Deep.DeepCutAuto
import Derived.Deep.CutBlock
set_option linter.unusedVariables false
set_option linter.unusedSimpArgs false
namespace Go.Proofs.Ytgjdegahofoalaa.RN
open Go.RowKit Go.Proofs.YtgjdegahofoalaaW.PrintWords Go.Proofs.YtgjdegahofoalaaW.PrintLast Go.Proofs.YtgjdegahofoalaaW.PrintMore
open PDiv RefMul

theorem wrap_id64 (n : Int) (h0 : 0 ≤ n) (h1 : n < 2 ^ 64) : IntKind.u64.wrap n = n := by
  have h1' : n < 18446744073709551616 := h1
  rw [wrap_lo]; unfold lo; omega
theorem trim_rowV {w : World} {v : Value} {n : Int} (h : RowV w v n) : Calls Try.prog 36 #[v] w fun e w' => ∃ v', e = .returned v' ∧ RowV w' v' n ∧ Below w.heap.size w w' := by
  obtain ⟨l, h1, rfl, h3, h4⟩ := h
  exact trim_row h1.1 h3 h4
/-- What has been made of the j-th limb when the digits from the i-th on are done. -/
def G (l : List Int) (i j : Nat) : Int := val ([l.getD (4 * j) 0, l.getD (4 * j + 1) 0, l.getD (4 * j + 2) 0, l.getD (4 * j + 3) 0].drop (i - 4 * j))
theorem G_u (l : List Int) (h : Dg l) (i j : Nat) : U64 (G l i j) := by
  have h4 : Dg [l.getD (4 * j) 0, l.getD (4 * j + 1) 0, l.getD (4 * j + 2) 0, l.getD (4 * j + 3) 0] :=
    Dg.cons (h.getD _).1 (h.getD _).2 (Dg.cons (h.getD _).1 (h.getD _).2 (Dg.cons (h.getD _).1 (h.getD _).2 (Dg.cons (h.getD _).1 (h.getD _).2 Dg.nil)))
  have b := val_bd (h4.drop (i - 4 * j))
  have hm := B16_mono (show (List.drop (i - 4 * j) [l.getD (4 * j) 0, l.getD (4 * j + 1) 0, l.getD (4 * j + 2) 0, l.getD (4 * j + 3) 0]).length ≤ 4 by simp)
  have e4 : B16 4 = 18446744073709551616 := by decide +kernel
  unfold U64 G
  omega
theorem G_out (l : List Int) (i j : Nat) (h : 4 * j + 4 ≤ i) : G l i j = 0 := by
  unfold G
  rw [List.drop_eq_nil_of_le (by simp; omega)]
  rfl
theorem G_len (l : List Int) (j : Nat) : G l l.length j = 0 := by
  unfold G
  by_cases h : 4 * j + 4 ≤ l.length
  · rw [List.drop_eq_nil_of_le (by simp; omega)]; rfl
  · have hz : ∀ m, l.length ≤ m → l.getD m 0 = 0 := fun m hm => gD_ge l m hm
    obtain hd | hd | hd | hd : l.length - 4 * j = 0 ∨ l.length - 4 * j = 1 ∨ l.length - 4 * j = 2 ∨ l.length - 4 * j = 3 := by omega
    · rw [hd, hz (4 * j) (by omega), hz (4 * j + 1) (by omega), hz (4 * j + 2) (by omega), hz (4 * j + 3) (by omega)]; rfl
    · rw [hd, hz (4 * j + 1) (by omega), hz (4 * j + 2) (by omega), hz (4 * j + 3) (by omega)]; rfl
    · rw [hd, hz (4 * j + 2) (by omega), hz (4 * j + 3) (by omega)]; rfl
    · rw [hd, hz (4 * j + 3) (by omega)]; rfl
theorem G_0_0 (l : List Int) (h : Dg l) : G l 0 0 = G l 1 0 * 65536 + l.getD 0 0 ∧ IntKind.u64.wrap (IntKind.u64.wrap (G l 1 0 * 65536) + l.getD 0 0) = G l 0 0 := by
  have e : G l 0 0 = G l 1 0 * 65536 + l.getD 0 0 := by
    show val _ = val _ * 65536 + _
    (simp [val]; try omega)
  have u := G_u l h 0 0
  have d := h.getD 0
  have u1 := G_u l h 1 0
  refine ⟨e, ?_⟩
  unfold U64 at u u1
  rw [wrap_id64 (G l 1 0 * 65536) (by omega) (by show _ < (18446744073709551616 : Int); omega), wrap_id64 (G l 1 0 * 65536 + l.getD 0 0) (by omega) (by show _ < (18446744073709551616 : Int); omega), e]
theorem G_0_1 (l : List Int) : G l 0 1 = G l 1 1 := rfl
theorem G_0_2 (l : List Int) : G l 0 2 = G l 1 2 := rfl
theorem G_0_3 (l : List Int) : G l 0 3 = G l 1 3 := rfl
theorem G_1_0 (l : List Int) (h : Dg l) : G l 1 0 = G l 2 0 * 65536 + l.getD 1 0 ∧ IntKind.u64.wrap (IntKind.u64.wrap (G l 2 0 * 65536) + l.getD 1 0) = G l 1 0 := by
  have e : G l 1 0 = G l 2 0 * 65536 + l.getD 1 0 := by
    show val _ = val _ * 65536 + _
    (simp [val]; try omega)
  have u := G_u l h 1 0
  have d := h.getD 1
  have u1 := G_u l h 2 0
  refine ⟨e, ?_⟩
  unfold U64 at u u1
  rw [wrap_id64 (G l 2 0 * 65536) (by omega) (by show _ < (18446744073709551616 : Int); omega), wrap_id64 (G l 2 0 * 65536 + l.getD 1 0) (by omega) (by show _ < (18446744073709551616 : Int); omega), e]
theorem G_1_1 (l : List Int) : G l 1 1 = G l 2 1 := rfl
theorem G_1_2 (l : List Int) : G l 1 2 = G l 2 2 := rfl
theorem G_1_3 (l : List Int) : G l 1 3 = G l 2 3 := rfl
theorem G_2_0 (l : List Int) (h : Dg l) : G l 2 0 = G l 3 0 * 65536 + l.getD 2 0 ∧ IntKind.u64.wrap (IntKind.u64.wrap (G l 3 0 * 65536) + l.getD 2 0) = G l 2 0 := by
  have e : G l 2 0 = G l 3 0 * 65536 + l.getD 2 0 := by
    show val _ = val _ * 65536 + _
    (simp [val]; try omega)
  have u := G_u l h 2 0
  have d := h.getD 2
  have u1 := G_u l h 3 0
  refine ⟨e, ?_⟩
  unfold U64 at u u1
  rw [wrap_id64 (G l 3 0 * 65536) (by omega) (by show _ < (18446744073709551616 : Int); omega), wrap_id64 (G l 3 0 * 65536 + l.getD 2 0) (by omega) (by show _ < (18446744073709551616 : Int); omega), e]
theorem G_2_1 (l : List Int) : G l 2 1 = G l 3 1 := rfl
theorem G_2_2 (l : List Int) : G l 2 2 = G l 3 2 := rfl
theorem G_2_3 (l : List Int) : G l 2 3 = G l 3 3 := rfl
theorem G_3_0 (l : List Int) (h : Dg l) : G l 3 0 = G l 4 0 * 65536 + l.getD 3 0 ∧ IntKind.u64.wrap (IntKind.u64.wrap (G l 4 0 * 65536) + l.getD 3 0) = G l 3 0 := by
  have e : G l 3 0 = G l 4 0 * 65536 + l.getD 3 0 := by
    show val _ = val _ * 65536 + _
    (simp [val]; try omega)
  have u := G_u l h 3 0
  have d := h.getD 3
  have u1 := G_u l h 4 0
  refine ⟨e, ?_⟩
  unfold U64 at u u1
  rw [wrap_id64 (G l 4 0 * 65536) (by omega) (by show _ < (18446744073709551616 : Int); omega), wrap_id64 (G l 4 0 * 65536 + l.getD 3 0) (by omega) (by show _ < (18446744073709551616 : Int); omega), e]
theorem G_3_1 (l : List Int) : G l 3 1 = G l 4 1 := rfl
theorem G_3_2 (l : List Int) : G l 3 2 = G l 4 2 := rfl
theorem G_3_3 (l : List Int) : G l 3 3 = G l 4 3 := rfl
theorem G_4_0 (l : List Int) : G l 4 0 = G l 5 0 := by rw [G_out l _ _ (by decide), G_out l _ _ (by decide)]
theorem G_4_1 (l : List Int) (h : Dg l) : G l 4 1 = G l 5 1 * 65536 + l.getD 4 0 ∧ IntKind.u64.wrap (IntKind.u64.wrap (G l 5 1 * 65536) + l.getD 4 0) = G l 4 1 := by
  have e : G l 4 1 = G l 5 1 * 65536 + l.getD 4 0 := by
    show val _ = val _ * 65536 + _
    (simp [val]; try omega)
  have u := G_u l h 4 1
  have d := h.getD 4
  have u1 := G_u l h 5 1
  refine ⟨e, ?_⟩
  unfold U64 at u u1
  rw [wrap_id64 (G l 5 1 * 65536) (by omega) (by show _ < (18446744073709551616 : Int); omega), wrap_id64 (G l 5 1 * 65536 + l.getD 4 0) (by omega) (by show _ < (18446744073709551616 : Int); omega), e]
theorem G_4_2 (l : List Int) : G l 4 2 = G l 5 2 := rfl
theorem G_4_3 (l : List Int) : G l 4 3 = G l 5 3 := rfl
theorem G_5_0 (l : List Int) : G l 5 0 = G l 6 0 := by rw [G_out l _ _ (by decide), G_out l _ _ (by decide)]
theorem G_5_1 (l : List Int) (h : Dg l) : G l 5 1 = G l 6 1 * 65536 + l.getD 5 0 ∧ IntKind.u64.wrap (IntKind.u64.wrap (G l 6 1 * 65536) + l.getD 5 0) = G l 5 1 := by
  have e : G l 5 1 = G l 6 1 * 65536 + l.getD 5 0 := by
    show val _ = val _ * 65536 + _
    (simp [val]; try omega)
  have u := G_u l h 5 1
  have d := h.getD 5
  have u1 := G_u l h 6 1
  refine ⟨e, ?_⟩
  unfold U64 at u u1
  rw [wrap_id64 (G l 6 1 * 65536) (by omega) (by show _ < (18446744073709551616 : Int); omega), wrap_id64 (G l 6 1 * 65536 + l.getD 5 0) (by omega) (by show _ < (18446744073709551616 : Int); omega), e]
theorem G_5_2 (l : List Int) : G l 5 2 = G l 6 2 := rfl
theorem G_5_3 (l : List Int) : G l 5 3 = G l 6 3 := rfl
theorem G_6_0 (l : List Int) : G l 6 0 = G l 7 0 := by rw [G_out l _ _ (by decide), G_out l _ _ (by decide)]
theorem G_6_1 (l : List Int) (h : Dg l) : G l 6 1 = G l 7 1 * 65536 + l.getD 6 0 ∧ IntKind.u64.wrap (IntKind.u64.wrap (G l 7 1 * 65536) + l.getD 6 0) = G l 6 1 := by
  have e : G l 6 1 = G l 7 1 * 65536 + l.getD 6 0 := by
    show val _ = val _ * 65536 + _
    (simp [val]; try omega)
  have u := G_u l h 6 1
  have d := h.getD 6
  have u1 := G_u l h 7 1
  refine ⟨e, ?_⟩
  unfold U64 at u u1
  rw [wrap_id64 (G l 7 1 * 65536) (by omega) (by show _ < (18446744073709551616 : Int); omega), wrap_id64 (G l 7 1 * 65536 + l.getD 6 0) (by omega) (by show _ < (18446744073709551616 : Int); omega), e]
theorem G_6_2 (l : List Int) : G l 6 2 = G l 7 2 := rfl
theorem G_6_3 (l : List Int) : G l 6 3 = G l 7 3 := rfl
theorem G_7_0 (l : List Int) : G l 7 0 = G l 8 0 := by rw [G_out l _ _ (by decide), G_out l _ _ (by decide)]
theorem G_7_1 (l : List Int) (h : Dg l) : G l 7 1 = G l 8 1 * 65536 + l.getD 7 0 ∧ IntKind.u64.wrap (IntKind.u64.wrap (G l 8 1 * 65536) + l.getD 7 0) = G l 7 1 := by
  have e : G l 7 1 = G l 8 1 * 65536 + l.getD 7 0 := by
    show val _ = val _ * 65536 + _
    (simp [val]; try omega)
  have u := G_u l h 7 1
  have d := h.getD 7
  have u1 := G_u l h 8 1
  refine ⟨e, ?_⟩
  unfold U64 at u u1
  rw [wrap_id64 (G l 8 1 * 65536) (by omega) (by show _ < (18446744073709551616 : Int); omega), wrap_id64 (G l 8 1 * 65536 + l.getD 7 0) (by omega) (by show _ < (18446744073709551616 : Int); omega), e]
theorem G_7_2 (l : List Int) : G l 7 2 = G l 8 2 := rfl
theorem G_7_3 (l : List Int) : G l 7 3 = G l 8 3 := rfl
theorem G_8_0 (l : List Int) : G l 8 0 = G l 9 0 := by rw [G_out l _ _ (by decide), G_out l _ _ (by decide)]
theorem G_8_1 (l : List Int) : G l 8 1 = G l 9 1 := by rw [G_out l _ _ (by decide), G_out l _ _ (by decide)]
theorem G_8_2 (l : List Int) (h : Dg l) : G l 8 2 = G l 9 2 * 65536 + l.getD 8 0 ∧ IntKind.u64.wrap (IntKind.u64.wrap (G l 9 2 * 65536) + l.getD 8 0) = G l 8 2 := by
  have e : G l 8 2 = G l 9 2 * 65536 + l.getD 8 0 := by
    show val _ = val _ * 65536 + _
    (simp [val]; try omega)
  have u := G_u l h 8 2
  have d := h.getD 8
  have u1 := G_u l h 9 2
  refine ⟨e, ?_⟩
  unfold U64 at u u1
  rw [wrap_id64 (G l 9 2 * 65536) (by omega) (by show _ < (18446744073709551616 : Int); omega), wrap_id64 (G l 9 2 * 65536 + l.getD 8 0) (by omega) (by show _ < (18446744073709551616 : Int); omega), e]
theorem G_8_3 (l : List Int) : G l 8 3 = G l 9 3 := rfl
theorem G_9_0 (l : List Int) : G l 9 0 = G l 10 0 := by rw [G_out l _ _ (by decide), G_out l _ _ (by decide)]
theorem G_9_1 (l : List Int) : G l 9 1 = G l 10 1 := by rw [G_out l _ _ (by decide), G_out l _ _ (by decide)]
theorem G_9_2 (l : List Int) (h : Dg l) : G l 9 2 = G l 10 2 * 65536 + l.getD 9 0 ∧ IntKind.u64.wrap (IntKind.u64.wrap (G l 10 2 * 65536) + l.getD 9 0) = G l 9 2 := by
  have e : G l 9 2 = G l 10 2 * 65536 + l.getD 9 0 := by
    show val _ = val _ * 65536 + _
    (simp [val]; try omega)
  have u := G_u l h 9 2
  have d := h.getD 9
  have u1 := G_u l h 10 2
  refine ⟨e, ?_⟩
  unfold U64 at u u1
  rw [wrap_id64 (G l 10 2 * 65536) (by omega) (by show _ < (18446744073709551616 : Int); omega), wrap_id64 (G l 10 2 * 65536 + l.getD 9 0) (by omega) (by show _ < (18446744073709551616 : Int); omega), e]
theorem G_9_3 (l : List Int) : G l 9 3 = G l 10 3 := rfl
theorem G_10_0 (l : List Int) : G l 10 0 = G l 11 0 := by rw [G_out l _ _ (by decide), G_out l _ _ (by decide)]
theorem G_10_1 (l : List Int) : G l 10 1 = G l 11 1 := by rw [G_out l _ _ (by decide), G_out l _ _ (by decide)]
theorem G_10_2 (l : List Int) (h : Dg l) : G l 10 2 = G l 11 2 * 65536 + l.getD 10 0 ∧ IntKind.u64.wrap (IntKind.u64.wrap (G l 11 2 * 65536) + l.getD 10 0) = G l 10 2 := by
  have e : G l 10 2 = G l 11 2 * 65536 + l.getD 10 0 := by
    show val _ = val _ * 65536 + _
    (simp [val]; try omega)
  have u := G_u l h 10 2
  have d := h.getD 10
  have u1 := G_u l h 11 2
  refine ⟨e, ?_⟩
  unfold U64 at u u1
  rw [wrap_id64 (G l 11 2 * 65536) (by omega) (by show _ < (18446744073709551616 : Int); omega), wrap_id64 (G l 11 2 * 65536 + l.getD 10 0) (by omega) (by show _ < (18446744073709551616 : Int); omega), e]
theorem G_10_3 (l : List Int) : G l 10 3 = G l 11 3 := rfl
theorem G_11_0 (l : List Int) : G l 11 0 = G l 12 0 := by rw [G_out l _ _ (by decide), G_out l _ _ (by decide)]
theorem G_11_1 (l : List Int) : G l 11 1 = G l 12 1 := by rw [G_out l _ _ (by decide), G_out l _ _ (by decide)]
theorem G_11_2 (l : List Int) (h : Dg l) : G l 11 2 = G l 12 2 * 65536 + l.getD 11 0 ∧ IntKind.u64.wrap (IntKind.u64.wrap (G l 12 2 * 65536) + l.getD 11 0) = G l 11 2 := by
  have e : G l 11 2 = G l 12 2 * 65536 + l.getD 11 0 := by
    show val _ = val _ * 65536 + _
    (simp [val]; try omega)
  have u := G_u l h 11 2
  have d := h.getD 11
  have u1 := G_u l h 12 2
  refine ⟨e, ?_⟩
  unfold U64 at u u1
  rw [wrap_id64 (G l 12 2 * 65536) (by omega) (by show _ < (18446744073709551616 : Int); omega), wrap_id64 (G l 12 2 * 65536 + l.getD 11 0) (by omega) (by show _ < (18446744073709551616 : Int); omega), e]
theorem G_11_3 (l : List Int) : G l 11 3 = G l 12 3 := rfl
theorem G_12_0 (l : List Int) : G l 12 0 = G l 13 0 := by rw [G_out l _ _ (by decide), G_out l _ _ (by decide)]
theorem G_12_1 (l : List Int) : G l 12 1 = G l 13 1 := by rw [G_out l _ _ (by decide), G_out l _ _ (by decide)]
theorem G_12_2 (l : List Int) : G l 12 2 = G l 13 2 := by rw [G_out l _ _ (by decide), G_out l _ _ (by decide)]
theorem G_12_3 (l : List Int) (h : Dg l) : G l 12 3 = G l 13 3 * 65536 + l.getD 12 0 ∧ IntKind.u64.wrap (IntKind.u64.wrap (G l 13 3 * 65536) + l.getD 12 0) = G l 12 3 := by
  have e : G l 12 3 = G l 13 3 * 65536 + l.getD 12 0 := by
    show val _ = val _ * 65536 + _
    (simp [val]; try omega)
  have u := G_u l h 12 3
  have d := h.getD 12
  have u1 := G_u l h 13 3
  refine ⟨e, ?_⟩
  unfold U64 at u u1
  rw [wrap_id64 (G l 13 3 * 65536) (by omega) (by show _ < (18446744073709551616 : Int); omega), wrap_id64 (G l 13 3 * 65536 + l.getD 12 0) (by omega) (by show _ < (18446744073709551616 : Int); omega), e]
theorem G_13_0 (l : List Int) : G l 13 0 = G l 14 0 := by rw [G_out l _ _ (by decide), G_out l _ _ (by decide)]
theorem G_13_1 (l : List Int) : G l 13 1 = G l 14 1 := by rw [G_out l _ _ (by decide), G_out l _ _ (by decide)]
theorem G_13_2 (l : List Int) : G l 13 2 = G l 14 2 := by rw [G_out l _ _ (by decide), G_out l _ _ (by decide)]
theorem G_13_3 (l : List Int) (h : Dg l) : G l 13 3 = G l 14 3 * 65536 + l.getD 13 0 ∧ IntKind.u64.wrap (IntKind.u64.wrap (G l 14 3 * 65536) + l.getD 13 0) = G l 13 3 := by
  have e : G l 13 3 = G l 14 3 * 65536 + l.getD 13 0 := by
    show val _ = val _ * 65536 + _
    (simp [val]; try omega)
  have u := G_u l h 13 3
  have d := h.getD 13
  have u1 := G_u l h 14 3
  refine ⟨e, ?_⟩
  unfold U64 at u u1
  rw [wrap_id64 (G l 14 3 * 65536) (by omega) (by show _ < (18446744073709551616 : Int); omega), wrap_id64 (G l 14 3 * 65536 + l.getD 13 0) (by omega) (by show _ < (18446744073709551616 : Int); omega), e]
theorem G_14_0 (l : List Int) : G l 14 0 = G l 15 0 := by rw [G_out l _ _ (by decide), G_out l _ _ (by decide)]
theorem G_14_1 (l : List Int) : G l 14 1 = G l 15 1 := by rw [G_out l _ _ (by decide), G_out l _ _ (by decide)]
theorem G_14_2 (l : List Int) : G l 14 2 = G l 15 2 := by rw [G_out l _ _ (by decide), G_out l _ _ (by decide)]
theorem G_14_3 (l : List Int) (h : Dg l) : G l 14 3 = G l 15 3 * 65536 + l.getD 14 0 ∧ IntKind.u64.wrap (IntKind.u64.wrap (G l 15 3 * 65536) + l.getD 14 0) = G l 14 3 := by
  have e : G l 14 3 = G l 15 3 * 65536 + l.getD 14 0 := by
    show val _ = val _ * 65536 + _
    (simp [val]; try omega)
  have u := G_u l h 14 3
  have d := h.getD 14
  have u1 := G_u l h 15 3
  refine ⟨e, ?_⟩
  unfold U64 at u u1
  rw [wrap_id64 (G l 15 3 * 65536) (by omega) (by show _ < (18446744073709551616 : Int); omega), wrap_id64 (G l 15 3 * 65536 + l.getD 14 0) (by omega) (by show _ < (18446744073709551616 : Int); omega), e]
theorem G_15_0 (l : List Int) : G l 15 0 = G l 16 0 := by rw [G_out l _ _ (by decide), G_out l _ _ (by decide)]
theorem G_15_1 (l : List Int) : G l 15 1 = G l 16 1 := by rw [G_out l _ _ (by decide), G_out l _ _ (by decide)]
theorem G_15_2 (l : List Int) : G l 15 2 = G l 16 2 := by rw [G_out l _ _ (by decide), G_out l _ _ (by decide)]
theorem G_15_3 (l : List Int) (h : Dg l) : G l 15 3 = G l 16 3 * 65536 + l.getD 15 0 ∧ IntKind.u64.wrap (IntKind.u64.wrap (G l 16 3 * 65536) + l.getD 15 0) = G l 15 3 := by
  have e : G l 15 3 = G l 16 3 * 65536 + l.getD 15 0 := by
    show val _ = val _ * 65536 + _
    (simp [val]; try omega)
  have u := G_u l h 15 3
  have d := h.getD 15
  have u1 := G_u l h 16 3
  refine ⟨e, ?_⟩
  unfold U64 at u u1
  rw [wrap_id64 (G l 16 3 * 65536) (by omega) (by show _ < (18446744073709551616 : Int); omega), wrap_id64 (G l 16 3 * 65536 + l.getD 15 0) (by omega) (by show _ < (18446744073709551616 : Int); omega), e]
theorem G_val (l : List Int) (hl : l.length ≤ 16) (hd : Dg l) : L0 (val l) = G l 0 0 ∧ L1 (val l) = G l 0 1 ∧ L2 (val l) = G l 0 2 ∧ L3 (val l) = G l 0 3 := by
  have e : val l = V4 (G l 0 0) (G l 0 1) (G l 0 2) (G l 0 3) := by
    have e0 : val l = val (l.drop 0) := rfl
    rw [e0]
    have d0 : val (l.drop 0) = l.getD 0 0 + 65536 * val (l.drop 1) := val_drop l 0
    have d1 : val (l.drop 1) = l.getD 1 0 + 65536 * val (l.drop 2) := val_drop l 1
    have d2 : val (l.drop 2) = l.getD 2 0 + 65536 * val (l.drop 3) := val_drop l 2
    have d3 : val (l.drop 3) = l.getD 3 0 + 65536 * val (l.drop 4) := val_drop l 3
    have d4 : val (l.drop 4) = l.getD 4 0 + 65536 * val (l.drop 5) := val_drop l 4
    have d5 : val (l.drop 5) = l.getD 5 0 + 65536 * val (l.drop 6) := val_drop l 5
    have d6 : val (l.drop 6) = l.getD 6 0 + 65536 * val (l.drop 7) := val_drop l 6
    have d7 : val (l.drop 7) = l.getD 7 0 + 65536 * val (l.drop 8) := val_drop l 7
    have d8 : val (l.drop 8) = l.getD 8 0 + 65536 * val (l.drop 9) := val_drop l 8
    have d9 : val (l.drop 9) = l.getD 9 0 + 65536 * val (l.drop 10) := val_drop l 9
    have d10 : val (l.drop 10) = l.getD 10 0 + 65536 * val (l.drop 11) := val_drop l 10
    have d11 : val (l.drop 11) = l.getD 11 0 + 65536 * val (l.drop 12) := val_drop l 11
    have d12 : val (l.drop 12) = l.getD 12 0 + 65536 * val (l.drop 13) := val_drop l 12
    have d13 : val (l.drop 13) = l.getD 13 0 + 65536 * val (l.drop 14) := val_drop l 13
    have d14 : val (l.drop 14) = l.getD 14 0 + 65536 * val (l.drop 15) := val_drop l 14
    have d15 : val (l.drop 15) = l.getD 15 0 + 65536 * val (l.drop 16) := val_drop l 15
    have dz : val (l.drop 16) = 0 := val_drop_len l 16 hl
    unfold V4 G
    simp only [val, List.drop_zero, Nat.zero_sub, Nat.mul_zero, Nat.zero_add, Nat.mul_one]
    simp only [show 4 + 1 = 5 from rfl, show 4 + 2 = 6 from rfl, show 4 + 3 = 7 from rfl, show 4 * 2 = 8 from rfl, show 8 + 1 = 9 from rfl, show 8 + 2 = 10 from rfl, show 8 + 3 = 11 from rfl, show 4 * 3 = 12 from rfl, show 12 + 1 = 13 from rfl, show 12 + 2 = 14 from rfl, show 12 + 3 = 15 from rfl]
    omega
  have u0 := G_u l hd 0 0
  have u1 := G_u l hd 0 1
  have u2 := G_u l hd 0 2
  have u3 := G_u l hd 0 3
  rw [e]
  exact ⟨L0_V u0, L1_V u0 u1, L2_V u0 u1 u2, L3_V u0 u1 u2 u3⟩
end Go.Proofs.Ytgjdegahofoalaa.RN

/- sponsionref02.Int: the number of digits, if it has at most 256 bits. -/
namespace Go.Proofs.Ytgjdegahofoalaa.RN
open Go.RowKit Go.Proofs.YtgjdegahofoalaaW.PrintWords
open PDiv RefMul
set_option maxHeartbeats 8000000 in
set_option maxRecDepth 100000 in
theorem int_over {w : World} {v : Value} {n : Int} (h : RowV w v n) (hn : B16 16 ≤ n) : Calls Try.prog 21 #[v] w
    fun e w' => e = .returned (.tuple #[.agg #[.int .u64 0, .int .u64 0, .int .u64 0, .int .u64 0], .bool false]) ∧ Below w.heap.size w w' := by
  go_enter Try.func21, Try.ntmps21
  go_wp2_with (go_at_call 36; refine (trim_rowV (h.alloc _)).mono ?_; rintro e w1 ⟨v1, rfl, hr, hb1⟩; obtain ⟨hcl1, hfz1⟩ := bcell hb1; have hz1 := hb1.size; simp [go_sem] at hz1; have hz1' : w.heap.size < w1.heap.size := (by omega); obtain ⟨l, hc, hv, hl, hR⟩ := hr; have hlen : 16 < l.length := (by have h1 := (can_len_iff hc 16); omega); clear hc hv hl; obtain ⟨A1, c1, rfl, hc1, hC⟩ := Kd.R_reads hR; clear hR hC)
  refine bodyPost_ret (v := .tuple #[.agg #[.int .u64 0, .int .u64 0, .int .u64 0, .int .u64 0], .bool false]) (by simp [results, Try.results21, go_sem, *]) rfl ⟨rfl, ?_⟩
  repeat (first | with_reducible exact Below.refl _ _ | (with_reducible assumption) | with_reducible apply bdrewN | with_reducible apply below_drew1 | with_reducible apply below_al | ((with_reducible refine below_set ?_ ?_); focus (first | omega | (simp [go_sem]; done) | (simp [go_sem]; omega))) | with_reducible refine below_then ?_ hb1)
theorem cells_of_R {w : World} {B : Nat} {ok : Nat → Prop} {v : Value} {l : List Int} (h : Kd.R (Kd.int .i64) 3 w B ok v l) :
    ∃ A c, v = .slice A l.length c ∧ l.length ≤ c ∧ ∀ j, j < l.length → ∃ g, A = some ⟨g, 0, none⟩ ∧ g < w.heap.size ∧ w.cell? ⟨g, j, none⟩ = some (.int .i64 (l.getD j 0)) := by
  obtain ⟨A, c, rfl, hc, hC⟩ := Kd.R_reads h
  refine ⟨A, c, rfl, hc, fun j hj => ?_⟩
  obtain ⟨g, cap, e, _, hg, _⟩ := Kd.R_form h (by omega)
  injection e with e1 e2 e3
  subst e1
  subst e3
  have hk := (Kd.R_celln 0 h (j : Int) (by omega) (by omega)).1
  refine ⟨g, rfl, hg, ?_⟩
  rw [Int.toNat_natCast] at hk
  rw [hk]
  show some (Value.int .i64 (rdOf 0 l (j : Int))) = _
  unfold rdOf
  rw [Int.toNat_natCast]
set_option maxHeartbeats 16000000 in
set_option maxRecDepth 100000 in
theorem int_fits {w : World} {v : Value} {n : Int} (h : RowV w v n) (hn : n < B16 16) : Calls Try.prog 21 #[v] w
    fun e w' => e = .returned (.tuple #[.agg #[.int .u64 (L0 n), .int .u64 (L1 n), .int .u64 (L2 n), .int .u64 (L3 n)], .bool true]) ∧ Below w.heap.size w w' := by
  go_enter Try.func21, Try.ntmps21
  go_wp2_with (go_at_call 36; refine (trim_rowV (h.alloc _)).mono ?_; rintro e w1 ⟨v1, rfl, hr, hb1⟩; obtain ⟨hcl1, hfz1⟩ := bcell hb1; have hz1 := hb1.size; simp [go_sem] at hz1; have hz1' : w.heap.size < w1.heap.size := (by omega); obtain ⟨l, hc, hv, hl, hR⟩ := hr; have hlen : l.length ≤ 16 := (by have h1 := (can_len_iff hc 16); omega); obtain ⟨A1, c1, rfl, hc1, hC⟩ := cells_of_R hR; have HC := Aside0.mk hC; have HV := Aside0.mk (G_val l hlen hc.1); have HD := Aside0.mk hc.1; have HN := Aside0.mk hv; clear hR hC hc hv hl hc1)
  have HK0 : Aside0 (BlkAt (w1.alloc (.cells #[.int .u64 0, .int .u64 0, .int .u64 0, .int .u64 0] 24)) w1.heap.size #[.int .u64 (G l l.length 0), .int .u64 (G l l.length 1), .int .u64 (G l l.length 2), .int .u64 (G l l.length 3)] 24) := ⟨by rw [G_len, G_len, G_len, G_len]; exact blk_new rfl⟩
  have HB0 : Aside0 (Below w1.heap.size w1 (w1.alloc (.cells #[.int .u64 0, .int .u64 0, .int .u64 0, .int .u64 0] 24))) := ⟨(Below.refl _ _).alloc (Nat.le_refl _) _⟩
  go_loopw [5] (fun v5 w' => ∃ i : Nat, i ≤ l.length ∧ v5 = .int .i64 ((i : Int) - 1) ∧ Aside0 (BlkAt w' w1.heap.size #[.int .u64 (G l i 0), .int .u64 (G l i 1), .int .u64 (G l i 2), .int .u64 (G l i 3)] 24) ∧ Aside0 (Below w1.heap.size w1 w')) (fun v5 _ => (intOf v5 + 1).toNat)
  case atStart => exact ⟨l.length, Nat.le_refl _, rfl, HK0, HB0⟩
  case round =>
    clear HK0 HB0
    obtain ⟨i, hi, rfl, HK, HB⟩ := hrel
    obtain ⟨hclr, hfzr⟩ := bcell HB.out
    have hzr := HB.out.size
    by_cases hi0 : i = 0
    · subst hi0
      have e0 : ((0 : Nat) : Int) - 1 = -1 := rfl
      rw [e0]
      obtain ⟨q0, q1, q2, q3, f0, f1, f2, f3⟩ := blk_facts4 HK.out
      have hwr : w.heap.size < wr.heap.size := by omega
      go_wp2_with fail
      refine bodyPost_ret (v := .tuple #[.agg #[.int .u64 (G l 0 0), .int .u64 (G l 0 1), .int .u64 (G l 0 2), .int .u64 (G l 0 3)], .bool true]) (by simp [results, Try.results21, go_sem, *]) rfl ⟨?_, ?_⟩
      · rw [← HN.out, HV.out.1, HV.out.2.1, HV.out.2.2.1, HV.out.2.2.2]
      · have hb2 := HB.out
        repeat (first | with_reducible exact Below.refl _ _ | (with_reducible assumption) | with_reducible apply bdrewN | with_reducible apply below_drew1 | with_reducible apply below_al | ((with_reducible refine below_set ?_ ?_); focus (first | omega | (simp [go_sem]; done) | (simp [go_sem]; omega))) | with_reducible refine below_then ?_ hb2 | with_reducible refine below_then ?_ hb1)
    · obtain ⟨j, rfl⟩ : ∃ j, i = j + 1 := ⟨i - 1, by omega⟩
      clear hi0
      obtain ⟨g, rfl, hg, hcell⟩ := HC.out j (by omega)
      have hcg := (hclr g j hg).trans hcell
      clear hcell HC HV HN hcl1 hfz1 hclr hfzr
      have hd := HD.out.getD j
      have hgne : ¬ g = w1.heap.size := by omega
      have hgw : g < wr.heap.size := by omega
      have hww := blk_lt HK.out
      obtain HJ : j = 0 ∨ j = 1 ∨ j = 2 ∨ j = 3 ∨ j = 4 ∨ j = 5 ∨ j = 6 ∨ j = 7 ∨ j = 8 ∨ j = 9 ∨ j = 10 ∨ j = 11 ∨ j = 12 ∨ j = 13 ∨ j = 14 ∨ j = 15 := by omega
      rcases HJ with rfl | rfl | rfl | rfl | rfl | rfl | rfl | rfl | rfl | rfl | rfl | rfl | rfl | rfl | rfl | rfl
      · have e0 : ((0 + 1 : Nat) : Int) - 1 = 0 := rfl
        rw [e0]
        clear e0
        have ew : IntKind.i64.wrap 0 = 0 := by decide
        have hjl : (0 : Int) < (l.length : Int) := by omega
        have hjl' : 0 < l.length := by omega
        have hG := (G_0_0 l HD.out).2
        obtain ⟨q0, q1, q2, q3, f0, f1, f2, f3⟩ := blk_facts4 HK.out
        clear hd
        have hd := HD.out.getD 0
        have uG := G_u l HD.out 1 0
        unfold U64 at uG
        generalize l.getD 0 0 = dj at hcg hd hG
        have ewd : IntKind.u64.wrap dj = dj := wrap_id64 _ hd.1 (by have := hd.2; show _ < (18446744073709551616 : Int); omega)
        go_wp2_with fail
        refine wp_region_still_tail_drew 14 (by kernel_rfl) (by kernel_rfl) ?_
        simp only [List.take_succ_cons, List.take_zero, List.drop_succ_cons, List.drop_zero]
        repeat still_step
        refine wpStill_nil ?_
        go_wp2_with fail
        go_roundw
        case measure => simp [intOf]
        case rel => exact ⟨0, by omega, rfl, ⟨by rw [G_0_1 l, G_0_2 l, G_0_3 l]; exact blk_drew (blk_put HK.out rfl)⟩, ⟨Go.Proofs.Ytgjdegahofoalaa.below_drew1 (Go.Proofs.Ytgjdegahofoalaa.below_set (Nat.le_refl _) HB.out)⟩⟩
      · have e0 : ((1 + 1 : Nat) : Int) - 1 = 1 := rfl
        rw [e0]
        clear e0
        have ew : IntKind.i64.wrap 0 = 0 := by decide
        have hjl : (1 : Int) < (l.length : Int) := by omega
        have hjl' : 1 < l.length := by omega
        have hG := (G_1_0 l HD.out).2
        obtain ⟨q0, q1, q2, q3, f0, f1, f2, f3⟩ := blk_facts4 HK.out
        clear hd
        have hd := HD.out.getD 1
        have uG := G_u l HD.out 2 0
        unfold U64 at uG
        generalize l.getD 1 0 = dj at hcg hd hG
        have ewd : IntKind.u64.wrap dj = dj := wrap_id64 _ hd.1 (by have := hd.2; show _ < (18446744073709551616 : Int); omega)
        go_wp2_with fail
        refine wp_region_still_tail_drew 14 (by kernel_rfl) (by kernel_rfl) ?_
        simp only [List.take_succ_cons, List.take_zero, List.drop_succ_cons, List.drop_zero]
        repeat still_step
        refine wpStill_nil ?_
        go_wp2_with fail
        go_roundw
        case measure => simp [intOf]
        case rel => exact ⟨1, by omega, rfl, ⟨by rw [G_1_1 l, G_1_2 l, G_1_3 l]; exact blk_drew (blk_put HK.out rfl)⟩, ⟨Go.Proofs.Ytgjdegahofoalaa.below_drew1 (Go.Proofs.Ytgjdegahofoalaa.below_set (Nat.le_refl _) HB.out)⟩⟩
      · have e0 : ((2 + 1 : Nat) : Int) - 1 = 2 := rfl
        rw [e0]
        clear e0
        have ew : IntKind.i64.wrap 0 = 0 := by decide
        have hjl : (2 : Int) < (l.length : Int) := by omega
        have hjl' : 2 < l.length := by omega
        have hG := (G_2_0 l HD.out).2
        obtain ⟨q0, q1, q2, q3, f0, f1, f2, f3⟩ := blk_facts4 HK.out
        clear hd
        have hd := HD.out.getD 2
        have uG := G_u l HD.out 3 0
        unfold U64 at uG
        generalize l.getD 2 0 = dj at hcg hd hG
        have ewd : IntKind.u64.wrap dj = dj := wrap_id64 _ hd.1 (by have := hd.2; show _ < (18446744073709551616 : Int); omega)
        go_wp2_with fail
        refine wp_region_still_tail_drew 14 (by kernel_rfl) (by kernel_rfl) ?_
        simp only [List.take_succ_cons, List.take_zero, List.drop_succ_cons, List.drop_zero]
        repeat still_step
        refine wpStill_nil ?_
        go_wp2_with fail
        go_roundw
        case measure => simp [intOf]
        case rel => exact ⟨2, by omega, rfl, ⟨by rw [G_2_1 l, G_2_2 l, G_2_3 l]; exact blk_drew (blk_put HK.out rfl)⟩, ⟨Go.Proofs.Ytgjdegahofoalaa.below_drew1 (Go.Proofs.Ytgjdegahofoalaa.below_set (Nat.le_refl _) HB.out)⟩⟩
      · have e0 : ((3 + 1 : Nat) : Int) - 1 = 3 := rfl
        rw [e0]
        clear e0
        have ew : IntKind.i64.wrap 0 = 0 := by decide
        have hjl : (3 : Int) < (l.length : Int) := by omega
        have hjl' : 3 < l.length := by omega
        have hG := (G_3_0 l HD.out).2
        obtain ⟨q0, q1, q2, q3, f0, f1, f2, f3⟩ := blk_facts4 HK.out
        clear hd
        have hd := HD.out.getD 3
        have uG := G_u l HD.out 4 0
        unfold U64 at uG
        generalize l.getD 3 0 = dj at hcg hd hG
        have ewd : IntKind.u64.wrap dj = dj := wrap_id64 _ hd.1 (by have := hd.2; show _ < (18446744073709551616 : Int); omega)
        go_wp2_with fail
        refine wp_region_still_tail_drew 14 (by kernel_rfl) (by kernel_rfl) ?_
        simp only [List.take_succ_cons, List.take_zero, List.drop_succ_cons, List.drop_zero]
        repeat still_step
        refine wpStill_nil ?_
        go_wp2_with fail
        go_roundw
        case measure => simp [intOf]
        case rel => exact ⟨3, by omega, rfl, ⟨by rw [G_3_1 l, G_3_2 l, G_3_3 l]; exact blk_drew (blk_put HK.out rfl)⟩, ⟨Go.Proofs.Ytgjdegahofoalaa.below_drew1 (Go.Proofs.Ytgjdegahofoalaa.below_set (Nat.le_refl _) HB.out)⟩⟩
      · have e0 : ((4 + 1 : Nat) : Int) - 1 = 4 := rfl
        rw [e0]
        clear e0
        have ew : IntKind.i64.wrap 1 = 1 := by decide
        have hjl : (4 : Int) < (l.length : Int) := by omega
        have hjl' : 4 < l.length := by omega
        have hG := (G_4_1 l HD.out).2
        obtain ⟨q0, q1, q2, q3, f0, f1, f2, f3⟩ := blk_facts4 HK.out
        clear hd
        have hd := HD.out.getD 4
        have uG := G_u l HD.out 5 1
        unfold U64 at uG
        generalize l.getD 4 0 = dj at hcg hd hG
        have ewd : IntKind.u64.wrap dj = dj := wrap_id64 _ hd.1 (by have := hd.2; show _ < (18446744073709551616 : Int); omega)
        go_wp2_with fail
        refine wp_region_still_tail_drew 14 (by kernel_rfl) (by kernel_rfl) ?_
        simp only [List.take_succ_cons, List.take_zero, List.drop_succ_cons, List.drop_zero]
        repeat still_step
        refine wpStill_nil ?_
        go_wp2_with fail
        go_roundw
        case measure => simp [intOf]
        case rel => exact ⟨4, by omega, rfl, ⟨by rw [G_4_0 l, G_4_2 l, G_4_3 l]; exact blk_drew (blk_put HK.out rfl)⟩, ⟨Go.Proofs.Ytgjdegahofoalaa.below_drew1 (Go.Proofs.Ytgjdegahofoalaa.below_set (Nat.le_refl _) HB.out)⟩⟩
      · have e0 : ((5 + 1 : Nat) : Int) - 1 = 5 := rfl
        rw [e0]
        clear e0
        have ew : IntKind.i64.wrap 1 = 1 := by decide
        have hjl : (5 : Int) < (l.length : Int) := by omega
        have hjl' : 5 < l.length := by omega
        have hG := (G_5_1 l HD.out).2
        obtain ⟨q0, q1, q2, q3, f0, f1, f2, f3⟩ := blk_facts4 HK.out
        clear hd
        have hd := HD.out.getD 5
        have uG := G_u l HD.out 6 1
        unfold U64 at uG
        generalize l.getD 5 0 = dj at hcg hd hG
        have ewd : IntKind.u64.wrap dj = dj := wrap_id64 _ hd.1 (by have := hd.2; show _ < (18446744073709551616 : Int); omega)
        go_wp2_with fail
        refine wp_region_still_tail_drew 14 (by kernel_rfl) (by kernel_rfl) ?_
        simp only [List.take_succ_cons, List.take_zero, List.drop_succ_cons, List.drop_zero]
        repeat still_step
        refine wpStill_nil ?_
        go_wp2_with fail
        go_roundw
        case measure => simp [intOf]
        case rel => exact ⟨5, by omega, rfl, ⟨by rw [G_5_0 l, G_5_2 l, G_5_3 l]; exact blk_drew (blk_put HK.out rfl)⟩, ⟨Go.Proofs.Ytgjdegahofoalaa.below_drew1 (Go.Proofs.Ytgjdegahofoalaa.below_set (Nat.le_refl _) HB.out)⟩⟩
      · have e0 : ((6 + 1 : Nat) : Int) - 1 = 6 := rfl
        rw [e0]
        clear e0
        have ew : IntKind.i64.wrap 1 = 1 := by decide
        have hjl : (6 : Int) < (l.length : Int) := by omega
        have hjl' : 6 < l.length := by omega
        have hG := (G_6_1 l HD.out).2
        obtain ⟨q0, q1, q2, q3, f0, f1, f2, f3⟩ := blk_facts4 HK.out
        clear hd
        have hd := HD.out.getD 6
        have uG := G_u l HD.out 7 1
        unfold U64 at uG
        generalize l.getD 6 0 = dj at hcg hd hG
        have ewd : IntKind.u64.wrap dj = dj := wrap_id64 _ hd.1 (by have := hd.2; show _ < (18446744073709551616 : Int); omega)
        go_wp2_with fail
        refine wp_region_still_tail_drew 14 (by kernel_rfl) (by kernel_rfl) ?_
        simp only [List.take_succ_cons, List.take_zero, List.drop_succ_cons, List.drop_zero]
        repeat still_step
        refine wpStill_nil ?_
        go_wp2_with fail
        go_roundw
        case measure => simp [intOf]
        case rel => exact ⟨6, by omega, rfl, ⟨by rw [G_6_0 l, G_6_2 l, G_6_3 l]; exact blk_drew (blk_put HK.out rfl)⟩, ⟨Go.Proofs.Ytgjdegahofoalaa.below_drew1 (Go.Proofs.Ytgjdegahofoalaa.below_set (Nat.le_refl _) HB.out)⟩⟩
      · have e0 : ((7 + 1 : Nat) : Int) - 1 = 7 := rfl
        rw [e0]
        clear e0
        have ew : IntKind.i64.wrap 1 = 1 := by decide
        have hjl : (7 : Int) < (l.length : Int) := by omega
        have hjl' : 7 < l.length := by omega
        have hG := (G_7_1 l HD.out).2
        obtain ⟨q0, q1, q2, q3, f0, f1, f2, f3⟩ := blk_facts4 HK.out
        clear hd
        have hd := HD.out.getD 7
        have uG := G_u l HD.out 8 1
        unfold U64 at uG
        generalize l.getD 7 0 = dj at hcg hd hG
        have ewd : IntKind.u64.wrap dj = dj := wrap_id64 _ hd.1 (by have := hd.2; show _ < (18446744073709551616 : Int); omega)
        go_wp2_with fail
        refine wp_region_still_tail_drew 14 (by kernel_rfl) (by kernel_rfl) ?_
        simp only [List.take_succ_cons, List.take_zero, List.drop_succ_cons, List.drop_zero]
        repeat still_step
        refine wpStill_nil ?_
        go_wp2_with fail
        go_roundw
        case measure => simp [intOf]
        case rel => exact ⟨7, by omega, rfl, ⟨by rw [G_7_0 l, G_7_2 l, G_7_3 l]; exact blk_drew (blk_put HK.out rfl)⟩, ⟨Go.Proofs.Ytgjdegahofoalaa.below_drew1 (Go.Proofs.Ytgjdegahofoalaa.below_set (Nat.le_refl _) HB.out)⟩⟩
      · have e0 : ((8 + 1 : Nat) : Int) - 1 = 8 := rfl
        rw [e0]
        clear e0
        have ew : IntKind.i64.wrap 2 = 2 := by decide
        have hjl : (8 : Int) < (l.length : Int) := by omega
        have hjl' : 8 < l.length := by omega
        have hG := (G_8_2 l HD.out).2
        obtain ⟨q0, q1, q2, q3, f0, f1, f2, f3⟩ := blk_facts4 HK.out
        clear hd
        have hd := HD.out.getD 8
        have uG := G_u l HD.out 9 2
        unfold U64 at uG
        generalize l.getD 8 0 = dj at hcg hd hG
        have ewd : IntKind.u64.wrap dj = dj := wrap_id64 _ hd.1 (by have := hd.2; show _ < (18446744073709551616 : Int); omega)
        go_wp2_with fail
        refine wp_region_still_tail_drew 14 (by kernel_rfl) (by kernel_rfl) ?_
        simp only [List.take_succ_cons, List.take_zero, List.drop_succ_cons, List.drop_zero]
        repeat still_step
        refine wpStill_nil ?_
        go_wp2_with fail
        go_roundw
        case measure => simp [intOf]
        case rel => exact ⟨8, by omega, rfl, ⟨by rw [G_8_0 l, G_8_1 l, G_8_3 l]; exact blk_drew (blk_put HK.out rfl)⟩, ⟨Go.Proofs.Ytgjdegahofoalaa.below_drew1 (Go.Proofs.Ytgjdegahofoalaa.below_set (Nat.le_refl _) HB.out)⟩⟩
      · have e0 : ((9 + 1 : Nat) : Int) - 1 = 9 := rfl
        rw [e0]
        clear e0
        have ew : IntKind.i64.wrap 2 = 2 := by decide
        have hjl : (9 : Int) < (l.length : Int) := by omega
        have hjl' : 9 < l.length := by omega
        have hG := (G_9_2 l HD.out).2
        obtain ⟨q0, q1, q2, q3, f0, f1, f2, f3⟩ := blk_facts4 HK.out
        clear hd
        have hd := HD.out.getD 9
        have uG := G_u l HD.out 10 2
        unfold U64 at uG
        generalize l.getD 9 0 = dj at hcg hd hG
        have ewd : IntKind.u64.wrap dj = dj := wrap_id64 _ hd.1 (by have := hd.2; show _ < (18446744073709551616 : Int); omega)
        go_wp2_with fail
        refine wp_region_still_tail_drew 14 (by kernel_rfl) (by kernel_rfl) ?_
        simp only [List.take_succ_cons, List.take_zero, List.drop_succ_cons, List.drop_zero]
        repeat still_step
        refine wpStill_nil ?_
        go_wp2_with fail
        go_roundw
        case measure => simp [intOf]
        case rel => exact ⟨9, by omega, rfl, ⟨by rw [G_9_0 l, G_9_1 l, G_9_3 l]; exact blk_drew (blk_put HK.out rfl)⟩, ⟨Go.Proofs.Ytgjdegahofoalaa.below_drew1 (Go.Proofs.Ytgjdegahofoalaa.below_set (Nat.le_refl _) HB.out)⟩⟩
      · have e0 : ((10 + 1 : Nat) : Int) - 1 = 10 := rfl
        rw [e0]
        clear e0
        have ew : IntKind.i64.wrap 2 = 2 := by decide
        have hjl : (10 : Int) < (l.length : Int) := by omega
        have hjl' : 10 < l.length := by omega
        have hG := (G_10_2 l HD.out).2
        obtain ⟨q0, q1, q2, q3, f0, f1, f2, f3⟩ := blk_facts4 HK.out
        clear hd
        have hd := HD.out.getD 10
        have uG := G_u l HD.out 11 2
        unfold U64 at uG
        generalize l.getD 10 0 = dj at hcg hd hG
        have ewd : IntKind.u64.wrap dj = dj := wrap_id64 _ hd.1 (by have := hd.2; show _ < (18446744073709551616 : Int); omega)
        go_wp2_with fail
        refine wp_region_still_tail_drew 14 (by kernel_rfl) (by kernel_rfl) ?_
        simp only [List.take_succ_cons, List.take_zero, List.drop_succ_cons, List.drop_zero]
        repeat still_step
        refine wpStill_nil ?_
        go_wp2_with fail
        go_roundw
        case measure => simp [intOf]
        case rel => exact ⟨10, by omega, rfl, ⟨by rw [G_10_0 l, G_10_1 l, G_10_3 l]; exact blk_drew (blk_put HK.out rfl)⟩, ⟨Go.Proofs.Ytgjdegahofoalaa.below_drew1 (Go.Proofs.Ytgjdegahofoalaa.below_set (Nat.le_refl _) HB.out)⟩⟩
      · have e0 : ((11 + 1 : Nat) : Int) - 1 = 11 := rfl
        rw [e0]
        clear e0
        have ew : IntKind.i64.wrap 2 = 2 := by decide
        have hjl : (11 : Int) < (l.length : Int) := by omega
        have hjl' : 11 < l.length := by omega
        have hG := (G_11_2 l HD.out).2
        obtain ⟨q0, q1, q2, q3, f0, f1, f2, f3⟩ := blk_facts4 HK.out
        clear hd
        have hd := HD.out.getD 11
        have uG := G_u l HD.out 12 2
        unfold U64 at uG
        generalize l.getD 11 0 = dj at hcg hd hG
        have ewd : IntKind.u64.wrap dj = dj := wrap_id64 _ hd.1 (by have := hd.2; show _ < (18446744073709551616 : Int); omega)
        go_wp2_with fail
        refine wp_region_still_tail_drew 14 (by kernel_rfl) (by kernel_rfl) ?_
        simp only [List.take_succ_cons, List.take_zero, List.drop_succ_cons, List.drop_zero]
        repeat still_step
        refine wpStill_nil ?_
        go_wp2_with fail
        go_roundw
        case measure => simp [intOf]
        case rel => exact ⟨11, by omega, rfl, ⟨by rw [G_11_0 l, G_11_1 l, G_11_3 l]; exact blk_drew (blk_put HK.out rfl)⟩, ⟨Go.Proofs.Ytgjdegahofoalaa.below_drew1 (Go.Proofs.Ytgjdegahofoalaa.below_set (Nat.le_refl _) HB.out)⟩⟩
      · have e0 : ((12 + 1 : Nat) : Int) - 1 = 12 := rfl
        rw [e0]
        clear e0
        have ew : IntKind.i64.wrap 3 = 3 := by decide
        have hjl : (12 : Int) < (l.length : Int) := by omega
        have hjl' : 12 < l.length := by omega
        have hG := (G_12_3 l HD.out).2
        obtain ⟨q0, q1, q2, q3, f0, f1, f2, f3⟩ := blk_facts4 HK.out
        clear hd
        have hd := HD.out.getD 12
        have uG := G_u l HD.out 13 3
        unfold U64 at uG
        generalize l.getD 12 0 = dj at hcg hd hG
        have ewd : IntKind.u64.wrap dj = dj := wrap_id64 _ hd.1 (by have := hd.2; show _ < (18446744073709551616 : Int); omega)
        go_wp2_with fail
        refine wp_region_still_tail_drew 14 (by kernel_rfl) (by kernel_rfl) ?_
        simp only [List.take_succ_cons, List.take_zero, List.drop_succ_cons, List.drop_zero]
        repeat still_step
        refine wpStill_nil ?_
        go_wp2_with fail
        go_roundw
        case measure => simp [intOf]
        case rel => exact ⟨12, by omega, rfl, ⟨by rw [G_12_0 l, G_12_1 l, G_12_2 l]; exact blk_drew (blk_put HK.out rfl)⟩, ⟨Go.Proofs.Ytgjdegahofoalaa.below_drew1 (Go.Proofs.Ytgjdegahofoalaa.below_set (Nat.le_refl _) HB.out)⟩⟩
      · have e0 : ((13 + 1 : Nat) : Int) - 1 = 13 := rfl
        rw [e0]
        clear e0
        have ew : IntKind.i64.wrap 3 = 3 := by decide
        have hjl : (13 : Int) < (l.length : Int) := by omega
        have hjl' : 13 < l.length := by omega
        have hG := (G_13_3 l HD.out).2
        obtain ⟨q0, q1, q2, q3, f0, f1, f2, f3⟩ := blk_facts4 HK.out
        clear hd
        have hd := HD.out.getD 13
        have uG := G_u l HD.out 14 3
        unfold U64 at uG
        generalize l.getD 13 0 = dj at hcg hd hG
        have ewd : IntKind.u64.wrap dj = dj := wrap_id64 _ hd.1 (by have := hd.2; show _ < (18446744073709551616 : Int); omega)
        go_wp2_with fail
        refine wp_region_still_tail_drew 14 (by kernel_rfl) (by kernel_rfl) ?_
        simp only [List.take_succ_cons, List.take_zero, List.drop_succ_cons, List.drop_zero]
        repeat still_step
        refine wpStill_nil ?_
        go_wp2_with fail
        go_roundw
        case measure => simp [intOf]
        case rel => exact ⟨13, by omega, rfl, ⟨by rw [G_13_0 l, G_13_1 l, G_13_2 l]; exact blk_drew (blk_put HK.out rfl)⟩, ⟨Go.Proofs.Ytgjdegahofoalaa.below_drew1 (Go.Proofs.Ytgjdegahofoalaa.below_set (Nat.le_refl _) HB.out)⟩⟩
      · have e0 : ((14 + 1 : Nat) : Int) - 1 = 14 := rfl
        rw [e0]
        clear e0
        have ew : IntKind.i64.wrap 3 = 3 := by decide
        have hjl : (14 : Int) < (l.length : Int) := by omega
        have hjl' : 14 < l.length := by omega
        have hG := (G_14_3 l HD.out).2
        obtain ⟨q0, q1, q2, q3, f0, f1, f2, f3⟩ := blk_facts4 HK.out
        clear hd
        have hd := HD.out.getD 14
        have uG := G_u l HD.out 15 3
        unfold U64 at uG
        generalize l.getD 14 0 = dj at hcg hd hG
        have ewd : IntKind.u64.wrap dj = dj := wrap_id64 _ hd.1 (by have := hd.2; show _ < (18446744073709551616 : Int); omega)
        go_wp2_with fail
        refine wp_region_still_tail_drew 14 (by kernel_rfl) (by kernel_rfl) ?_
        simp only [List.take_succ_cons, List.take_zero, List.drop_succ_cons, List.drop_zero]
        repeat still_step
        refine wpStill_nil ?_
        go_wp2_with fail
        go_roundw
        case measure => simp [intOf]
        case rel => exact ⟨14, by omega, rfl, ⟨by rw [G_14_0 l, G_14_1 l, G_14_2 l]; exact blk_drew (blk_put HK.out rfl)⟩, ⟨Go.Proofs.Ytgjdegahofoalaa.below_drew1 (Go.Proofs.Ytgjdegahofoalaa.below_set (Nat.le_refl _) HB.out)⟩⟩
      · have e0 : ((15 + 1 : Nat) : Int) - 1 = 15 := rfl
        rw [e0]
        clear e0
        have ew : IntKind.i64.wrap 3 = 3 := by decide
        have hjl : (15 : Int) < (l.length : Int) := by omega
        have hjl' : 15 < l.length := by omega
        have hG := (G_15_3 l HD.out).2
        obtain ⟨q0, q1, q2, q3, f0, f1, f2, f3⟩ := blk_facts4 HK.out
        clear hd
        have hd := HD.out.getD 15
        have uG := G_u l HD.out 16 3
        unfold U64 at uG
        generalize l.getD 15 0 = dj at hcg hd hG
        have ewd : IntKind.u64.wrap dj = dj := wrap_id64 _ hd.1 (by have := hd.2; show _ < (18446744073709551616 : Int); omega)
        go_wp2_with fail
        refine wp_region_still_tail_drew 14 (by kernel_rfl) (by kernel_rfl) ?_
        simp only [List.take_succ_cons, List.take_zero, List.drop_succ_cons, List.drop_zero]
        repeat still_step
        refine wpStill_nil ?_
        go_wp2_with fail
        go_roundw
        case measure => simp [intOf]
        case rel => exact ⟨15, by omega, rfl, ⟨by rw [G_15_0 l, G_15_1 l, G_15_2 l]; exact blk_drew (blk_put HK.out rfl)⟩, ⟨Go.Proofs.Ytgjdegahofoalaa.below_drew1 (Go.Proofs.Ytgjdegahofoalaa.below_set (Nat.le_refl _) HB.out)⟩⟩
end Go.Proofs.Ytgjdegahofoalaa.RN
