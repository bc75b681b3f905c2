/- Plain numbers as rows of digits of 16 bits, the lowest first. -/
import Derived.WalkKit
import Derived.Test.YtgjdegahofoalaaPDivA
import Derived.Test.YtgjdegahofoalaaRefMul
set_option linter.unusedVariables false
set_option linter.unusedSimpArgs false
namespace Go.Proofs.Ytgjdegahofoalaa.RN
open Go.RowKit

theorem gD_lt (l : List Int) (n : Nat) (h : n < l.length) : l.getD n 0 = l[n] := by simp [List.getD, h]
theorem gD_ge (l : List Int) (n : Nat) (h : l.length ≤ n) : l.getD n 0 = 0 := by simp [List.getD, h]
def val : List Int → Int
  | [] => 0
  | x :: l => x + 65536 * val l
def Dg (l : List Int) : Prop := ∀ x ∈ l, 0 ≤ x ∧ x < 65536
def Can (l : List Int) : Prop := Dg l ∧ ∀ n, l.length = n + 1 → l.getD n 0 ≠ 0
/-- 65536 to the n-th. -/
def B16 : Nat → Int
  | 0 => 1
  | n + 1 => 65536 * B16 n
theorem B16_pos (n : Nat) : 0 < B16 n := by
  induction n with
  | zero => decide
  | succ n ih => unfold B16; omega
theorem B16_mono {m n : Nat} (h : m ≤ n) : B16 m ≤ B16 n := by
  induction h with
  | refl => exact Int.le_refl _
  | @step k h ih => have h1 := B16_pos k; have h2 : B16 (k + 1) = 65536 * B16 k := rfl; rw [h2]; omega
theorem Dg.nil : Dg [] := fun _ h => by cases h
theorem Dg.cons {x : Int} {l : List Int} (h0 : 0 ≤ x) (h1 : x < 65536) (h : Dg l) : Dg (x :: l) := fun y hy => by
  rcases List.mem_cons.1 hy with rfl | hy
  · exact ⟨h0, h1⟩
  · exact h y hy
theorem Dg.tail {x : Int} {l : List Int} (h : Dg (x :: l)) : Dg l := fun y hy => h y (List.mem_cons_of_mem _ hy)
theorem Dg.head {x : Int} {l : List Int} (h : Dg (x :: l)) : 0 ≤ x ∧ x < 65536 := h x List.mem_cons_self
theorem Dg.append {a b : List Int} (ha : Dg a) (hb : Dg b) : Dg (a ++ b) := fun y hy => by
  rcases List.mem_append.1 hy with h | h
  · exact ha y h
  · exact hb y h
theorem Dg.take {a : List Int} (ha : Dg a) (n : Nat) : Dg (a.take n) := fun y hy => ha y (List.mem_of_mem_take hy)
theorem Dg.drop {a : List Int} (ha : Dg a) (n : Nat) : Dg (a.drop n) := fun y hy => ha y (List.mem_of_mem_drop hy)
theorem Dg.getD {a : List Int} (ha : Dg a) (n : Nat) : 0 ≤ a.getD n 0 ∧ a.getD n 0 < 65536 := by
  by_cases h : n < a.length
  · rw [gD_lt _ _ h]
    exact ha _ (List.getElem_mem h)
  · rw [gD_ge _ _ (by omega)]
    decide
theorem val_bd {l : List Int} (h : Dg l) : 0 ≤ val l ∧ val l < B16 l.length := by
  induction l with
  | nil => decide
  | cons x l ih =>
    have := ih h.tail
    have := h.head
    simp only [val, List.length_cons, B16]
    omega
theorem val_append (a b : List Int) : val (a ++ b) = val a + B16 a.length * val b := by
  induction a with
  | nil => simp [val, B16]
  | cons x a ih =>
    simp only [List.cons_append, val, ih, List.length_cons, B16]
    rw [Int.mul_assoc, Int.mul_add]
    omega
theorem val_split (l : List Int) (n : Nat) (hn : n ≤ l.length) : val l = val (l.take n) + B16 n * val (l.drop n) := by
  have h := val_append (l.take n) (l.drop n)
  rw [List.take_append_drop, List.length_take, Nat.min_eq_left hn] at h
  exact h
theorem val_drop (l : List Int) (n : Nat) : val (l.drop n) = l.getD n 0 + 65536 * val (l.drop (n + 1)) := by
  by_cases h : n < l.length
  · rw [List.drop_eq_getElem_cons h, gD_lt _ _ h]
    rfl
  · rw [List.drop_eq_nil_of_le (by omega), List.drop_eq_nil_of_le (by omega), gD_ge _ _ (by omega)]
    rfl
theorem val_snoc (a : List Int) (x : Int) : val (a ++ [x]) = val a + B16 a.length * x := by
  rw [val_append]
  simp [val]
theorem val_drop_len (l : List Int) (n : Nat) (h : l.length ≤ n) : val (l.drop n) = 0 := by
  rw [List.drop_eq_nil_of_le h]
  rfl
theorem val_take_succ (l : List Int) (n : Nat) (h : n < l.length) : val (l.take (n + 1)) = val (l.take n) + B16 n * l.getD n 0 := by
  rw [List.take_succ_eq_append_getElem h, val_snoc, List.length_take, Nat.min_eq_left (by omega), gD_lt _ _ h]
/-- Without a nought at the end: at least the power. -/
theorem can_low {l : List Int} (h : Can l) {n : Nat} (hn : l.length = n + 1) : B16 n ≤ val l := by
  have h1 := val_split l n (by omega)
  have h2 := val_drop l n
  rw [val_drop_len l (n + 1) (by omega)] at h2
  have h3 := h.2 n hn
  have h4 := h.1.getD n
  have h5 := (val_bd (h.1.take n)).1
  have h6 : B16 n * 1 ≤ B16 n * val (l.drop n) := Int.mul_le_mul_of_nonneg_left (by omega) (Int.le_of_lt (B16_pos n))
  omega
theorem can_len {l : List Int} (h : Can l) {n : Nat} (hv : val l < B16 n) : l.length ≤ n := by
  refine Nat.le_of_not_lt fun hlt => ?_
  obtain ⟨m, hm⟩ : ∃ m, l.length = m + 1 := ⟨l.length - 1, by omega⟩
  have h1 := can_low h hm
  have h2 := B16_mono (show n ≤ m by omega)
  omega
theorem can_len_iff {l : List Int} (h : Can l) (n : Nat) : l.length ≤ n ↔ val l < B16 n := by
  refine ⟨fun hl => ?_, can_len h⟩
  have h1 := (val_bd h.1).2
  have h2 := B16_mono hl
  omega
theorem can_nil {l : List Int} (h : Can l) : l = [] ↔ val l = 0 := by
  refine ⟨fun e => by rw [e]; rfl, fun e => ?_⟩
  have := can_len (n := 0) h (by rw [e]; decide)
  exact List.eq_nil_of_length_eq_zero (by omega)
theorem val_replicate (n : Nat) : val (List.replicate n 0) = 0 := by
  induction n with
  | zero => rfl
  | succ n ih => rw [List.replicate_succ, val, ih]; rfl
theorem dg_replicate (n : Nat) : Dg (List.replicate n 0) := fun x hx => by
  rw [List.eq_of_mem_replicate hx]
  decide
theorem dg_set {l : List Int} (h : Dg l) (i : Nat) {x : Int} (h0 : 0 ≤ x) (h1 : x < 65536) : Dg (l.set i x) := fun y hy => by
  rcases List.mem_or_eq_of_mem_set hy with hy | rfl
  · exact h y hy
  · exact ⟨h0, h1⟩
theorem val_set (l : List Int) (i : Nat) (x : Int) (h : i < l.length) : val (l.set i x) = val l + B16 i * (x - l.getD i 0) := by
  induction l generalizing i with
  | nil => simp at h
  | cons y l ih =>
    cases i with
    | zero => simp [val, B16]; omega
    | succ i =>
      have h' : i < l.length := by simpa using h
      simp only [List.set_cons_succ, val, ih i h', B16, List.getD_cons_succ]
      rw [Int.mul_assoc, Int.mul_add]
      omega
theorem getD_set_same (l : List Int) (i : Nat) (x : Int) (h : i < l.length) : (l.set i x).getD i 0 = x := by
  rw [gD_lt _ _ (by simpa using h)]
  simp
theorem getD_set_other (l : List Int) (i j : Nat) (x : Int) (h : i ≠ j) : (l.set i x).getD j 0 = l.getD j 0 := by
  simp [List.getD, List.getElem?_set_ne h]
end Go.Proofs.Ytgjdegahofoalaa.RN

/- The document's sums, differences and comparisons of rows of digits: what they answer. (Over the printed functions; no program.) -/
namespace Go.Proofs.Ytgjdegahofoalaa.RN
open Go.RowKit Go.Proofs.YtgjdegahofoalaaW.PrintWords
open PDiv

theorem rd_nat (l : List Int) (i : Nat) : rd l (i : Int) = l.getD i 0 := by unfold rd; rw [Int.toNat_natCast]
theorem wrap_of {x : Int} (h0 : -9223372036854775808 ≤ x) (h1 : x ≤ 9223372036854775807) : wrap64 x = x := by unfold wrap64; omega

/-! ### Trim -/
theorem trim_l0 (l : List Int) (hl : l.length ≤ 1000000) : ∀ (n k : Nat), n ≤ l.length → n < k →
    ∃ m, m ≤ n ∧ sponsionref01_Trim.l0 k l (n : Int) = some (l.take m) ∧ val (l.take m) = val (l.take n) ∧ ∀ j, m = j + 1 → l.getD j 0 ≠ 0 := by
  intro n
  induction n with
  | zero =>
    intro k hn hk
    obtain ⟨k, rfl⟩ : ∃ m, k = m + 1 := ⟨k - 1, by omega⟩
    refine ⟨0, Nat.le_refl _, ?_, rfl, fun j hj => by omega⟩
    simp only [sponsionref01_Trim.l0]
    rw [if_neg (by omega), if_pos (by omega), if_pos (by omega)]
    rfl
  | succ n ih =>
    intro k hn hk
    obtain ⟨k, rfl⟩ : ∃ m, k = m + 1 := ⟨k - 1, by omega⟩
    have e : wrap64 (((n + 1 : Nat) : Int) - 1) = (n : Int) := by rw [wrap_of (by omega) (by omega)]; omega
    by_cases h : l.getD n 0 = 0
    · obtain ⟨m, hm, h1, h2, h3⟩ := ih k (by omega) (by omega)
      refine ⟨m, by omega, ?_, ?_, h3⟩
      · simp only [sponsionref01_Trim.l0, e, rd_nat]
        rw [if_pos (by omega), if_pos (by omega), if_pos (by omega), if_pos h]
        exact h1
      · rw [val_take_succ l n (by omega), h, h2]
        omega
    · refine ⟨n + 1, Nat.le_refl _, ?_, rfl, fun j hj => ?_⟩
      · simp only [sponsionref01_Trim.l0, e, rd_nat]
        rw [if_pos (by omega), if_pos (by omega), if_pos (by omega), if_neg h, if_pos (by omega), if_pos (by omega), Int.toNat_natCast]
      · obtain rfl : n = j := by omega
        exact h
theorem trim_f (l : List Int) (hl : l.length ≤ 1000000) (hd : Dg l) (k : Nat) (hk : l.length < k) : ∃ r, sponsionref01_Trim.f k l = some r ∧ Can r ∧ val r = val l := by
  obtain ⟨m, hm, h1, h2, h3⟩ := trim_l0 l hl l.length k (Nat.le_refl _) hk
  refine ⟨l.take m, h1, ⟨hd.take m, fun n hn => ?_⟩, ?_⟩
  · rw [List.length_take, Nat.min_eq_left hm] at hn
    have h4 := h3 n hn
    rw [gD_lt _ _ (by omega)] at h4
    rw [gD_lt _ _ (by rw [List.length_take, Nat.min_eq_left hm]; omega)]
    rw [List.getElem_take]
    exact h4
  · rw [h2, List.take_length]

/-! ### at -/
theorem at_nat (l : List Int) (i : Nat) : sponsionref01_at.f l (i : Int) = some (l.getD i 0) := by
  unfold sponsionref01_at.f
  by_cases h : i < l.length
  · rw [if_pos (by omega), if_pos (by omega), rd_nat]
  · rw [if_neg (by omega), gD_ge _ _ (by omega)]

/-! ### Add -/
theorem add_l0 (k : Nat) (a b out : List Int) (c : Int) (i : Nat) :
    sponsionref01_Add.l0 (k + 1) a b out c (i : Int) = sponsionref01_Add.j1 k a b out c (i : Int) (decide (i < a.length ∨ i < b.length ∨ c > 0)) := by
  simp only [sponsionref01_Add.l0]
  by_cases h : (a.length : Int) < (b.length : Int)
  · rw [if_pos h]
    by_cases h1 : i < b.length
    · rw [if_pos (by omega), decide_eq_true (by omega)]
    · rw [if_neg (by omega)]
      congr 1
      rw [decide_eq_decide]
      omega
  · rw [if_neg h]
    by_cases h1 : i < a.length
    · rw [if_pos (by omega), decide_eq_true (by omega)]
    · rw [if_neg (by omega)]
      congr 1
      rw [decide_eq_decide]
      omega
theorem add_j1 (k : Nat) (a b out : List Int) (c : Int) (i : Nat) (ha : Dg a) (hb : Dg b) (hc : c = 0 ∨ c = 1) (hi : i ≤ 1000000) (ho : out.length ≤ 1000000) :
    sponsionref01_Add.j1 (k + 1) a b out c (i : Int) true = sponsionref01_Add.l0 k a b (out ++ [(a.getD i 0 + b.getD i 0 + c) % 65536]) ((a.getD i 0 + b.getD i 0 + c) / 65536) ((i + 1 : Nat) : Int) := by
  have h1 := ha.getD i
  have h2 := hb.getD i
  simp only [sponsionref01_Add.j1, at_nat, Option.bind_some, if_true]
  rw [if_pos (by omega), wrap_of (x := a.getD i 0 + b.getD i 0) (by omega) (by omega), wrap_of (x := a.getD i 0 + b.getD i 0 + c) (by omega) (by omega), wrap_of (x := (i : Int) + 1) (by omega) (by omega)]
  rw [Int.tmod_eq_emod_of_nonneg (by omega), Int.tdiv_eq_ediv_of_nonneg (by omega), wrap_of (by omega) (by omega)]
  rfl
theorem add_to (a b : List Int) (ha : Dg a) (hb : Dg b) (la : a.length ≤ 100000) (lb : b.length ≤ 100000) : ∀ (d k i : Nat) (out : List Int) (c : Int),
    out.length = i → Dg out → (c = 0 ∨ c = 1) → i + d = max a.length b.length + 1 → (d = 0 → c = 0) → 3 * d + i + 5 < k →
    ∃ r, sponsionref01_Add.l0 k a b out c (i : Int) = some r ∧ Can r ∧ val r = val out + B16 i * (c + val (a.drop i) + val (b.drop i)) := by
  intro d
  induction d with
  | zero =>
    intro k i out c hi ho hc hd h0 hk
    obtain ⟨k, rfl⟩ : ∃ m, k = m + 2 := ⟨k - 2, by omega⟩
    have hc0 := h0 rfl
    obtain ⟨r, hr, hcan, hv⟩ := trim_f out (by omega) ho k (by omega)
    refine ⟨r, ?_, hcan, ?_⟩
    · rw [add_l0, decide_eq_false (by omega)]
      simp only [sponsionref01_Add.j1, hr]
      rfl
    · rw [hv, hc0, val_drop_len a i (by omega), val_drop_len b i (by omega)]
      simp
  | succ d ih =>
    intro k i out c hi ho hc hd h0 hk
    obtain ⟨k, rfl⟩ : ∃ m, k = m + 2 := ⟨k - 2, by omega⟩
    have h1 := ha.getD i
    have h2 := hb.getD i
    have e1 := val_drop a i
    have e2 := val_drop b i
    by_cases hgo : i < a.length ∨ i < b.length ∨ c > 0
    · have h3 : d = 0 → (a.getD i 0 + b.getD i 0 + c) / 65536 = 0 := fun hd0 => by
        rw [gD_ge a i (by omega), gD_ge b i (by omega)]
        omega
      obtain ⟨r, hr, hcan, hv⟩ := ih k (i + 1) (out ++ [(a.getD i 0 + b.getD i 0 + c) % 65536]) ((a.getD i 0 + b.getD i 0 + c) / 65536) (by simp [hi]) (ho.append (Dg.cons (by omega) (by omega) Dg.nil)) (by omega) (by omega) h3 (by omega)
      refine ⟨r, ?_, hcan, ?_⟩
      · rw [add_l0, decide_eq_true hgo, add_j1 _ _ _ _ _ _ ha hb hc (by omega) (by omega)]
        exact hr
      · rw [hv, val_snoc, hi, e1, e2]
        have : B16 (i + 1) = 65536 * B16 i := rfl
        rw [this, Int.mul_comm 65536, Int.mul_assoc, Int.add_assoc, ← Int.mul_add]
        congr 2
        omega
    · obtain ⟨r, hr, hcan, hv⟩ := trim_f out (by omega) ho k (by omega)
      refine ⟨r, ?_, hcan, ?_⟩
      · rw [add_l0, decide_eq_false hgo]
        simp only [sponsionref01_Add.j1, hr]
        rfl
      · rw [hv, val_drop_len a i (by omega), val_drop_len b i (by omega), show c = 0 by omega]
        simp
theorem add_f (a b : List Int) (ha : Dg a) (hb : Dg b) (la : a.length ≤ 100000) (lb : b.length ≤ 100000) (k : Nat) (hk : 3 * (a.length + b.length) + 20 < k) :
    ∃ r, sponsionref01_Add.f k a b = some r ∧ Can r ∧ val r = val a + val b := by
  obtain ⟨r, hr, hc, hv⟩ := add_to a b ha hb la lb (max a.length b.length + 1) k 0 [] 0 rfl Dg.nil (.inl rfl) (by omega) (by omega) (by omega)
  refine ⟨r, hr, hc, ?_⟩
  rw [hv]
  simp [val, B16]

/-! ### Sub -/
theorem sub_l0 (k : Nat) (a b out : List Int) (c : Int) (i : Nat) (ha : Dg a) (hb : Dg b) (hc : c = 0 ∨ c = 1) (hi : i < a.length) (hi' : i ≤ 1000000) (ho : out.length ≤ 1000000) :
    sponsionref01_Sub.l0 (k + 1) a b out c (i : Int) = sponsionref01_Sub.l0 k a b (out ++ [(a.getD i 0 - b.getD i 0 - c) % 65536]) (if a.getD i 0 - b.getD i 0 - c < 0 then 1 else 0) ((i + 1 : Nat) : Int) := by
  have h1 := ha.getD i
  have h2 := hb.getD i
  simp only [sponsionref01_Sub.l0, at_nat, rd_nat]
  rw [if_pos (by omega), if_pos (by omega)]
  simp only [Option.bind_some]
  rw [wrap_of (x := a.getD i 0 - b.getD i 0) (by omega) (by omega), wrap_of (x := a.getD i 0 - b.getD i 0 - c) (by omega) (by omega), wrap_of (x := (i : Int) + 1) (by omega) (by omega)]
  by_cases h : a.getD i 0 - b.getD i 0 - c < 0
  · rw [if_pos h, if_pos (by omega), if_pos h, wrap_of (by omega) (by omega)]
    congr 3
    omega
  · rw [if_neg h, if_pos (by omega), if_neg h]
    congr 3
    omega
theorem sub_to (a b : List Int) (ha : Dg a) (hb : Dg b) (la : a.length ≤ 100000) (lb : b.length ≤ a.length) (hv : val b ≤ val a) : ∀ (d k i : Nat) (out : List Int) (c : Int),
    out.length = i → Dg out → (c = 0 ∨ c = 1) → i + d = a.length → val out + B16 i * (val (a.drop i) - val (b.drop i) - c) = val a - val b → 2 * d + i + 5 < k →
    ∃ r, sponsionref01_Sub.l0 k a b out c (i : Int) = some r ∧ Can r ∧ val r = val a - val b := by
  intro d
  induction d with
  | zero =>
    intro k i out c hi ho hc hd hinv hk
    obtain ⟨k, rfl⟩ : ∃ m, k = m + 1 := ⟨k - 1, by omega⟩
    obtain ⟨r, hr, hcan, hv'⟩ := trim_f out (by omega) ho k (by omega)
    refine ⟨r, ?_, hcan, ?_⟩
    · simp only [sponsionref01_Sub.l0]
      rw [if_neg (by omega), hr]
      rfl
    · rw [hv']
      rw [val_drop_len a i (by omega), val_drop_len b i (by omega)] at hinv
      have h1 := val_bd ho
      rw [hi] at h1
      rcases hc with rfl | rfl
      · simpa using hinv
      · omega
  | succ d ih =>
    intro k i out c hi ho hc hd hinv hk
    obtain ⟨k, rfl⟩ : ∃ m, k = m + 1 := ⟨k - 1, by omega⟩
    have h1 := ha.getD i
    have h2 := hb.getD i
    have e1 := val_drop a i
    have e2 := val_drop b i
    rw [sub_l0 k a b out c i ha hb hc (by omega) (by omega) (by omega)]
    refine ih k (i + 1) _ _ (by simp [hi]) (ho.append (Dg.cons (by omega) (by omega) Dg.nil)) ?_ (by omega) ?_ (by omega)
    · by_cases h : a.getD i 0 - b.getD i 0 - c < 0
      · rw [if_pos h]; exact .inr rfl
      · rw [if_neg h]; exact .inl rfl
    · rw [← hinv, val_snoc, hi, e1, e2]
      have : B16 (i + 1) = 65536 * B16 i := rfl
      rw [this, Int.mul_comm 65536, Int.mul_assoc, Int.add_assoc, ← Int.mul_add]
      congr 2
      by_cases h : a.getD i 0 - b.getD i 0 - c < 0
      · rw [if_pos h]; omega
      · rw [if_neg h]; omega
theorem sub_f (a b : List Int) (ha : Can a) (hb : Can b) (la : a.length ≤ 100000) (hv : val b ≤ val a) (k : Nat) (hk : 2 * a.length + 20 < k) :
    ∃ r, sponsionref01_Sub.f k a b = some r ∧ Can r ∧ val r = val a - val b := by
  have lb : b.length ≤ a.length := can_len hb (by have := (val_bd ha.1).2; omega)
  exact sub_to a b ha.1 hb.1 la lb hv a.length k 0 [] 0 rfl Dg.nil (.inl rfl) (by omega) (by simp [val, B16]) (by omega)

/-! ### Cmp -/
def sgn (x y : Int) : Int := if x < y then -1 else if x > y then 1 else 0
theorem cmp_to (a b : List Int) (ha : Dg a) (hb : Dg b) : ∀ (i k : Nat), i ≤ 1000000 → i < k →
    val (a.drop i) = val (b.drop i) → sponsionref01_Cmp.l0 k a b ((i : Int) - 1) = some (sgn (val a) (val b)) := by
  intro i
  induction i with
  | zero =>
    intro k hi hk he
    obtain ⟨k, rfl⟩ : ∃ m, k = m + 1 := ⟨k - 1, by omega⟩
    simp only [sponsionref01_Cmp.l0]
    rw [if_neg (by omega)]
    simp only [List.drop_zero] at he
    unfold sgn
    rw [if_neg (by omega), if_neg (by omega)]
  | succ i ih =>
    intro k hi hk he
    obtain ⟨k, rfl⟩ : ∃ m, k = m + 1 := ⟨k - 1, by omega⟩
    have h1 := ha.getD i
    have h2 := hb.getD i
    have e1 := val_drop a i
    have e2 := val_drop b i
    have e : (((i + 1 : Nat) : Int) - 1) = (i : Int) := by omega
    rw [e]
    simp only [sponsionref01_Cmp.l0, at_nat, Option.bind_some]
    rw [if_pos (by omega)]
    have hlow : ∀ (x y : List Int), Dg x → Dg y → val (x.drop i) < val (y.drop i) → val x < val y := fun x y hx hy hlt => by
      have hx' := hx.take i
      by_cases lx : i ≤ x.length
      · by_cases ly : i ≤ y.length
        · rw [val_split x i lx, val_split y i ly]
          have b1 := (val_bd (hx.take i)).2
          have b2 := (val_bd (hy.take i)).1
          rw [List.length_take, Nat.min_eq_left lx] at b1
          have b3 : B16 i * (val (x.drop i) + 1) ≤ B16 i * val (y.drop i) := Int.mul_le_mul_of_nonneg_left (by omega) (Int.le_of_lt (B16_pos i))
          rw [Int.mul_add] at b3
          omega
        · rw [val_drop_len y i (by omega)] at hlt
          have := (val_bd (hx.drop i)).1
          omega
      · have b1 := (val_bd hx).2
        have b0 := B16_mono (show x.length ≤ i by omega)
        by_cases ly : i ≤ y.length
        · have b4 := val_split y i ly
          have b2 := (val_bd (hy.take i)).1
          rw [val_drop_len x i (by omega)] at hlt
          have b3 : B16 i * 1 ≤ B16 i * val (y.drop i) := Int.mul_le_mul_of_nonneg_left (by omega) (Int.le_of_lt (B16_pos i))
          omega
        · rw [val_drop_len y i (by omega), val_drop_len x i (by omega)] at hlt
          omega
    by_cases h : a.getD i 0 < b.getD i 0
    · rw [if_pos h]
      have := hlow a b ha hb (by omega)
      unfold sgn
      rw [if_pos this]
    · rw [if_neg h]
      by_cases h' : a.getD i 0 > b.getD i 0
      · rw [if_pos h']
        have := hlow b a hb ha (by omega)
        unfold sgn
        rw [if_neg (by omega), if_pos this]
      · rw [if_neg h', wrap_of (by omega) (by omega)]
        exact ih k (by omega) (by omega) (by omega)
theorem cmp_f (a b : List Int) (ha : Dg a) (hb : Dg b) (la : a.length ≤ 100000) (lb : b.length ≤ 100000) (k : Nat) (hk : a.length + b.length < k) :
    sponsionref01_Cmp.f k a b = some (sgn (val a) (val b)) := by
  unfold sponsionref01_Cmp.f
  by_cases h : (a.length : Int) < (b.length : Int)
  · rw [if_pos h, wrap_of (by omega) (by omega)]
    exact cmp_to a b ha hb b.length k (by omega) (by omega) (by rw [val_drop_len a _ (by omega), val_drop_len b _ (by omega)])
  · rw [if_neg h, wrap_of (by omega) (by omega)]
    exact cmp_to a b ha hb a.length k (by omega) (by omega) (by rw [val_drop_len a _ (by omega), val_drop_len b _ (by omega)])
end Go.Proofs.Ytgjdegahofoalaa.RN

/- The document's products and quotients of rows of digits: what they answer. (Over the printed functions; no program.) -/
namespace Go.Proofs.Ytgjdegahofoalaa.RN
open Go.RowKit Go.Proofs.YtgjdegahofoalaaW.PrintWords
open PDiv RefMul

/-! ### Mul -/
theorem mul_bd16 {a b : Int} (ha0 : 0 ≤ a) (ha : a < 65536) (hb0 : 0 ≤ b) (hb : b < 65536) : 0 ≤ a * b ∧ a * b ≤ 4294836225 :=
  ⟨Int.mul_nonneg ha0 hb0, Int.le_trans (Int.mul_le_mul (show a ≤ 65535 by omega) (show b ≤ 65535 by omega) hb0 (by decide)) (by decide)⟩
theorem rep_getD (n m : Nat) : (List.replicate n (0 : Int)).getD m 0 = 0 := by
  by_cases h : m < n
  · rw [gD_lt _ _ (by simpa using h), List.getElem_replicate]
  · rw [gD_ge _ _ (by simp; omega)]
theorem B16_add (m n : Nat) : B16 (m + n) = B16 m * B16 n := by
  induction m with
  | zero => simp [B16]
  | succ m ih => rw [Nat.succ_add]; show 65536 * B16 (m + n) = 65536 * B16 m * B16 n; rw [ih, Int.mul_assoc]
/-- A row of a product, from the j-th digit on. -/
theorem mul_l1 (a b : List Int) (ha : Dg a) (hb : Dg b) (la : a.length ≤ 100000) (lb : b.length ≤ 100000) (i : Nat) (hi : i < a.length) : ∀ (d k j : Nat) (out : List Int) (c : Int),
    out.length = a.length + b.length → Dg out → 0 ≤ c → c < 65536 → j + d = b.length → (∀ m, i + b.length ≤ m → out.getD m 0 = 0) → d + 1 < k →
    ∃ (k' : Nat) (out' : List Int), k ≤ k' + d + 1 ∧ sponsionref01_Mul.l1 k a b out (i : Int) c (a.length : Int) (i : Int) (b.length : Int) (j : Int) = sponsionref01_Mul.l0 k' a b out' (a.length : Int) ((i + 1 : Nat) : Int) ∧
      out'.length = a.length + b.length ∧ Dg out' ∧ (∀ m, i + 1 + b.length ≤ m → out'.getD m 0 = 0) ∧ val out' = val out + B16 (i + j) * (c + a.getD i 0 * val (b.drop j)) := by
  intro d
  induction d with
  | zero =>
    intro k j out c ho hd hc0 hc1 hj hz hk
    obtain ⟨k, rfl⟩ : ∃ m, k = m + 1 := ⟨k - 1, by omega⟩
    have hz0 := hz (i + b.length) (Nat.le_refl _)
    refine ⟨k, out.set (i + b.length) c, by omega, ?_, by simpa using ho, dg_set hd _ hc0 hc1, fun m hm => ?_, ?_⟩
    · simp only [sponsionref01_Mul.l1]
      rw [if_neg (by omega), wrap_of (x := (i : Int) + (b.length : Int)) (by omega) (by omega), if_pos (by omega), if_pos (by omega)]
      have e1 : (((i : Int) + (b.length : Int)) : Int).toNat = i + b.length := by omega
      have e2 : rd out ((i : Int) + (b.length : Int)) = 0 := by unfold rd; rw [e1]; exact hz0
      rw [e1, e2, wrap_of (x := 0 + c) (by omega) (by omega), wrap_of (x := (i : Int) + 1) (by omega) (by omega), Int.zero_add]
      rfl
    · rw [getD_set_other _ _ _ _ (by omega)]
      exact hz m (by omega)
    · rw [val_set _ _ _ (by omega), hz0, val_drop_len b j (by omega), show i + j = i + b.length by omega]
      simp
  | succ d ih =>
    intro k j out c ho hd hc0 hc1 hj hz hk
    obtain ⟨k, rfl⟩ : ∃ m, k = m + 1 := ⟨k - 1, by omega⟩
    have h1 := ha.getD i
    have h2 := hb.getD j
    have h3 := hd.getD (i + j)
    have h4 := mul_bd16 h1.1 h1.2 h2.1 h2.2
    have e3 := val_drop b j
    generalize hp : a.getD i 0 * b.getD j 0 = p at h4
    generalize hs : out.getD (i + j) 0 + p + c = s
    obtain ⟨k', out', hk', hrun, hl', hd', hz', hv'⟩ := ih k (j + 1) (out.set (i + j) (s % 65536)) (s / 65536) (by simpa using ho) (dg_set hd _ (by omega) (by omega)) (by omega) (by omega) (by omega)
      (fun m hm => by rw [getD_set_other _ _ _ _ (by omega)]; exact hz m hm) (by omega)
    refine ⟨k', out', by omega, ?_, hl', hd', hz', ?_⟩
    · rw [← hrun]
      simp only [sponsionref01_Mul.l1]
      have e1 : (((i : Int) + (j : Int)) : Int).toNat = i + j := by omega
      rw [if_pos (by omega), wrap_of (x := (i : Int) + (j : Int)) (by omega) (by omega), if_pos (by omega), if_pos (by omega), if_pos (by omega), if_pos (by omega), if_pos (by omega), if_pos (by omega)]
      rw [rd_nat, rd_nat, hp, wrap_of (x := p) (by omega) (by omega)]
      rw [show rd out ((i : Int) + (j : Int)) = out.getD (i + j) 0 by unfold rd; rw [e1], e1, wrap_of (x := out.getD (i + j) 0 + p) (by omega) (by omega), hs, wrap_of (x := s) (by omega) (by omega), Int.tmod_eq_emod_of_nonneg (by omega), Int.tdiv_eq_ediv_of_nonneg (by omega), wrap_of (x := s / 65536) (by omega) (by omega), wrap_of (x := (j : Int) + 1) (by omega) (by omega)]
      rfl
    · rw [hv', val_set _ _ _ (by omega), e3]
      have : B16 (i + (j + 1)) = 65536 * B16 (i + j) := rfl
      rw [this, Int.mul_comm 65536, Int.mul_assoc, Int.add_assoc, ← Int.mul_add]
      congr 2
      rw [Int.mul_add, Int.mul_add, hp, Int.mul_left_comm (a.getD i 0) 65536]
      omega
theorem mul_l0 (a b : List Int) (ha : Dg a) (hb : Dg b) (la : a.length ≤ 100000) (lb : b.length ≤ 100000) : ∀ (d k i : Nat) (out : List Int),
    out.length = a.length + b.length → Dg out → i + d = a.length → (∀ m, i + b.length ≤ m → out.getD m 0 = 0) → (d + 1) * (b.length + 4) + a.length + b.length < k →
    ∃ r, sponsionref01_Mul.l0 k a b out (a.length : Int) (i : Int) = some r ∧ Can r ∧ val r = val out + B16 i * (val (a.drop i) * val b) := by
  intro d
  induction d with
  | zero =>
    intro k i out ho hd hi hz hk
    obtain ⟨k, rfl⟩ : ∃ m, k = m + 1 := ⟨k - 1, by omega⟩
    obtain ⟨r, hr, hcan, hv⟩ := trim_f out (by omega) hd k (by omega)
    refine ⟨r, ?_, hcan, ?_⟩
    · simp only [sponsionref01_Mul.l0]
      rw [if_neg (by omega), hr]
      rfl
    · rw [hv, val_drop_len a i (by omega)]
      simp
  | succ d ih =>
    intro k i out ho hd hi hz hk
    obtain ⟨k, rfl⟩ : ∃ m, k = m + 1 := ⟨k - 1, by omega⟩
    have ek : (d + 1 + 1) * (b.length + 4) = (d + 1) * (b.length + 4) + (b.length + 4) := Nat.succ_mul _ _
    obtain ⟨k', out', hk', hrun, hl', hd', hz', hv'⟩ := mul_l1 a b ha hb la lb i (by omega) b.length k 0 out 0 ho hd (by omega) (by omega) (by omega) hz (by omega)
    obtain ⟨r, hr, hcan, hv⟩ := ih k' (i + 1) out' hl' hd' (by omega) hz' (by omega)
    refine ⟨r, ?_, hcan, ?_⟩
    · simp only [sponsionref01_Mul.l0]
      rw [if_pos (by omega)]
      exact hrun.trans hr
    · rw [hv, hv', val_drop a i]
      have : B16 (i + 1) = 65536 * B16 i := rfl
      rw [this, Int.mul_comm 65536, Int.mul_assoc, Int.add_assoc, Nat.add_zero, ← Int.mul_add, List.drop_zero, Int.zero_add]
      congr 2
      rw [Int.add_mul, Int.mul_assoc]
theorem mul_f (a b : List Int) (ha : Dg a) (hb : Dg b) (la : a.length ≤ 100000) (lb : b.length ≤ 100000) (k : Nat) (hk : (a.length + 1) * (b.length + 4) + a.length + b.length < k) :
    ∃ r, sponsionref01_Mul.f k a b = some r ∧ Can r ∧ val r = val a * val b := by
  have e1 : wrap64 ((a.length : Int) + (b.length : Int)) = ((a.length + b.length : Nat) : Int) := by rw [wrap_of (by omega) (by omega)]; omega
  obtain ⟨r, hr, hcan, hv⟩ := mul_l0 a b ha hb la lb a.length k 0 (List.replicate (a.length + b.length) 0) (by simp) (dg_replicate _) (by omega) (fun m _ => rep_getD _ m) hk
  refine ⟨r, ?_, hcan, ?_⟩
  · unfold sponsionref01_Mul.f
    rw [e1, if_pos (by omega), Int.toNat_natCast, if_pos (by omega)]
    exact hr
  · rw [hv, val_replicate]
    simp [B16]
end Go.Proofs.Ytgjdegahofoalaa.RN

/- The document's quotients of rows of digits, bit by bit: what they answer. (Over the printed functions; no program.) -/
namespace Go.Proofs.Ytgjdegahofoalaa.RN
open Go.RowKit Go.Proofs.YtgjdegahofoalaaW.PrintWords
open PDiv RefMul

theorem can_one : Can [1] := ⟨Dg.cons (by decide) (by decide) Dg.nil, fun n hn => by
  obtain rfl : n = 0 := by simpa using hn.symm
  decide⟩
theorem can_empty : Can [] := ⟨Dg.nil, fun n hn => by simp at hn⟩
theorem divmod_of {C b q r : Int} (h : C = b * q + r) (h0 : 0 ≤ r) (h1 : r < b) : C / b = q ∧ C % b = r := by
  have hb : 0 < b := by omega
  have e : C / b = q := by
    rw [h, Int.add_comm, Int.add_mul_ediv_left _ _ (by omega), Int.ediv_eq_zero_of_lt h0 h1, Int.zero_add]
  refine ⟨e, ?_⟩
  rw [Int.emod_def, e]
  omega
theorem step_num {C C' b q r t : Int} (hb : 0 < b) (h : C' = 2 * C + t) (ht : t = 0 ∨ t = 1) (hq : C / b = q) (hr : C % b = r) :
    (2 * r + t < b → C' / b = 2 * q ∧ C' % b = 2 * r + t) ∧ (b ≤ 2 * r + t → C' / b = 2 * q + 1 ∧ C' % b = 2 * r + t - b) := by
  have h0 := Int.emod_nonneg C (show b ≠ 0 by omega)
  have h1 := Int.emod_lt_of_pos C hb
  have e := Int.mul_ediv_add_emod C b
  rw [hq, hr] at e
  rw [hr] at h0 h1
  have e2 : b * (2 * q) = 2 * (b * q) := by rw [← Int.mul_assoc, Int.mul_comm b 2, Int.mul_assoc]
  refine ⟨fun hlt => divmod_of ?_ (by omega) hlt, fun hge => divmod_of ?_ (by omega) (by omega)⟩
  · rw [e2]; omega
  · rw [Int.mul_add, e2]; omega

/-- What holds of a quotient's digits and what is left, at the i-th digit, the parts of which below w are not yet done. -/
structure Inv (a b : List Int) (i : Nat) (w : Int) (quot left : List Int) : Prop where
  can : Can left
  left : val left = (val (a.drop i) / w) % val b
  len : quot.length = a.length
  dg : Dg quot
  low : ∀ m, m < i → quot.getD m 0 = 0
  quot : val (quot.drop i) = w * ((val (a.drop i) / w) / val b)
theorem div_step (a b : List Int) (ha : Dg a) (hb : Can b) (hb0 : 0 < val b) (la : a.length ≤ 10000) (lb : b.length ≤ 10000) (i : Nat) (hi : i < a.length) (u : Int)
    (hu : u = 32768 ∨ u = 16384 ∨ u = 8192 ∨ u = 4096 ∨ u = 2048 ∨ u = 1024 ∨ u = 512 ∨ u = 256 ∨ u = 128 ∨ u = 64 ∨ u = 32 ∨ u = 16 ∨ u = 8 ∨ u = 4 ∨ u = 2 ∨ u = 1) (k : Nat) (quot left : List Int) (h : Inv a b i (2 * u) quot left)
    (hk : 20 * (a.length + b.length) + 200 < k) :
    ∃ (k' : Nat) (quot' left' : List Int), k = k' + 2 ∧ sponsionref01_Div.l1 k a b quot left (i : Int) u = sponsionref01_Div.l1 k' a b quot' left' (i : Int) (u / 2) ∧ Inv a b i u quot' left' := by
  obtain ⟨k, rfl⟩ : ∃ m, k = m + 2 := ⟨k - 2, by omega⟩
  have hl0 := Int.emod_nonneg (val (a.drop i) / (2 * u)) (show val b ≠ 0 by omega)
  have hl1 := Int.emod_lt_of_pos (val (a.drop i) / (2 * u)) hb0
  rw [← h.left] at hl0 hl1
  have hbb := (val_bd hb.1).2
  have hB : B16 (b.length + 1) = 65536 * B16 b.length := rfl
  have llen : left.length ≤ b.length := can_len h.can (by omega)
  obtain ⟨d, hd, dcan, dval⟩ := add_f left left h.can.1 h.can.1 (by omega) (by omega) (k + 1) (by omega)
  have dlen : d.length ≤ b.length + 1 := can_len dcan (by omega)
  obtain ⟨d1, hd1, d1can, d1val⟩ := add_f d [1] dcan.1 can_one.1 (by omega) (by decide) (k + 1) (by simp; omega)
  have v1 : val [1] = 1 := by decide
  rw [v1] at d1val
  have hai := ha.getD i
  have eV := val_drop a i
  have hV := (val_bd (ha.drop i)).1
  have hA := (val_bd (ha.drop (i + 1))).1
  -- the bit
  have hbit : ∃ t : Int, (t = 0 ∨ t = 1) ∧ t = (a.getD i 0 / u) % 2 ∧ val (a.drop i) / u = 2 * (val (a.drop i) / (2 * u)) + t := by
    refine ⟨_, by omega, rfl, ?_⟩
    rw [eV]
    generalize val (a.drop (i + 1)) = X at *
    generalize a.getD i 0 = y at *
    rcases hu with rfl | rfl | rfl | rfl | rfl | rfl | rfl | rfl | rfl | rfl | rfl | rfl | rfl | rfl | rfl | rfl <;> omega
  obtain ⟨t, ht01, ht, hC⟩ := hbit
  have hnum := step_num hb0 hC ht01 rfl rfl
  rw [← h.left] at hnum
  have hq := h.quot
  generalize hq0 : val (a.drop i) / (2 * u) / val b = q at hq hnum
  -- what is left, doubled, with the bit
  obtain ⟨m, hm, mcan, mval⟩ : ∃ m, (if t = 1 then sponsionref01_Add.f (k + 1) d [1] else some d) = some m ∧ Can m ∧ val m = 2 * val left + t := by
    rcases ht01 with rfl | rfl
    · exact ⟨d, by rw [if_neg (by decide)], dcan, by omega⟩
    · exact ⟨d1, by rw [if_pos rfl]; exact hd1, d1can, by omega⟩
  have mlen : m.length ≤ b.length + 1 := can_len mcan (by omega)
  have hrun : sponsionref01_Div.l1 (k + 2) a b quot left (i : Int) u = sponsionref01_Div.j2 (k + 1) a b quot m (i : Int) u := by
    have e1 : (wrap64 (Int.tdiv (a.getD i 0) u)).tmod 2 = t := by
      rw [Int.tdiv_eq_ediv_of_nonneg hai.1]
      have : 0 ≤ a.getD i 0 / u ∧ a.getD i 0 / u ≤ 65535 := by
        generalize a.getD i 0 = y at *
        rcases hu with rfl | rfl | rfl | rfl | rfl | rfl | rfl | rfl | rfl | rfl | rfl | rfl | rfl | rfl | rfl | rfl <;> omega
      rw [wrap_of (by omega) (by omega), Int.tmod_eq_emod_of_nonneg this.1, ht]
    have hupos : u > 0 := by rcases hu with rfl | rfl | rfl | rfl | rfl | rfl | rfl | rfl | rfl | rfl | rfl | rfl | rfl | rfl | rfl | rfl <;> omega
    simp only [sponsionref01_Div.l1, hd, Option.bind_some, rd_nat]
    rw [if_pos hupos, if_pos (by omega), if_pos (by omega), if_neg (by omega), e1]
    by_cases h1 : t = 1
    · rw [if_pos h1] at hm ⊢
      rw [hm]
      rfl
    · rw [if_neg h1] at hm ⊢
      rw [Option.some.inj hm]
  have hu2 : wrap64 (Int.tdiv u 2) = u / 2 := by rw [Int.tdiv_eq_ediv_of_nonneg (by omega), wrap_of (by omega) (by omega)]
  have hcmp := cmp_f m b mcan.1 hb.1 (by omega) (by omega) k (by omega)
  by_cases hge : val b ≤ val m
  · obtain ⟨s, hs, scan, sval⟩ := sub_f m b mcan hb (by omega) hge k (by omega)
    have hsg : sgn (val m) (val b) ≥ 0 := by
      unfold sgn
      rw [if_neg (by omega)]
      split <;> omega
    have h2 := hnum.2 (by omega)
    have hqi := h.dg.getD i
    have eq1 := val_drop quot i
    have hfit : 0 ≤ quot.getD i 0 + u ∧ quot.getD i 0 + u < 65536 := by
      rw [eq1] at hq
      generalize val (quot.drop (i + 1)) = X at *
      generalize quot.getD i 0 = y at *
      rcases hu with rfl | rfl | rfl | rfl | rfl | rfl | rfl | rfl | rfl | rfl | rfl | rfl | rfl | rfl | rfl | rfl <;> omega
    refine ⟨k, quot.set i (quot.getD i 0 + u), s, rfl, ?_, ⟨scan, ?_, ?_, dg_set h.dg _ hfit.1 hfit.2, fun j hj => ?_, ?_⟩⟩
    · rw [hrun]
      simp only [sponsionref01_Div.j2, hcmp, Option.bind_some]
      rw [if_pos hsg, hs]
      simp only [Option.bind_some]
      rw [if_pos (by omega), if_pos (by rw [h.len]; omega), rd_nat, Int.toNat_natCast, hu2, wrap_of (by omega) (by omega)]
    · rw [sval, mval, h2.2]
    · simpa using h.len
    · rw [getD_set_other _ _ _ _ (by omega)]
      exact h.low j hj
    · rw [val_drop, getD_set_same _ _ _ (by rw [h.len]; exact hi), List.drop_set_of_lt (by omega), h2.1]
      rw [eq1] at hq
      generalize val (quot.drop (i + 1)) = X at *
      generalize quot.getD i 0 = y at *
      rcases hu with rfl | rfl | rfl | rfl | rfl | rfl | rfl | rfl | rfl | rfl | rfl | rfl | rfl | rfl | rfl | rfl <;> omega
  · have hsg : ¬ sgn (val m) (val b) ≥ 0 := by
      unfold sgn
      rw [if_pos (by omega)]
      decide
    have h2 := hnum.1 (by omega)
    refine ⟨k, quot, m, rfl, ?_, ⟨mcan, ?_, h.len, h.dg, h.low, ?_⟩⟩
    · rw [hrun]
      simp only [sponsionref01_Div.j2, hcmp, Option.bind_some]
      rw [if_neg hsg, hu2]
    · rw [mval, h2.2]
    · rw [hq, h2.1]
      rcases hu with rfl | rfl | rfl | rfl | rfl | rfl | rfl | rfl | rfl | rfl | rfl | rfl | rfl | rfl | rfl | rfl <;> omega
theorem div_digit (a b : List Int) (ha : Dg a) (hb : Can b) (hb0 : 0 < val b) (la : a.length ≤ 10000) (lb : b.length ≤ 10000) (i : Nat) (hi : i < a.length)
    (k : Nat) (quot left : List Int) (h : Inv a b i 65536 quot left) (hk : 20 * (a.length + b.length) + 300 < k) :
    ∃ (k' : Nat) (quot' left' : List Int), k = k' + 33 ∧ sponsionref01_Div.l1 k a b quot left (i : Int) 32768 = sponsionref01_Div.l0 k' a b quot' left' ((i : Int) - 1) ∧ Inv a b i 1 quot' left' := by
  obtain ⟨k0, q0, l0, e0, r0, h0⟩ := div_step a b ha hb hb0 la lb i hi 32768 (by decide) k quot left h (by omega)
  obtain ⟨k1, q1, l1, e1, r1, h1⟩ := div_step a b ha hb hb0 la lb i hi 16384 (by decide) k0 q0 l0 h0 (by omega)
  obtain ⟨k2, q2, l2, e2, r2, h2⟩ := div_step a b ha hb hb0 la lb i hi 8192 (by decide) k1 q1 l1 h1 (by omega)
  obtain ⟨k3, q3, l3, e3, r3, h3⟩ := div_step a b ha hb hb0 la lb i hi 4096 (by decide) k2 q2 l2 h2 (by omega)
  obtain ⟨k4, q4, l4, e4, r4, h4⟩ := div_step a b ha hb hb0 la lb i hi 2048 (by decide) k3 q3 l3 h3 (by omega)
  obtain ⟨k5, q5, l5, e5, r5, h5⟩ := div_step a b ha hb hb0 la lb i hi 1024 (by decide) k4 q4 l4 h4 (by omega)
  obtain ⟨k6, q6, l6, e6, r6, h6⟩ := div_step a b ha hb hb0 la lb i hi 512 (by decide) k5 q5 l5 h5 (by omega)
  obtain ⟨k7, q7, l7, e7, r7, h7⟩ := div_step a b ha hb hb0 la lb i hi 256 (by decide) k6 q6 l6 h6 (by omega)
  obtain ⟨k8, q8, l8, e8, r8, h8⟩ := div_step a b ha hb hb0 la lb i hi 128 (by decide) k7 q7 l7 h7 (by omega)
  obtain ⟨k9, q9, l9, e9, r9, h9⟩ := div_step a b ha hb hb0 la lb i hi 64 (by decide) k8 q8 l8 h8 (by omega)
  obtain ⟨k10, q10, l10, e10, r10, h10⟩ := div_step a b ha hb hb0 la lb i hi 32 (by decide) k9 q9 l9 h9 (by omega)
  obtain ⟨k11, q11, l11, e11, r11, h11⟩ := div_step a b ha hb hb0 la lb i hi 16 (by decide) k10 q10 l10 h10 (by omega)
  obtain ⟨k12, q12, l12, e12, r12, h12⟩ := div_step a b ha hb hb0 la lb i hi 8 (by decide) k11 q11 l11 h11 (by omega)
  obtain ⟨k13, q13, l13, e13, r13, h13⟩ := div_step a b ha hb hb0 la lb i hi 4 (by decide) k12 q12 l12 h12 (by omega)
  obtain ⟨k14, q14, l14, e14, r14, h14⟩ := div_step a b ha hb hb0 la lb i hi 2 (by decide) k13 q13 l13 h13 (by omega)
  obtain ⟨k15, q15, l15, e15, r15, h15⟩ := div_step a b ha hb hb0 la lb i hi 1 (by decide) k14 q14 l14 h14 (by omega)
  obtain ⟨k', rfl⟩ : ∃ m, k15 = m + 1 := ⟨k15 - 1, by omega⟩
  refine ⟨k', q15, l15, by omega, ?_, h15⟩
  have e : sponsionref01_Div.l1 (k' + 1) a b q15 l15 (i : Int) (1 / 2) = sponsionref01_Div.l0 k' a b q15 l15 ((i : Int) - 1) := by
    simp only [sponsionref01_Div.l1]
    rw [if_neg (by decide), wrap_of (by omega) (by omega)]
  exact (((((((((((((((r0.trans r1).trans r2).trans r3).trans r4).trans r5).trans r6).trans r7).trans r8).trans r9).trans r10).trans r11).trans r12).trans r13).trans r14).trans r15).trans e
theorem div_l0 (a b : List Int) (ha : Dg a) (hb : Can b) (hb0 : 0 < val b) (la : a.length ≤ 10000) (lb : b.length ≤ 10000) : ∀ (n k : Nat) (quot left : List Int),
    n ≤ a.length → Can left → val left = val (a.drop n) % val b → quot.length = a.length → Dg quot → (∀ m, m < n → quot.getD m 0 = 0) → val (quot.drop n) = val (a.drop n) / val b →
    40 * n + 20 * (a.length + b.length) + 400 < k →
    ∃ r1 r2, sponsionref01_Div.l0 k a b quot left ((n : Int) - 1) = some (r1, r2) ∧ Can r1 ∧ Can r2 ∧ val r1 = val a / val b ∧ val r2 = val a % val b := by
  intro n
  induction n with
  | zero =>
    intro k quot left hn hcan hleft hlen hdg hlow hquot hk
    obtain ⟨k, rfl⟩ : ∃ m, k = m + 1 := ⟨k - 1, by omega⟩
    obtain ⟨r, hr, rcan, rval⟩ := trim_f quot (by omega) hdg k (by omega)
    refine ⟨r, left, ?_, rcan, hcan, ?_, ?_⟩
    · simp only [sponsionref01_Div.l0]
      rw [if_neg (by omega), hr]
      rfl
    · rw [rval]; exact hquot
    · exact hleft
  | succ n ih =>
    intro k quot left hn hcan hleft hlen hdg hlow hquot hk
    obtain ⟨k, rfl⟩ : ∃ m, k = m + 1 := ⟨k - 1, by omega⟩
    have eV := val_drop a n
    have hai := ha.getD n
    have eq := val_drop quot n
    have e65 : val (a.drop n) / 65536 = val (a.drop (n + 1)) := by omega
    obtain ⟨k', q', l', ek, hrun, hinv⟩ := div_digit a b ha hb hb0 la lb n (by omega) k quot left ⟨hcan, by rw [e65]; exact hleft, hlen, hdg, fun m hm => hlow m (by omega), by rw [e65, eq, hquot, hlow n (by omega)]; omega⟩ (by omega)
    have h1 := hinv.left
    have h2 := hinv.quot
    rw [Int.ediv_one] at h1 h2
    obtain ⟨r1, r2, hr, x⟩ := ih k' q' l' (by omega) hinv.can h1 hinv.len hinv.dg hinv.low (by rw [h2]; omega) (by omega)
    refine ⟨r1, r2, ?_, x⟩
    simp only [sponsionref01_Div.l0]
    have e : (((n + 1 : Nat) : Int) - 1) = (n : Int) := by omega
    rw [e, if_pos (by omega)]
    exact hrun.trans hr
theorem div_f (a b : List Int) (ha : Dg a) (hb : Can b) (hb0 : 0 < val b) (la : a.length ≤ 10000) (lb : b.length ≤ 10000) (k : Nat) (hk : 60 * (a.length + b.length) + 400 < k) :
    ∃ r1 r2, sponsionref01_Div.f k a b = some (r1, r2) ∧ Can r1 ∧ Can r2 ∧ val r1 = val a / val b ∧ val r2 = val a % val b := by
  obtain ⟨r1, r2, hr, x⟩ := div_l0 a b ha hb hb0 la lb a.length k (List.replicate a.length 0) [] (Nat.le_refl _) can_empty (by rw [val_drop_len a _ (Nat.le_refl _)]; simp [val]) (by simp) (dg_replicate _) (fun m _ => rep_getD _ m)
    (by rw [val_drop_len a _ (Nat.le_refl _), val_drop_len _ _ (by simp)]; simp) (by omega)
  refine ⟨r1, r2, ?_, x⟩
  unfold sponsionref01_Div.f
  rw [if_pos (by omega), if_pos (by omega), Int.toNat_natCast, wrap_of (by omega) (by omega)]
  exact hr
end Go.Proofs.Ytgjdegahofoalaa.RN
