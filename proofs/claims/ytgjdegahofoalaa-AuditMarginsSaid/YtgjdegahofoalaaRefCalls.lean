/- The document's sums, differences, products and quotients of rows of digits: contracts in numbers. -/
import Derived.Test.YtgjdegahofoalaaRefNum
import Derived.Test.YtgjdegahofoalaaBase
import Derived.Test.YtgjdegahofoalaaRefMul
set_option linter.unusedVariables false
set_option linter.unusedSimpArgs false
namespace Go.Proofs.Ytgjdegahofoalaa.RN
open Go.RowKit Go.Proofs.YtgjdegahofoalaaW.PrintWords
open PDiv RefMul

/-- A slice that reads as the digits of n. -/
def RowV (w : World) (v : Value) (n : Int) : Prop := ∃ l, Can l ∧ val l = n ∧ l.length ≤ 60 ∧ Kd.R (Kd.int .i64) 3 w 0 (fun _ => True) v l
theorem RowV.below {w w1 : World} {v : Value} {n : Int} (h : RowV w v n) (hb : Below w.heap.size w w1) : RowV w1 v n := by
  obtain ⟨l, h1, h2, h3, h4⟩ := h
  exact ⟨l, h1, h2, h3, Kd.R_below h4 hb⟩
theorem RowV.of {w : World} {B : Nat} {v : Value} {n : Int} {l : List Int} (hc : Can l) (hv : val l = n) (hn : n < B16 60) (h : Kd.R (Kd.int .i64) 3 w B (fun _ => True) v l) : RowV w v n :=
  ⟨l, hc, hv, can_len hc (by omega), Kd.R_lower h (Nat.zero_le _)⟩
theorem RowV.alloc {w : World} {v : Value} {n : Int} (h : RowV w v n) (o : Obj) : RowV (w.alloc o) v n := h.below ((Below.refl _ _).alloc (Nat.le_refl _) _)
theorem RowV.drewN {w : World} {v : Value} {n : Int} (h : RowV w v n) (k : Nat) : RowV (w.drewN k) v n := h.below (bdrewN (Below.refl _ _) k)
theorem RowV.nonneg {w : World} {v : Value} {n : Int} (h : RowV w v n) : 0 ≤ n := by
  obtain ⟨l, h1, h2, _, _⟩ := h
  rw [← h2]
  exact (val_bd h1.1).1
theorem RowV.nil (w : World) : RowV w (.slice none 0 0) 0 := ⟨[], can_empty, rfl, by decide, Kd.R_nil _ _ _ _ _⟩
theorem B16_60 : (115792089237316195423570985008687907853269984665640564039457584007913129639936 : Int) * 115792089237316195423570985008687907853269984665640564039457584007913129639936 * 4 < B16 60 := by decide +kernel
theorem B16_16 : B16 16 = 115792089237316195423570985008687907853269984665640564039457584007913129639936 := by decide +kernel

theorem add_row {w : World} {v1 v2 : Value} {a b : Int} (h1 : RowV w v1 a) (h2 : RowV w v2 b) (hn : a + b < B16 60) :
    Calls Try.prog 22 #[v1, v2] w fun e w' => ∃ v, e = .returned v ∧ RowV w' v (a + b) ∧ Below w.heap.size w w' := by
  obtain ⟨la, ca, rfl, ha, ra⟩ := h1
  obtain ⟨lb, cb, rfl, hb, rb⟩ := h2
  obtain ⟨A1, c1, rfl, hc1, k1⟩ := Kd.R_reads ra
  obtain ⟨A2, c2, rfl, hc2, k2⟩ := Kd.R_reads rb
  obtain ⟨r, hr, rcan, rval⟩ := add_f la lb ca.1 cb.1 (by omega) (by omega) 1000 (by omega)
  refine (sponsionref01_Add.calls 1000 A1 c1 la A2 c2 lb r w k1 hc1 k2 hc2 hr).mono ?_
  rintro e w' ⟨v, rfl, hv, hb'⟩
  exact ⟨v, rfl, RowV.of rcan rval hn hv, hb'⟩
theorem sub_row {w : World} {v1 v2 : Value} {a b : Int} (h1 : RowV w v1 a) (h2 : RowV w v2 b) (hle : b ≤ a) (hn : a < B16 60) :
    Calls Try.prog 28 #[v1, v2] w fun e w' => ∃ v, e = .returned v ∧ RowV w' v (a - b) ∧ Below w.heap.size w w' := by
  have hb0 := h2.nonneg
  obtain ⟨la, ca, rfl, ha, ra⟩ := h1
  obtain ⟨lb, cb, rfl, hb, rb⟩ := h2
  obtain ⟨A1, c1, rfl, hc1, k1⟩ := Kd.R_reads ra
  obtain ⟨A2, c2, rfl, hc2, k2⟩ := Kd.R_reads rb
  obtain ⟨r, hr, rcan, rval⟩ := sub_f la lb ca cb (by omega) hle 1000 (by omega)
  refine (sponsionref01_Sub.calls 1000 A1 c1 la A2 c2 lb r w k1 hc1 k2 hc2 hr).mono ?_
  rintro e w' ⟨v, rfl, hv, hb'⟩
  exact ⟨v, rfl, RowV.of rcan rval (by omega) hv, hb'⟩
theorem cmp_row {w : World} {v1 v2 : Value} {a b : Int} (h1 : RowV w v1 a) (h2 : RowV w v2 b) :
    Calls Try.prog 24 #[v1, v2] w fun e w' => e = .returned (.int .i64 (sgn a b)) ∧ Below w.heap.size w w' := by
  obtain ⟨la, ca, rfl, ha, ra⟩ := h1
  obtain ⟨lb, cb, rfl, hb, rb⟩ := h2
  obtain ⟨A1, c1, rfl, hc1, k1⟩ := Kd.R_reads ra
  obtain ⟨A2, c2, rfl, hc2, k2⟩ := Kd.R_reads rb
  exact sponsionref01_Cmp.calls 1000 A1 c1 la A2 c2 lb _ w k1 hc1 k2 hc2 (cmp_f la lb ca.1 cb.1 (by omega) (by omega) 1000 (by omega))
theorem mul_row {w : World} {v1 v2 : Value} {a b : Int} (h1 : RowV w v1 a) (h2 : RowV w v2 b) (hn : a * b < B16 60) :
    Calls Try.prog 27 #[v1, v2] w fun e w' => ∃ v, e = .returned v ∧ RowV w' v (a * b) ∧ Below w.heap.size w w' := by
  obtain ⟨la, ca, rfl, ha, ra⟩ := h1
  obtain ⟨lb, cb, rfl, hb, rb⟩ := h2
  obtain ⟨A1, c1, rfl, hc1, k1⟩ := Kd.R_reads ra
  obtain ⟨A2, c2, rfl, hc2, k2⟩ := Kd.R_reads rb
  have hm : (la.length + 1) * (lb.length + 4) ≤ 61 * 64 := Nat.mul_le_mul (by omega) (by omega)
  obtain ⟨r, hr, rcan, rval⟩ := mul_f la lb ca.1 cb.1 (by omega) (by omega) 10000 (by omega)
  refine (sponsionref01_Mul.calls 10000 A1 c1 la A2 c2 lb r w k1 hc1 k2 hc2 hr).mono ?_
  rintro e w' ⟨v, rfl, hv, hb'⟩
  exact ⟨v, rfl, RowV.of rcan rval hn hv, hb'⟩
theorem div_row {w : World} {v1 v2 : Value} {a b : Int} (h1 : RowV w v1 a) (h2 : RowV w v2 b) (hb0 : 0 < b) (ha60 : a < B16 60) (hb60 : b < B16 60) :
    Calls Try.prog 26 #[v1, v2] w fun e w' => ∃ v v', e = .returned (.tuple #[v, v']) ∧ RowV w' v (a / b) ∧ RowV w' v' (a % b) ∧ Below w.heap.size w w' := by
  have ha0 := h1.nonneg
  obtain ⟨la, ca, rfl, ha, ra⟩ := h1
  obtain ⟨lb, cb, rfl, hb, rb⟩ := h2
  obtain ⟨A1, c1, rfl, hc1, k1⟩ := Kd.R_reads ra
  obtain ⟨A2, c2, rfl, hc2, k2⟩ := Kd.R_reads rb
  obtain ⟨r1, r2, hr, r1can, r2can, r1val, r2val⟩ := div_f la lb ca.1 cb hb0 (by omega) (by omega) 10000 (by omega)
  refine (sponsionref01_Div.calls 10000 A1 c1 la A2 c2 lb r1 r2 w k1 hc1 k2 hc2 hr).mono ?_
  rintro e w' ⟨v, v', rfl, hv, hv', hb'⟩
  have q1 : val la / val lb ≤ val la := Int.ediv_le_self _ ha0
  have q2 := Int.emod_lt_of_pos (val la) hb0
  exact ⟨v, v', rfl, RowV.of r1can r1val (by omega) (Kd.R_mono hv fun _ _ => trivial), RowV.of r2can r2val (by omega) (Kd.R_mono hv' fun _ _ => trivial), hb'⟩
/-- Trim: of digits that may end in noughts. -/
theorem trim_row {w : World} {v : Value} {l : List Int} (hd : Dg l) (hl : l.length ≤ 60) (h : Kd.R (Kd.int .i64) 3 w 0 (fun _ => True) v l) :
    Calls Try.prog 36 #[v] w fun e w' => ∃ v', e = .returned v' ∧ RowV w' v' (val l) ∧ Below w.heap.size w w' := by
  obtain ⟨r, hr, rcan, rval⟩ := trim_f l (by omega) hd 1000 (by omega)
  have hB : Below ({ w with heap := #[] } : World).heap.size { w with heap := #[] } w := ⟨rfl, rfl, rfl, Nat.zero_le _, fun k hk => absurd hk (Nat.not_lt_zero k)⟩
  refine (trim_calls 1000 (fun _ => True) v l r { w with heap := #[] } w hB h hr).mono ?_
  rintro e w' ⟨v', rfl, hv', hb, hk⟩
  have hlen := val_bd hd
  have h60 := B16_mono hl
  exact ⟨v', rfl, RowV.of rcan rval (by omega) (Kd.R_mono hv' fun _ _ => trivial), ⟨hb.os, hb.tape, hb.output, hk.1, fun k hlt => hk.2 k hlt (fun x => x)⟩⟩
end Go.Proofs.Ytgjdegahofoalaa.RN
