/- Plain numbers: limbs of 64 bits, their sums, differences, products. No program in sight. -/
import Derived.WalkKit
set_option linter.unusedVariables false
set_option linter.unusedSimpArgs false
namespace Go.Proofs.Ytgjdegahofoalaa
open Go.RowKit

/-- A limb. -/
def U64 (x : Int) : Prop := 0 ≤ x ∧ x < 18446744073709551616
def lo (x : Int) : Int := x % 18446744073709551616
def hi (x : Int) : Int := x / 18446744073709551616
theorem lo_u (x : Int) : U64 (lo x) := by unfold U64 lo; omega
theorem lo_id {x : Int} (h : U64 x) : lo x = x := by unfold U64 at h; unfold lo; omega
theorem lo_hi (x : Int) : lo x + 18446744073709551616 * hi x = x := by unfold lo hi; omega
theorem wrap_lo (x : Int) : IntKind.u64.wrap x = lo x := by simp [IntKind.wrap, IntKind.bits, IntKind.signed, lo]
def bitOf (b : Bool) : Int := if b then 1 else 0

/-- A number of 256 bits. -/
def U256 (n : Int) : Prop := 0 ≤ n ∧ n < 115792089237316195423570985008687907853269984665640564039457584007913129639936
def L0 (n : Int) : Int := lo n
def L1 (n : Int) : Int := lo (hi n)
def L2 (n : Int) : Int := lo (hi (hi n))
def L3 (n : Int) : Int := lo (hi (hi (hi n)))
def V4 (a b c d : Int) : Int := a + 18446744073709551616 * (b + 18446744073709551616 * (c + 18446744073709551616 * d))
theorem V4_L {n : Int} (h : U256 n) : V4 (L0 n) (L1 n) (L2 n) (L3 n) = n := by
  unfold U256 at h
  unfold V4 L0 L1 L2 L3 lo hi
  omega
theorem V4_u {a b c d : Int} (ha : U64 a) (hb : U64 b) (hc : U64 c) (hd : U64 d) : U256 (V4 a b c d) := by
  unfold U64 at *
  unfold U256 V4
  omega
theorem L0_V {a b c d : Int} (ha : U64 a) : L0 (V4 a b c d) = a := by
  unfold U64 at *
  unfold L0 V4 lo
  omega
theorem hi_V {a b c d : Int} (ha : U64 a) : hi (V4 a b c d) = b + 18446744073709551616 * (c + 18446744073709551616 * d) := by
  unfold U64 at *
  unfold V4 hi
  omega
theorem L1_V {a b c d : Int} (ha : U64 a) (hb : U64 b) : L1 (V4 a b c d) = b := by
  unfold L1
  rw [hi_V ha]
  unfold U64 at *
  unfold lo
  omega
theorem hi2_V {b c d : Int} (hb : U64 b) : hi (b + 18446744073709551616 * (c + 18446744073709551616 * d)) = c + 18446744073709551616 * d := by
  unfold U64 at *
  unfold hi
  omega
theorem L2_V {a b c d : Int} (ha : U64 a) (hb : U64 b) (hc : U64 c) : L2 (V4 a b c d) = c := by
  unfold L2
  rw [hi_V ha, hi2_V hb]
  unfold U64 at *
  unfold lo
  omega
theorem L3_V {a b c d : Int} (ha : U64 a) (hb : U64 b) (hc : U64 c) (hd : U64 d) : L3 (V4 a b c d) = d := by
  unfold L3
  rw [hi_V ha, hi2_V hb]
  unfold U64 at *
  unfold hi lo
  omega
theorem L0_u (n : Int) : U64 (L0 n) := lo_u _
theorem L1_u (n : Int) : U64 (L1 n) := lo_u _
theorem L2_u (n : Int) : U64 (L2 n) := lo_u _
theorem L3_u (n : Int) : U64 (L3 n) := lo_u _
/-- Two numbers are one if their limbs are. -/
theorem L_inj {x y : Int} (hx : U256 x) (hy : U256 y) (h0 : L0 x = L0 y) (h1 : L1 x = L1 y) (h2 : L2 x = L2 y) (h3 : L3 x = L3 y) : x = y := by
  rw [← V4_L hx, ← V4_L hy, h0, h1, h2, h3]

/-! ### sums -/
def addS (a b c : Int) : Int × Int := (lo (a + b + c), hi (a + b + c))
def bit01 (c : Int) : Prop := c = 0 ∨ c = 1
theorem hi_add {a b c : Int} (ha : U64 a) (hb : U64 b) (hc : bit01 c) : bit01 (hi (a + b + c)) := by
  unfold U64 bit01 at *
  unfold hi
  omega
theorem bits_or_bool (p q : Bool) : Go.bits .or .u64 (bitOf p) (bitOf q) = bitOf (p || q) := by
  cases p <;> cases q <;> decide
theorem add_raw0 {a b : Int} (ha : U64 a) (hb : U64 b) : IntKind.u64.wrap (a + b) = lo (a + b + 0) ∧ bitOf (decide (IntKind.u64.wrap (a + b) < a)) = hi (a + b + 0) := by
  rw [wrap_lo, Int.add_zero]
  refine ⟨rfl, ?_⟩
  unfold U64 at *
  by_cases h : a + b < 18446744073709551616
  · have h1 : lo (a + b) = a + b := by unfold lo; omega
    have h2 : hi (a + b) = 0 := by unfold hi; omega
    rw [h1, h2, decide_eq_false (by omega)]; rfl
  · have h1 : lo (a + b) = a + b - 18446744073709551616 := by unfold lo; omega
    have h2 : hi (a + b) = 1 := by unfold hi; omega
    rw [h1, h2, decide_eq_true (by omega)]; rfl
theorem add_raw1 {a b : Int} (ha : U64 a) (hb : U64 b) : IntKind.u64.wrap (IntKind.u64.wrap (a + b) + 1) = lo (a + b + 1) ∧
    Go.bits .or .u64 (bitOf (decide (IntKind.u64.wrap (a + b) < a))) (bitOf (IntKind.u64.wrap (IntKind.u64.wrap (a + b) + 1) == 0)) = hi (a + b + 1) := by
  rw [wrap_lo, wrap_lo, bits_or_bool]
  unfold U64 at *
  have e : lo (lo (a + b) + 1) = lo (a + b + 1) := by unfold lo; omega
  rw [e]
  refine ⟨rfl, ?_⟩
  by_cases h : a + b < 18446744073709551615
  · have h1 : lo (a + b) = a + b := by unfold lo; omega
    have h2 : hi (a + b + 1) = 0 := by unfold hi; omega
    have h3 : lo (a + b + 1) = a + b + 1 := by unfold lo; omega
    rw [h1, h2, h3, decide_eq_false (by omega), beq_eq_false_iff_ne.2 (by omega)]; rfl
  · have h2 : hi (a + b + 1) = 1 := by unfold hi; omega
    by_cases h' : a + b = 18446744073709551615
    · have h3 : lo (a + b + 1) = 0 := by unfold lo; omega
      rw [h2, h3]
      show bitOf (_ || true) = 1
      rw [Bool.or_true]; rfl
    · have h1 : lo (a + b) = a + b - 18446744073709551616 := by unfold lo; omega
      rw [h1, h2, decide_eq_true (by omega)]; rfl
theorem hi_step (a b c : Int) : hi (lo a + lo b + (c - a - b)) = hi c - hi a - hi b ∧ lo (lo a + lo b + (c - a - b)) = lo c := by unfold hi lo; omega
theorem sum4 (x y : Int) :
    lo (L0 x + L0 y + 0) = L0 (x + y) ∧ lo (L1 x + L1 y + hi (L0 x + L0 y + 0)) = L1 (x + y) ∧
    lo (L2 x + L2 y + hi (L1 x + L1 y + hi (L0 x + L0 y + 0))) = L2 (x + y) ∧
    lo (L3 x + L3 y + hi (L2 x + L2 y + hi (L1 x + L1 y + hi (L0 x + L0 y + 0)))) = L3 (x + y) ∧
    hi (L3 x + L3 y + hi (L2 x + L2 y + hi (L1 x + L1 y + hi (L0 x + L0 y + 0)))) = hi (hi (hi (hi (x + y)))) - hi (hi (hi (hi x))) - hi (hi (hi (hi y))) := by
  have e0 : L0 x + L0 y + 0 = lo x + lo y + ((x + y) - x - y) := by unfold L0; omega
  have h0 := hi_step x y (x + y)
  have h1 := hi_step (hi x) (hi y) (hi (x + y))
  have h2 := hi_step (hi (hi x)) (hi (hi y)) (hi (hi (x + y)))
  have h3 := hi_step (hi (hi (hi x))) (hi (hi (hi y))) (hi (hi (hi (x + y))))
  rw [e0]
  unfold L0 L1 L2 L3
  rw [h0.1, h0.2, h1.1, h1.2, h2.1, h2.2, h3.1, h3.2]
  exact ⟨rfl, rfl, rfl, rfl, rfl⟩
theorem hi4_0 {x : Int} (h : U256 x) : hi (hi (hi (hi x))) = 0 := by unfold U256 at h; unfold hi; omega
theorem hi4_1 {x : Int} (h0 : 115792089237316195423570985008687907853269984665640564039457584007913129639936 ≤ x) (h1 : x < 231584178474632390847141970017375815706539969331281128078915168015826259279872) : hi (hi (hi (hi x))) = 1 := by unfold hi; omega
theorem hi4_n {x : Int} (h0 : -115792089237316195423570985008687907853269984665640564039457584007913129639936 ≤ x) (h1 : x < 0) : hi (hi (hi (hi x))) = -1 := by unfold hi; omega

/-! ### differences -/
def subS (a b c : Int) : Int × Int := (lo (a - b - c), - hi (a - b - c))
theorem hi_sub {a b c : Int} (ha : U64 a) (hb : U64 b) (hc : bit01 c) : bit01 (- hi (a - b - c)) := by
  unfold U64 bit01 at *
  unfold hi
  omega
theorem sub_raw0 {a b : Int} (ha : U64 a) (hb : U64 b) : IntKind.u64.wrap (a - b) = lo (a - b - 0) ∧ bitOf (decide (a < b)) = - hi (a - b - 0) := by
  rw [wrap_lo, Int.sub_zero]
  refine ⟨rfl, ?_⟩
  unfold U64 at *
  by_cases h : a < b
  · have h2 : hi (a - b) = -1 := by unfold hi; omega
    rw [h2, decide_eq_true h]; rfl
  · have h2 : hi (a - b) = 0 := by unfold hi; omega
    rw [h2, decide_eq_false h]; rfl
theorem sub_raw1 {a b : Int} (ha : U64 a) (hb : U64 b) : IntKind.u64.wrap (IntKind.u64.wrap (a - b) - 1) = lo (a - b - 1) ∧
    Go.bits .or .u64 (bitOf (decide (a < b))) (bitOf (IntKind.u64.wrap (a - b) == 0)) = - hi (a - b - 1) := by
  rw [wrap_lo, wrap_lo, bits_or_bool]
  unfold U64 at *
  have e : lo (lo (a - b) - 1) = lo (a - b - 1) := by unfold lo; omega
  rw [e]
  refine ⟨rfl, ?_⟩
  by_cases h : a < b
  · have h2 : hi (a - b - 1) = -1 := by unfold hi; omega
    rw [h2, decide_eq_true h]; rfl
  · by_cases h' : a = b
    · have h2 : hi (a - b - 1) = -1 := by unfold hi; omega
      have h3 : lo (a - b) = 0 := by unfold lo; omega
      rw [h2, h3]
      show bitOf (_ || true) = 1
      rw [Bool.or_true]; rfl
    · have h2 : hi (a - b - 1) = 0 := by unfold hi; omega
      have h3 : lo (a - b) = a - b := by unfold lo; omega
      rw [h2, h3, decide_eq_false h, beq_eq_false_iff_ne.2 (by omega)]; rfl
theorem lo_step (a b c : Int) : hi (lo a - lo b - (-(c - a + b))) = hi c - hi a + hi b ∧ lo (lo a - lo b - (-(c - a + b))) = lo c := by unfold hi lo; omega
theorem diff4 (x y : Int) :
    lo (L0 x - L0 y - 0) = L0 (x - y) ∧ lo (L1 x - L1 y - -hi (L0 x - L0 y - 0)) = L1 (x - y) ∧
    lo (L2 x - L2 y - -hi (L1 x - L1 y - -hi (L0 x - L0 y - 0))) = L2 (x - y) ∧
    lo (L3 x - L3 y - -hi (L2 x - L2 y - -hi (L1 x - L1 y - -hi (L0 x - L0 y - 0)))) = L3 (x - y) ∧
    hi (L3 x - L3 y - -hi (L2 x - L2 y - -hi (L1 x - L1 y - -hi (L0 x - L0 y - 0)))) = hi (hi (hi (hi (x - y)))) - hi (hi (hi (hi x))) + hi (hi (hi (hi y))) := by
  have e0 : L0 x - L0 y - 0 = lo x - lo y - (-((x - y) - x + y)) := by unfold L0; omega
  have h0 := lo_step x y (x - y)
  have h1 := lo_step (hi x) (hi y) (hi (x - y))
  have h2 := lo_step (hi (hi x)) (hi (hi y)) (hi (hi (x - y)))
  have h3 := lo_step (hi (hi (hi x))) (hi (hi (hi y))) (hi (hi (hi (x - y))))
  rw [e0]
  unfold L0 L1 L2 L3
  rw [h0.1, h0.2, h1.1, h1.2, h2.1, h2.2, h3.1, h3.2]
  exact ⟨rfl, rfl, rfl, rfl, rfl⟩

/-! ### products -/
theorem mul_halves {a1 a0 b1 b0 p11 p10 p01 p00 : Int} (h11 : p11 = a1 * b1) (h10 : p10 = a1 * b0) (h01 : p01 = a0 * b1) (h00 : p00 = a0 * b0) :
    (a1 * 4294967296 + a0) * (b1 * 4294967296 + b0) = p11 * 18446744073709551616 + (p10 + p01) * 4294967296 + p00 := by
  subst h11; subst h10; subst h01; subst h00
  simp only [Int.add_mul, Int.mul_add]
  have e1 : a1 * 4294967296 * (b1 * 4294967296) = a1 * b1 * 18446744073709551616 := by
    rw [Int.mul_assoc, Int.mul_left_comm 4294967296 b1, ← Int.mul_assoc]
    rfl
  have e2 : a1 * 4294967296 * b0 = a1 * b0 * 4294967296 := by rw [Int.mul_assoc, Int.mul_comm 4294967296, ← Int.mul_assoc]
  have e3 : a0 * (b1 * 4294967296) = a0 * b1 * 4294967296 := by rw [← Int.mul_assoc]
  rw [e1, e2, e3]
  omega
theorem mul_bd {a b : Int} (ha0 : 0 ≤ a) (ha : a ≤ 4294967295) (hb0 : 0 ≤ b) (hb : b ≤ 4294967295) : 0 ≤ a * b ∧ a * b ≤ 18446744065119617025 :=
  ⟨Int.mul_nonneg ha0 hb0, Int.le_trans (Int.mul_le_mul ha hb hb0 (by decide)) (by decide)⟩
theorem tdiv_pos {a : Int} (n : Int) (h : 0 ≤ a) : a.tdiv n = a / n := Int.tdiv_eq_ediv_of_nonneg h
theorem tmod_pos {a : Int} (n : Int) (h : 0 ≤ a) : a.tmod n = a % n := Int.tmod_eq_emod_of_nonneg h
theorem mul_raw {a b : Int} (ha : U64 a) (hb : U64 b) (a1 a0 b1 b0 low mid other : Int) (h1 : IntKind.u64.wrap (a.tdiv 4294967296) = a1) (h2 : a.tmod 4294967296 = a0) (h3 : IntKind.u64.wrap (b.tdiv 4294967296) = b1) (h4 : b.tmod 4294967296 = b0)
    (h5 : IntKind.u64.wrap (a0 * b0) = low) (h6 : IntKind.u64.wrap (IntKind.u64.wrap (a1 * b0) + IntKind.u64.wrap (low.tdiv 4294967296)) = mid) (h7 : IntKind.u64.wrap (IntKind.u64.wrap (a0 * b1) + mid.tmod 4294967296) = other) :
    IntKind.u64.wrap (IntKind.u64.wrap (IntKind.u64.wrap (a1 * b1) + IntKind.u64.wrap (mid.tdiv 4294967296)) + IntKind.u64.wrap (other.tdiv 4294967296)) = hi (a * b) ∧ IntKind.u64.wrap (a * b) = lo (a * b) := by
  refine ⟨?_, wrap_lo _⟩
  unfold U64 at ha hb
  simp only [wrap_lo] at *
  rw [tdiv_pos _ ha.1] at h1
  rw [tmod_pos _ ha.1] at h2
  rw [tdiv_pos _ hb.1] at h3
  rw [tmod_pos _ hb.1] at h4
  have ea1 : a1 = a / 4294967296 := by rw [← h1]; unfold lo; omega
  have eb1 : b1 = b / 4294967296 := by rw [← h3]; unfold lo; omega
  have ea : a = a1 * 4294967296 + a0 := by omega
  have eb : b = b1 * 4294967296 + b0 := by omega
  have g11 := mul_bd (a := a1) (b := b1) (by omega) (by omega) (by omega) (by omega)
  have g10 := mul_bd (a := a1) (b := b0) (by omega) (by omega) (by omega) (by omega)
  have g01 := mul_bd (a := a0) (b := b1) (by omega) (by omega) (by omega) (by omega)
  have g00 := mul_bd (a := a0) (b := b0) (by omega) (by omega) (by omega) (by omega)
  have e := mul_halves (a1 := a1) (a0 := a0) (b1 := b1) (b0 := b0) rfl rfl rfl rfl
  rw [← ea, ← eb] at e
  generalize a1 * b1 = p11 at *
  generalize a1 * b0 = p10 at *
  generalize a0 * b1 = p01 at *
  generalize a0 * b0 = p00 at *
  have e5 : low = p00 := by rw [← h5]; unfold lo; omega
  subst e5
  rw [tdiv_pos _ g00.1] at h6
  have e6 : mid = p10 + low / 4294967296 := by rw [← h6]; unfold lo; omega
  have hm : 0 ≤ mid := by omega
  rw [tmod_pos _ hm] at h7
  rw [tdiv_pos _ hm]
  have e7 : other = p01 + mid % 4294967296 := by rw [← h7]; unfold lo; omega
  rw [tdiv_pos _ (by omega : 0 ≤ other)]
  rw [e]
  unfold hi lo
  omega
end Go.Proofs.Ytgjdegahofoalaa

/- Plain numbers: a number of several limbs times a limb, added to another one. -/
namespace Go.Proofs.Ytgjdegahofoalaa
open Go.RowKit
def L4 (n : Int) : Int := lo (hi (hi (hi (hi n))))
theorem hi_mul_add (a y n o : Int) : hi (o + a * y + n) = hi (lo a * y + lo n + o) + hi a * y + hi n ∧ lo (o + a * y + n) = lo (lo a * y + lo n + o) := by
  have e : a * y = lo a * y + 18446744073709551616 * (hi a * y) := by
    have h := lo_hi a
    have : a * y = (lo a + 18446744073709551616 * hi a) * y := by rw [h]
    rw [this, Int.add_mul, Int.mul_assoc]
  rw [e]
  generalize lo a * y = p
  generalize hi a * y = q
  unfold hi lo
  omega
theorem mul_bound {a y : Int} (ha : U64 a) (hy : U64 y) : 0 ≤ a * y ∧ a * y ≤ 340282366920938463426481119284349108225 :=
  ⟨Int.mul_nonneg ha.1 hy.1, Int.le_trans (Int.mul_le_mul (Int.le_of_lt_add_one ha.2 : a ≤ 18446744073709551615) (Int.le_of_lt_add_one hy.2 : y ≤ 18446744073709551615) hy.1 (by decide)) (by decide)⟩
/-- One step of mulAdd, as it computes it. -/
theorem mul_step {a y t o : Int} (ha : U64 a) (hy : U64 y) (ht : U64 t) (ho : U64 o) :
    lo (t + lo (lo (a * y) + o)) = lo (a * y + t + o) ∧ IntKind.u64.wrap (IntKind.u64.wrap (hi (a * y) + hi (lo (a * y) + o)) + hi (t + lo (lo (a * y) + o))) = hi (a * y + t + o) ∧ U64 (hi (a * y + t + o)) := by
  have h := mul_bound ha hy
  simp only [wrap_lo]
  generalize a * y = p at *
  unfold U64 at *
  unfold hi lo
  omega
theorem mul_step0 {a y t : Int} (ha : U64 a) (hy : U64 y) (ht : U64 t) :
    lo (t + lo (lo (a * y))) = lo (a * y + t + 0) ∧ IntKind.u64.wrap (IntKind.u64.wrap (hi (a * y) + hi (lo (a * y))) + hi (t + lo (lo (a * y)))) = hi (a * y + t + 0) ∧ U64 (hi (a * y + t + 0)) := by
  have h := mul_step ha hy ht (o := 0) ⟨by decide, by decide⟩
  simp only [Int.add_zero] at h ⊢
  exact h
def L5 (n : Int) : Int := lo (hi (hi (hi (hi (hi n)))))
def L6 (n : Int) : Int := lo (hi (hi (hi (hi (hi (hi n))))))
def L7 (n : Int) : Int := lo (hi (hi (hi (hi (hi (hi (hi n)))))))
theorem L4_u (n : Int) : U64 (L4 n) := lo_u _
theorem L5_u (n : Int) : U64 (L5 n) := lo_u _
theorem L6_u (n : Int) : U64 (L6 n) := lo_u _
theorem L7_u (n : Int) : U64 (L7 n) := lo_u _
theorem prod_step (x y m : Int) : hi (m + x * y) = hi (m + x * lo y) + x * hi y ∧ lo (m + x * y) = lo (m + x * lo y) := by
  have e : x * y = x * lo y + 18446744073709551616 * (x * hi y) := by
    have h := lo_hi y
    have : x * y = x * (lo y + 18446744073709551616 * hi y) := by rw [h]
    rw [this, Int.mul_add, Int.mul_left_comm]
  rw [e]
  generalize x * lo y = p
  generalize x * hi y = q
  unfold hi lo
  omega
theorem prod_bound {x l m : Int} (ux : U256 x) (ul : U64 l) (hm : U256 m) : U256 (hi (m + x * l)) := by
  have h0 := Int.mul_nonneg ux.1 ul.1
  have h1 : x * l ≤ 115792089237316195423570985008687907853269984665640564039457584007913129639935 * 18446744073709551615 :=
    Int.mul_le_mul (Int.le_of_lt_add_one ux.2) (Int.le_of_lt_add_one ul.2 : l ≤ 18446744073709551615) ul.1 (by decide)
  generalize x * l = p at *
  unfold U256 at *
  unfold hi
  omega
/-- The partial sums of Product, and the limbs of the whole. -/
theorem prod_limbs {x y m0 m1 m2 m3 : Int} (ux : U256 x) (uy : U256 y) (e0 : x * L0 y = m0) (e1 : hi m0 + x * L1 y = m1) (e2 : hi m1 + x * L2 y = m2) (e3 : hi m2 + x * L3 y = m3) :
    U256 (hi m0) ∧ U256 (hi m1) ∧ U256 (hi m2) ∧ L0 m0 = L0 (x * y) ∧ L0 m1 = L1 (x * y) ∧ L0 m2 = L2 (x * y) ∧ L0 m3 = L3 (x * y) ∧ L1 m3 = L4 (x * y) ∧ L2 m3 = L5 (x * y) ∧ L3 m3 = L6 (x * y) ∧ L4 m3 = L7 (x * y) := by
  have s0 := prod_step x y 0
  have s1 := prod_step x (hi y) (hi m0)
  have s2 := prod_step x (hi (hi y)) (hi m1)
  have z : U256 0 := ⟨by decide, by decide⟩
  simp only [Int.zero_add] at s0
  rw [show x * lo y = m0 from e0] at s0
  rw [show hi m0 + x * lo (hi y) = m1 from e1] at s1
  rw [show hi m1 + x * lo (hi (hi y)) = m2 from e2] at s2
  have k1 : hi (hi (x * y)) = hi m1 + x * hi (hi y) := by rw [s0.1]; exact s1.1
  have k2 : hi (hi (hi (x * y))) = hi m2 + x * hi (hi (hi y)) := by rw [k1]; exact s2.1
  have l3 : hi (hi (hi y)) = L3 y := by
    have := hi4_0 uy
    unfold L3 lo
    unfold hi at this ⊢
    omega
  have k3 : hi (hi (hi (x * y))) = m3 := by rw [k2, l3]; exact e3
  have b0 : U256 (hi m0) := by have := prod_bound ux (L0_u y) z; rwa [Int.zero_add, e0] at this
  have b1 : U256 (hi m1) := by have := prod_bound ux (L1_u y) b0; rwa [e1] at this
  have b2 : U256 (hi m2) := by have := prod_bound ux (L2_u y) b1; rwa [e2] at this
  refine ⟨b0, b1, b2, s0.2.symm, ?_, ?_, ?_, ?_, ?_, ?_, ?_⟩
  · show lo m1 = lo (hi (x * y)); rw [s0.1]; exact s1.2.symm
  · show lo m2 = lo (hi (hi (x * y))); rw [k1]; exact s2.2.symm
  · show lo m3 = lo (hi (hi (hi (x * y)))); rw [k3]
  · show lo (hi m3) = lo (hi (hi (hi (hi (x * y))))); rw [k3]
  · show lo (hi (hi m3)) = lo (hi (hi (hi (hi (hi (x * y)))))); rw [k3]
  · show lo (hi (hi (hi m3))) = lo (hi (hi (hi (hi (hi (hi (x * y))))))); rw [k3]
  · show lo (hi (hi (hi (hi m3)))) = lo (hi (hi (hi (hi (hi (hi (hi (x * y)))))))); rw [k3]
end Go.Proofs.Ytgjdegahofoalaa

/- Plain numbers: one limb of a long division. -/
namespace Go.Proofs.Ytgjdegahofoalaa
open Go.RowKit
theorem ms' {a y o : Int} (ha : U64 a) (hy : U64 y) (ho : U64 o) :
    lo (lo (a * y) + o) = lo (o + a * y) ∧ IntKind.u64.wrap (hi (a * y) + hi (lo (a * y) + o)) = hi (o + a * y) ∧ U64 (hi (o + a * y)) := by
  have h := mul_bound ha hy
  simp only [wrap_lo]
  generalize a * y = p at *
  unfold U64 at *
  unfold hi lo
  omega
theorem ms0 {a y : Int} (ha : U64 a) (hy : U64 y) :
    lo (lo (a * y)) = lo (0 + a * y) ∧ IntKind.u64.wrap (hi (a * y) + hi (lo (a * y))) = hi (0 + a * y) ∧ U64 (hi (0 + a * y)) := by
  have h := ms' ha hy (o := 0) ⟨by decide, by decide⟩
  simp only [Int.add_zero] at h
  exact h
theorem sub_first (a b : Int) : hi (lo a - lo b) = hi (a - b) - hi a + hi b ∧ lo (lo a - lo b) = lo (a - b) := by unfold hi lo; omega
theorem sub_next (a b c : Int) : hi (lo a - lo b - -(c - a + b)) = hi c - hi a + hi b ∧ lo (lo a - lo b - -(c - a + b)) = lo c := by unfold hi lo; omega
theorem add_first (a b : Int) : hi (lo a + lo b) = hi (a + b) - hi a - hi b ∧ lo (lo a + lo b) = lo (a + b) := by unfold hi lo; omega
theorem add_next (a b c : Int) : hi (lo a + lo b + (c - a - b)) = hi c - hi a - hi b ∧ lo (lo a + lo b + (c - a - b)) = lo c := hi_step a b c
theorem add_last (a c : Int) : hi (lo a + (c - a - 0)) = hi c - hi a ∧ lo (lo a + (c - a - 0)) = lo c := by unfold hi lo; omega
theorem bit_sub_first {a b : Int} : bit01 (-(hi (a - b) - hi a + hi b)) := by unfold bit01 hi; omega
theorem bit_sub_next {a b c : Int} (h : bit01 (-(c - a + b))) : bit01 (-(hi c - hi a + hi b)) := by unfold bit01 at *; unfold hi; omega
theorem bit_add_first {a b : Int} : bit01 (hi (a + b) - hi a - hi b) := by unfold bit01 hi; omega
theorem bit_add_next {a b c : Int} (h : bit01 (c - a - b)) : bit01 (hi c - hi a - hi b) := by unfold bit01 at *; unfold hi; omega
/-- The guess by the two highest limbs: never too small, and at most two too great. -/
theorem guess_bounds {B U V ut vt g : Int} (hB : 0 < B) (hU1 : ut * B ≤ U) (hU2 : U < (ut + 1) * B) (hV1 : vt * B ≤ V) (hV2 : V < (vt + 1) * B) (hn : 18446744073709551616 ≤ 2 * vt) (hut : 0 ≤ ut)
    (hUV : U < V * 18446744073709551616) (hg : (ut < vt * 18446744073709551616 ∧ g = ut / vt) ∨ (vt * 18446744073709551616 ≤ ut ∧ g = 18446744073709551615)) :
    0 ≤ g ∧ g ≤ 18446744073709551615 ∧ U / V ≤ g ∧ g ≤ U / V + 2 := by
  have hvt : 0 < vt := by omega
  have hV0 : 0 < V := by have := Int.mul_pos hvt hB; omega
  have hU0 : 0 ≤ U := by have := Int.mul_nonneg hut (Int.le_of_lt hB); omega
  obtain ⟨q, hq⟩ : ∃ q, q = U / V := ⟨_, rfl⟩
  have hq0 : 0 ≤ q := by rw [hq]; exact Int.ediv_nonneg hU0 (by omega)
  have hqV : q * V ≤ U := by rw [hq]; exact Int.ediv_mul_le U (by omega)
  have hqV2 : U < (q + 1) * V := by
    have := Int.lt_ediv_add_one_mul_self U hV0
    rw [hq]; exact this
  have hqM : q < 18446744073709551616 := by
    rw [hq, Int.ediv_lt_iff_lt_mul hV0, Int.mul_comm]
    exact hUV
  -- q is at most the guess by the highest limbs
  have hqt : q * vt ≤ ut := by
    have h1 : q * (vt * B) ≤ q * V := Int.mul_le_mul_of_nonneg_left hV1 hq0
    have h2 : (q * vt) * B < (ut + 1) * B := by rw [Int.mul_assoc]; omega
    have := Int.lt_of_mul_lt_mul_right h2 (Int.le_of_lt hB)
    omega
  -- the guess, by the highest limbs
  have hgv : g * vt ≤ ut := by
    rcases hg with ⟨_, e⟩ | ⟨h, e⟩
    · rw [e]; exact Int.ediv_mul_le ut (by omega)
    · rw [e]
      have : (18446744073709551615 : Int) * vt = vt * 18446744073709551616 - vt := by omega
      omega
  have hg1 : g ≤ 18446744073709551615 ∧ q ≤ g := by
    rcases hg with ⟨h, e⟩ | ⟨h, e⟩
    · have h1 : q ≤ ut / vt := (Int.le_ediv_iff_mul_le hvt).2 hqt
      have h2 : ut / vt < 18446744073709551616 := by
        rw [Int.ediv_lt_iff_lt_mul hvt, Int.mul_comm]; exact h
      omega
    · omega
  refine ⟨by omega, hg1.1, by rw [← hq]; exact hg1.2, ?_⟩
  rw [← hq]
  -- and at most two more
  by_cases hle : g ≤ q + 2
  · exact hle
  · exfalso
    have h1 : (q + 3) * vt ≤ g * vt := Int.mul_le_mul_of_nonneg_right (by omega) (by omega)
    have h2 : (g * vt) * B ≤ ut * B := Int.mul_le_mul_of_nonneg_right hgv (Int.le_of_lt hB)
    have h3 : (q + 1) * V ≤ (q + 1) * ((vt + 1) * B) := Int.mul_le_mul_of_nonneg_left (Int.le_of_lt hV2) (by omega)
    have h4 : ((q + 3) * vt) * B ≤ (g * vt) * B := Int.mul_le_mul_of_nonneg_right h1 (Int.le_of_lt hB)
    have h5 : ((q + 3) * vt) * B < ((q + 1) * (vt + 1)) * B := by rw [Int.mul_assoc (q + 1)]; omega
    have h6 := Int.lt_of_mul_lt_mul_right h5 (Int.le_of_lt hB)
    have e1 : (q + 3) * vt = (q + 1) * vt + 2 * vt := by rw [← Int.add_mul]; congr 1; omega
    have e2 : (q + 1) * (vt + 1) = (q + 1) * vt + (q + 1) := by rw [Int.mul_add, Int.mul_one]
    omega
theorem div_of {U V q : Int} (hV : 0 < V) (h0 : 0 ≤ U - q * V) (h1 : U - q * V < V) : U / V = q ∧ U % V = U - q * V := by
  have e : U = (U - q * V) + q * V := by omega
  constructor
  · rw [e, Int.add_mul_ediv_right _ _ (by omega), Int.ediv_eq_zero_of_lt h0 h1]; omega
  · have : U % V = (U - q * V) % V := by rw [← Int.sub_mul_emod_self_right U q V]
    rw [this, Int.emod_eq_of_lt h0 h1]
end Go.Proofs.Ytgjdegahofoalaa
