/- Plain numbers: limbs of 64 bits, their sums, differences, products. No program in sight. -/
import Derived.WalkKit
namespace Go.Proofs.Ytjikhdjkpagjmaa
open Go.RowKit

/-- A limb. -/
def U64 (x : Int) : Prop := 0 ≤ x ∧ x < 18446744073709551616
def lo (x : Int) : Int := x % 18446744073709551616
def hi (x : Int) : Int := x / 18446744073709551616
theorem lo_u (x : Int) : U64 (lo x) := by unfold U64 lo; omega
theorem lo_id {x : Int} (h : U64 x) : lo x = x := by unfold U64 at h; unfold lo; omega
theorem lo_hi (x : Int) : lo x + 18446744073709551616 * hi x = x := by unfold lo hi; omega
theorem wrap_lo (x : Int) : IntKind.u64.wrap x = lo x := by simp [IntKind.wrap, IntKind.bits, IntKind.signed, lo]
def bitOf (b : Bool) : Int := if b then 1 else 0

/-- A number of 256 bits. -/
def U256 (n : Int) : Prop := 0 ≤ n ∧ n < 115792089237316195423570985008687907853269984665640564039457584007913129639936
def L0 (n : Int) : Int := lo n
def L1 (n : Int) : Int := lo (hi n)
def L2 (n : Int) : Int := lo (hi (hi n))
def L3 (n : Int) : Int := lo (hi (hi (hi n)))
def V4 (a b c d : Int) : Int := a + 18446744073709551616 * (b + 18446744073709551616 * (c + 18446744073709551616 * d))
theorem V4_L {n : Int} (h : U256 n) : V4 (L0 n) (L1 n) (L2 n) (L3 n) = n := by
  unfold U256 at h
  unfold V4 L0 L1 L2 L3 lo hi
  omega
theorem V4_u {a b c d : Int} (ha : U64 a) (hb : U64 b) (hc : U64 c) (hd : U64 d) : U256 (V4 a b c d) := by
  unfold U64 at *
  unfold U256 V4
  omega
theorem L0_V {a b c d : Int} (ha : U64 a) : L0 (V4 a b c d) = a := by
  unfold U64 at *
  unfold L0 V4 lo
  omega
theorem hi_V {a b c d : Int} (ha : U64 a) : hi (V4 a b c d) = b + 18446744073709551616 * (c + 18446744073709551616 * d) := by
  unfold U64 at *
  unfold V4 hi
  omega
theorem L1_V {a b c d : Int} (ha : U64 a) (hb : U64 b) : L1 (V4 a b c d) = b := by
  unfold L1
  rw [hi_V ha]
  unfold U64 at *
  unfold lo
  omega
theorem hi2_V {b c d : Int} (hb : U64 b) : hi (b + 18446744073709551616 * (c + 18446744073709551616 * d)) = c + 18446744073709551616 * d := by
  unfold U64 at *
  unfold hi
  omega
theorem L2_V {a b c d : Int} (ha : U64 a) (hb : U64 b) (hc : U64 c) : L2 (V4 a b c d) = c := by
  unfold L2
  rw [hi_V ha, hi2_V hb]
  unfold U64 at *
  unfold lo
  omega
theorem L3_V {a b c d : Int} (ha : U64 a) (hb : U64 b) (hc : U64 c) (hd : U64 d) : L3 (V4 a b c d) = d := by
  unfold L3
  rw [hi_V ha, hi2_V hb]
  unfold U64 at *
  unfold hi lo
  omega
theorem L0_u (n : Int) : U64 (L0 n) := lo_u _
theorem L1_u (n : Int) : U64 (L1 n) := lo_u _
theorem L2_u (n : Int) : U64 (L2 n) := lo_u _
theorem L3_u (n : Int) : U64 (L3 n) := lo_u _
/-- Two numbers are one if their limbs are. -/
theorem L_inj {x y : Int} (hx : U256 x) (hy : U256 y) (h0 : L0 x = L0 y) (h1 : L1 x = L1 y) (h2 : L2 x = L2 y) (h3 : L3 x = L3 y) : x = y := by
  rw [← V4_L hx, ← V4_L hy, h0, h1, h2, h3]

/-! ### sums -/
def addS (a b c : Int) : Int × Int := (lo (a + b + c), hi (a + b + c))
def bit01 (c : Int) : Prop := c = 0 ∨ c = 1
theorem hi_add {a b c : Int} (ha : U64 a) (hb : U64 b) (hc : bit01 c) : bit01 (hi (a + b + c)) := by
  unfold U64 bit01 at *
  unfold hi
  omega
theorem bits_or_bool (p q : Bool) : Go.bits .or .u64 (bitOf p) (bitOf q) = bitOf (p || q) := by
  cases p <;> cases q <;> decide
theorem add_raw0 {a b : Int} (ha : U64 a) (hb : U64 b) : IntKind.u64.wrap (a + b) = lo (a + b + 0) ∧ bitOf (decide (IntKind.u64.wrap (a + b) < a)) = hi (a + b + 0) := by
  rw [wrap_lo, Int.add_zero]
  refine ⟨rfl, ?_⟩
  unfold U64 at *
  by_cases h : a + b < 18446744073709551616
  · have h1 : lo (a + b) = a + b := by unfold lo; omega
    have h2 : hi (a + b) = 0 := by unfold hi; omega
    rw [h1, h2, decide_eq_false (by omega)]; rfl
  · have h1 : lo (a + b) = a + b - 18446744073709551616 := by unfold lo; omega
    have h2 : hi (a + b) = 1 := by unfold hi; omega
    rw [h1, h2, decide_eq_true (by omega)]; rfl
theorem add_raw1 {a b : Int} (ha : U64 a) (hb : U64 b) : IntKind.u64.wrap (IntKind.u64.wrap (a + b) + 1) = lo (a + b + 1) ∧
    Go.bits .or .u64 (bitOf (decide (IntKind.u64.wrap (a + b) < a))) (bitOf (IntKind.u64.wrap (IntKind.u64.wrap (a + b) + 1) == 0)) = hi (a + b + 1) := by
  rw [wrap_lo, wrap_lo, bits_or_bool]
  unfold U64 at *
  have e : lo (lo (a + b) + 1) = lo (a + b + 1) := by unfold lo; omega
  rw [e]
  refine ⟨rfl, ?_⟩
  by_cases h : a + b < 18446744073709551615
  · have h1 : lo (a + b) = a + b := by unfold lo; omega
    have h2 : hi (a + b + 1) = 0 := by unfold hi; omega
    have h3 : lo (a + b + 1) = a + b + 1 := by unfold lo; omega
    rw [h1, h2, h3, decide_eq_false (by omega), beq_eq_false_iff_ne.2 (by omega)]; rfl
  · have h2 : hi (a + b + 1) = 1 := by unfold hi; omega
    by_cases h' : a + b = 18446744073709551615
    · have h3 : lo (a + b + 1) = 0 := by unfold lo; omega
      rw [h2, h3]
      show bitOf (_ || true) = 1
      rw [Bool.or_true]; rfl
    · have h1 : lo (a + b) = a + b - 18446744073709551616 := by unfold lo; omega
      rw [h1, h2, decide_eq_true (by omega)]; rfl
theorem hi_step (a b c : Int) : hi (lo a + lo b + (c - a - b)) = hi c - hi a - hi b ∧ lo (lo a + lo b + (c - a - b)) = lo c := by unfold hi lo; omega
theorem sum4 (x y : Int) :
    lo (L0 x + L0 y + 0) = L0 (x + y) ∧ lo (L1 x + L1 y + hi (L0 x + L0 y + 0)) = L1 (x + y) ∧
    lo (L2 x + L2 y + hi (L1 x + L1 y + hi (L0 x + L0 y + 0))) = L2 (x + y) ∧
    lo (L3 x + L3 y + hi (L2 x + L2 y + hi (L1 x + L1 y + hi (L0 x + L0 y + 0)))) = L3 (x + y) ∧
    hi (L3 x + L3 y + hi (L2 x + L2 y + hi (L1 x + L1 y + hi (L0 x + L0 y + 0)))) = hi (hi (hi (hi (x + y)))) - hi (hi (hi (hi x))) - hi (hi (hi (hi y))) := by
  have e0 : L0 x + L0 y + 0 = lo x + lo y + ((x + y) - x - y) := by unfold L0; omega
  have h0 := hi_step x y (x + y)
  have h1 := hi_step (hi x) (hi y) (hi (x + y))
  have h2 := hi_step (hi (hi x)) (hi (hi y)) (hi (hi (x + y)))
  have h3 := hi_step (hi (hi (hi x))) (hi (hi (hi y))) (hi (hi (hi (x + y))))
  rw [e0]
  unfold L0 L1 L2 L3
  rw [h0.1, h0.2, h1.1, h1.2, h2.1, h2.2, h3.1, h3.2]
  exact ⟨rfl, rfl, rfl, rfl, rfl⟩
theorem hi4_0 {x : Int} (h : U256 x) : hi (hi (hi (hi x))) = 0 := by unfold U256 at h; unfold hi; omega
theorem hi4_1 {x : Int} (h0 : 115792089237316195423570985008687907853269984665640564039457584007913129639936 ≤ x) (h1 : x < 231584178474632390847141970017375815706539969331281128078915168015826259279872) : hi (hi (hi (hi x))) = 1 := by unfold hi; omega
theorem hi4_n {x : Int} (h0 : -115792089237316195423570985008687907853269984665640564039457584007913129639936 ≤ x) (h1 : x < 0) : hi (hi (hi (hi x))) = -1 := by unfold hi; omega

/-! ### differences -/
def subS (a b c : Int) : Int × Int := (lo (a - b - c), - hi (a - b - c))
theorem hi_sub {a b c : Int} (ha : U64 a) (hb : U64 b) (hc : bit01 c) : bit01 (- hi (a - b - c)) := by
  unfold U64 bit01 at *
  unfold hi
  omega
theorem sub_raw0 {a b : Int} (ha : U64 a) (hb : U64 b) : IntKind.u64.wrap (a - b) = lo (a - b - 0) ∧ bitOf (decide (a < b)) = - hi (a - b - 0) := by
  rw [wrap_lo, Int.sub_zero]
  refine ⟨rfl, ?_⟩
  unfold U64 at *
  by_cases h : a < b
  · have h2 : hi (a - b) = -1 := by unfold hi; omega
    rw [h2, decide_eq_true h]; rfl
  · have h2 : hi (a - b) = 0 := by unfold hi; omega
    rw [h2, decide_eq_false h]; rfl
theorem sub_raw1 {a b : Int} (ha : U64 a) (hb : U64 b) : IntKind.u64.wrap (IntKind.u64.wrap (a - b) - 1) = lo (a - b - 1) ∧
    Go.bits .or .u64 (bitOf (decide (a < b))) (bitOf (IntKind.u64.wrap (a - b) == 0)) = - hi (a - b - 1) := by
  rw [wrap_lo, wrap_lo, bits_or_bool]
  unfold U64 at *
  have e : lo (lo (a - b) - 1) = lo (a - b - 1) := by unfold lo; omega
  rw [e]
  refine ⟨rfl, ?_⟩
  by_cases h : a < b
  · have h2 : hi (a - b - 1) = -1 := by unfold hi; omega
    rw [h2, decide_eq_true h]; rfl
  · by_cases h' : a = b
    · have h2 : hi (a - b - 1) = -1 := by unfold hi; omega
      have h3 : lo (a - b) = 0 := by unfold lo; omega
      rw [h2, h3]
      show bitOf (_ || true) = 1
      rw [Bool.or_true]; rfl
    · have h2 : hi (a - b - 1) = 0 := by unfold hi; omega
      have h3 : lo (a - b) = a - b := by unfold lo; omega
      rw [h2, h3, decide_eq_false h, beq_eq_false_iff_ne.2 (by omega)]; rfl
theorem lo_step (a b c : Int) : hi (lo a - lo b - (-(c - a + b))) = hi c - hi a + hi b ∧ lo (lo a - lo b - (-(c - a + b))) = lo c := by unfold hi lo; omega
theorem diff4 (x y : Int) :
    lo (L0 x - L0 y - 0) = L0 (x - y) ∧ lo (L1 x - L1 y - -hi (L0 x - L0 y - 0)) = L1 (x - y) ∧
    lo (L2 x - L2 y - -hi (L1 x - L1 y - -hi (L0 x - L0 y - 0))) = L2 (x - y) ∧
    lo (L3 x - L3 y - -hi (L2 x - L2 y - -hi (L1 x - L1 y - -hi (L0 x - L0 y - 0)))) = L3 (x - y) ∧
    hi (L3 x - L3 y - -hi (L2 x - L2 y - -hi (L1 x - L1 y - -hi (L0 x - L0 y - 0)))) = hi (hi (hi (hi (x - y)))) - hi (hi (hi (hi x))) + hi (hi (hi (hi y))) := by
  have e0 : L0 x - L0 y - 0 = lo x - lo y - (-((x - y) - x + y)) := by unfold L0; omega
  have h0 := lo_step x y (x - y)
  have h1 := lo_step (hi x) (hi y) (hi (x - y))
  have h2 := lo_step (hi (hi x)) (hi (hi y)) (hi (hi (x - y)))
  have h3 := lo_step (hi (hi (hi x))) (hi (hi (hi y))) (hi (hi (hi (x - y))))
  rw [e0]
  unfold L0 L1 L2 L3
  rw [h0.1, h0.2, h1.1, h1.2, h2.1, h2.2, h3.1, h3.2]
  exact ⟨rfl, rfl, rfl, rfl, rfl⟩

/-! ### products -/
theorem mul_halves {a1 a0 b1 b0 p11 p10 p01 p00 : Int} (h11 : p11 = a1 * b1) (h10 : p10 = a1 * b0) (h01 : p01 = a0 * b1) (h00 : p00 = a0 * b0) :
    (a1 * 4294967296 + a0) * (b1 * 4294967296 + b0) = p11 * 18446744073709551616 + (p10 + p01) * 4294967296 + p00 := by
  subst h11; subst h10; subst h01; subst h00
  simp only [Int.add_mul, Int.mul_add]
  have e1 : a1 * 4294967296 * (b1 * 4294967296) = a1 * b1 * 18446744073709551616 := by
    rw [Int.mul_assoc, Int.mul_left_comm 4294967296 b1, ← Int.mul_assoc]
    rfl
  have e2 : a1 * 4294967296 * b0 = a1 * b0 * 4294967296 := by rw [Int.mul_assoc, Int.mul_comm 4294967296, ← Int.mul_assoc]
  have e3 : a0 * (b1 * 4294967296) = a0 * b1 * 4294967296 := by rw [← Int.mul_assoc]
  rw [e1, e2, e3]
  omega
theorem mul_bd {a b : Int} (ha0 : 0 ≤ a) (ha : a ≤ 4294967295) (hb0 : 0 ≤ b) (hb : b ≤ 4294967295) : 0 ≤ a * b ∧ a * b ≤ 18446744065119617025 :=
  ⟨Int.mul_nonneg ha0 hb0, Int.le_trans (Int.mul_le_mul ha hb hb0 (by decide)) (by decide)⟩
theorem tdiv_pos {a : Int} (n : Int) (h : 0 ≤ a) : a.tdiv n = a / n := Int.tdiv_eq_ediv_of_nonneg h
theorem tmod_pos {a : Int} (n : Int) (h : 0 ≤ a) : a.tmod n = a % n := Int.tmod_eq_emod_of_nonneg h
theorem mul_raw {a b : Int} (ha : U64 a) (hb : U64 b) (a1 a0 b1 b0 low mid other : Int) (h1 : IntKind.u64.wrap (a.tdiv 4294967296) = a1) (h2 : a.tmod 4294967296 = a0) (h3 : IntKind.u64.wrap (b.tdiv 4294967296) = b1) (h4 : b.tmod 4294967296 = b0)
    (h5 : IntKind.u64.wrap (a0 * b0) = low) (h6 : IntKind.u64.wrap (IntKind.u64.wrap (a1 * b0) + IntKind.u64.wrap (low.tdiv 4294967296)) = mid) (h7 : IntKind.u64.wrap (IntKind.u64.wrap (a0 * b1) + mid.tmod 4294967296) = other) :
    IntKind.u64.wrap (IntKind.u64.wrap (IntKind.u64.wrap (a1 * b1) + IntKind.u64.wrap (mid.tdiv 4294967296)) + IntKind.u64.wrap (other.tdiv 4294967296)) = hi (a * b) ∧ IntKind.u64.wrap (a * b) = lo (a * b) := by
  refine ⟨?_, wrap_lo _⟩
  unfold U64 at ha hb
  simp only [wrap_lo] at *
  rw [tdiv_pos _ ha.1] at h1
  rw [tmod_pos _ ha.1] at h2
  rw [tdiv_pos _ hb.1] at h3
  rw [tmod_pos _ hb.1] at h4
  have ea1 : a1 = a / 4294967296 := by rw [← h1]; unfold lo; omega
  have eb1 : b1 = b / 4294967296 := by rw [← h3]; unfold lo; omega
  have ea : a = a1 * 4294967296 + a0 := by omega
  have eb : b = b1 * 4294967296 + b0 := by omega
  have g11 := mul_bd (a := a1) (b := b1) (by omega) (by omega) (by omega) (by omega)
  have g10 := mul_bd (a := a1) (b := b0) (by omega) (by omega) (by omega) (by omega)
  have g01 := mul_bd (a := a0) (b := b1) (by omega) (by omega) (by omega) (by omega)
  have g00 := mul_bd (a := a0) (b := b0) (by omega) (by omega) (by omega) (by omega)
  have e := mul_halves (a1 := a1) (a0 := a0) (b1 := b1) (b0 := b0) rfl rfl rfl rfl
  rw [← ea, ← eb] at e
  generalize a1 * b1 = p11 at *
  generalize a1 * b0 = p10 at *
  generalize a0 * b1 = p01 at *
  generalize a0 * b0 = p00 at *
  have e5 : low = p00 := by rw [← h5]; unfold lo; omega
  subst e5
  rw [tdiv_pos _ g00.1] at h6
  have e6 : mid = p10 + low / 4294967296 := by rw [← h6]; unfold lo; omega
  have hm : 0 ≤ mid := by omega
  rw [tmod_pos _ hm] at h7
  rw [tdiv_pos _ hm]
  have e7 : other = p01 + mid % 4294967296 := by rw [← h7]; unfold lo; omega
  rw [tdiv_pos _ (by omega : 0 ≤ other)]
  rw [e]
  unfold hi lo
  omega
end Go.Proofs.Ytjikhdjkpagjmaa
