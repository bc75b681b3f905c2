/- Of any state of a pool what there is beyond what all shares would pay is the document's: sponsionlaw28.AuditMargins answers true for every input. No condition. -/
import Derived.Test.YtgjdegahofoalaaRows
import Derived.Test.YtgjdegahofoalaaLawA
import Derived.Test.YtgjdegahofoalaaLives
import Derived.ProofKit
import Derived.OpenShut
import Derived.ChangeOld
import Derived.Below
import Derived.SizedLaws
set_option linter.unusedVariables false
set_option linter.unusedSimpArgs false
namespace Go.Proofs.Ytgjdegahofoalaa.auditMargins
open Go.ChangeShapes Go.WideShapes Go.ChangeAt Go.RowKit
theorem own : ownKnob Try.prog.godebug = none := by kernel_rfl
theorem laidOut : laidOutB Try.prog = true := by kernel_rfl
theorem cell_u64 {W : World} {r : Reach} {base : Nat} {v : Value} (h : Cell.okWide Try.prog W r base 22 v) : ∃ n, v = .int .u64 n ∧ U64 n := by
  have hu : Try.prog.underlying 22 = some (.int .u64) := by kernel_rfl
  simp only [Cell.okWide, hu, Cell.ok] at h
  cases v with
  | int k n =>
    obtain ⟨rfl, h1, h2⟩ := h
    have e1 : IntKind.u64.min = 0 := by decide
    have e2 : IntKind.u64.max = 18446744073709551615 := by decide
    rw [e1] at h1
    rw [e2] at h2
    exact ⟨n, rfl, h1, by omega⟩
  | _ => exact absurd h (by simp)
theorem state_cells {W : World} {base : Nat} {v : Value} (h : Value.okWide Try.prog W .any base 26 v) : ∃ n0 n1 n2 n3 n4 n5 n6 n7 n8 n9 n10 n11 n12 n13 n14 n15 : Int, v = .agg #[.int .u64 n0, .int .u64 n1, .int .u64 n2, .int .u64 n3, .int .u64 n4, .int .u64 n5, .int .u64 n6, .int .u64 n7, .int .u64 n8, .int .u64 n9, .int .u64 n10, .int .u64 n11, .int .u64 n12, .int .u64 n13, .int .u64 n14, .int .u64 n15] ∧ U64 n0 ∧ U64 n1 ∧ U64 n2 ∧ U64 n3 ∧ U64 n4 ∧ U64 n5 ∧ U64 n6 ∧ U64 n7 ∧ U64 n8 ∧ U64 n9 ∧ U64 n10 ∧ U64 n11 ∧ U64 n12 ∧ U64 n13 ∧ U64 n14 ∧ U64 n15 := by
  have hu := Try.underlying26
  simp only [Value.okWide, hu] at h
  obtain ⟨cs, rfl, hsz, ts, hts, _, hall⟩ := h
  have hts' : Try.prog.cellTypes Try.prog.depth 26 = some (List.replicate 16 22) := by kernel_rfl
  have hc : Try.prog.cellsOf 26 = 16 := by kernel_rfl
  rw [hts'] at hts
  obtain rfl := Option.some.inj hts
  rw [hc] at hsz
  have hone : ∀ i, i < 16 → ∃ n, cs[i]? = some (.int .u64 n) ∧ U64 n := by
    intro i hi
    obtain ⟨u, hu1, hu2⟩ := hall i _ (Array.getElem?_eq_getElem (show i < cs.size by omega))
    have e : u = 22 := by
      rw [List.length_replicate, List.getElem?_replicate] at hu1
      split at hu1
      · exact (Option.some.inj hu1).symm
      · exact absurd hu1 (by simp)
    subst e
    obtain ⟨n, hn, un⟩ := cell_u64 hu2
    exact ⟨n, by rw [Array.getElem?_eq_getElem (show i < cs.size by omega), hn], un⟩
  obtain ⟨n0, e0, u0⟩ := hone 0 (by decide)
  obtain ⟨n1, e1, u1⟩ := hone 1 (by decide)
  obtain ⟨n2, e2, u2⟩ := hone 2 (by decide)
  obtain ⟨n3, e3, u3⟩ := hone 3 (by decide)
  obtain ⟨n4, e4, u4⟩ := hone 4 (by decide)
  obtain ⟨n5, e5, u5⟩ := hone 5 (by decide)
  obtain ⟨n6, e6, u6⟩ := hone 6 (by decide)
  obtain ⟨n7, e7, u7⟩ := hone 7 (by decide)
  obtain ⟨n8, e8, u8⟩ := hone 8 (by decide)
  obtain ⟨n9, e9, u9⟩ := hone 9 (by decide)
  obtain ⟨n10, e10, u10⟩ := hone 10 (by decide)
  obtain ⟨n11, e11, u11⟩ := hone 11 (by decide)
  obtain ⟨n12, e12, u12⟩ := hone 12 (by decide)
  obtain ⟨n13, e13, u13⟩ := hone 13 (by decide)
  obtain ⟨n14, e14, u14⟩ := hone 14 (by decide)
  obtain ⟨n15, e15, u15⟩ := hone 15 (by decide)
  refine ⟨n0, n1, n2, n3, n4, n5, n6, n7, n8, n9, n10, n11, n12, n13, n14, n15, ?_, u0, u1, u2, u3, u4, u5, u6, u7, u8, u9, u10, u11, u12, u13, u14, u15⟩
  congr 1
  apply Array.ext_getElem?
  intro i
  by_cases hi : i < 16
  · obtain rfl | rfl | rfl | rfl | rfl | rfl | rfl | rfl | rfl | rfl | rfl | rfl | rfl | rfl | rfl | rfl : i = 0 ∨ i = 1 ∨ i = 2 ∨ i = 3 ∨ i = 4 ∨ i = 5 ∨ i = 6 ∨ i = 7 ∨ i = 8 ∨ i = 9 ∨ i = 10 ∨ i = 11 ∨ i = 12 ∨ i = 13 ∨ i = 14 ∨ i = 15 := by omega
    · exact e0
    · exact e1
    · exact e2
    · exact e3
    · exact e4
    · exact e5
    · exact e6
    · exact e7
    · exact e8
    · exact e9
    · exact e10
    · exact e11
    · exact e12
    · exact e13
    · exact e14
    · exact e15
  · rw [Array.getElem?_eq_none (by omega), Array.getElem?_eq_none (by simp; omega)]
set_option maxRecDepth 100000 in
theorem walk {n0 n1 n2 n3 n4 n5 n6 n7 n8 n9 n10 n11 n12 n13 n14 n15 : Int} (HU : U64 n0 ∧ U64 n1 ∧ U64 n2 ∧ U64 n3 ∧ U64 n4 ∧ U64 n5 ∧ U64 n6 ∧ U64 n7 ∧ U64 n8 ∧ U64 n9 ∧ U64 n10 ∧ U64 n11 ∧ U64 n12 ∧ U64 n13 ∧ U64 n14 ∧ U64 n15) (W : World) : Calls Try.prog 3 #[.agg #[.int .u64 n0, .int .u64 n1, .int .u64 n2, .int .u64 n3, .int .u64 n4, .int .u64 n5, .int .u64 n6, .int .u64 n7, .int .u64 n8, .int .u64 n9, .int .u64 n10, .int .u64 n11, .int .u64 n12, .int .u64 n13, .int .u64 n14, .int .u64 n15]] W fun e w' => e = .returned (.bool true) ∧ Below W.heap.size W w' := by
  obtain ⟨u0, u1, u2, u3, u4, u5, u6, u7, u8, u9, u10, u11, u12, u13, u14, u15⟩ := HU
  have h := Law.law_all (r := V4 n8 n9 n10 n11) (V4_u u0 u1 u2 u3) (V4_u u4 u5 u6 u7) (V4_u u12 u13 u14 u15) W (Lib.hid Audit.lives_calls)
  rw [L0_V u0, L1_V u0 u1, L2_V u0 u1 u2, L3_V u0 u1 u2 u3, L0_V u4, L1_V u4 u5, L2_V u4 u5 u6, L3_V u4 u5 u6 u7, L0_V u8, L1_V u8 u9, L2_V u8 u9 u10, L3_V u8 u9 u10 u11, L0_V u12, L1_V u12 u13, L2_V u12 u13 u14, L3_V u12 u13 u14 u15] at h
  exact h
set_option maxRecDepth 100000 in
theorem lifted (os : Os) (started : os.Started) (H : Type) (enc : TypeId × Value → H) :
    ReturnsInHanded {} Try.checked os 3 .any (Rows.auditMarginsSpec.pre6 enc Try.prog Try.f3 Rows.auditMarginsRow.domain false) (Rows.auditMarginsSpec.post enc Try.prog Try.f3 false true false false) := by
  refine returnsInHanded_of_change_sized (C := Try.checked) own started (by kernel_rfl) Try.func3
    (ChangeSpec.witness6 (enc := enc) (C := Try.checked) false ⟨#[], #[.agg #[.int .u64 0, .int .u64 0, .int .u64 0, .int .u64 0, .int .u64 0, .int .u64 0, .int .u64 0, .int .u64 0, .int .u64 0, .int .u64 0, .int .u64 0, .int .u64 0, .int .u64 0, .int .u64 0, .int .u64 0, .int .u64 0]], []⟩ 8 (by kernel_rfl) (by kernel_rfl) (by kernel_rfl) (by kernel_rfl)) ?_
  intro W base args ds gs before hval0 hW hcnd hsz0 _
  have hval : ∀ (j : Nat) t v, Try.f3.params[j]? = some t → args[j]? = some v → Value.okWide Try.prog W .any base t v := hval0
  have hW' := hW
  obtain ⟨p, q, hA0, hV, rfl, hfz, hnd⟩ := hW
  have hA : DataW.TrodAll enc Try.prog W 0 (fun _ => true) true Try.f3.params.toList args.toList ds p := hA0
  rw [Try.params3] at hA hval
  obtain ⟨v0, vs0, d0, ds0, p0, q0, hargs, rfl, rfl, h0, r0⟩ := trodAll_cons hA
  obtain ⟨rfl, rfl, rfl⟩ := trodAll_nil r0
  obtain rfl : args = #[v0] := by cases args; simp_all
  obtain ⟨rfl, rfl⟩ := trodVars_none hV
  obtain ⟨n0, n1, n2, n3, n4, n5, n6, n7, n8, n9, n10, n11, n12, n13, n14, n15, rfl, hu⟩ := state_cells (hval 0 26 v0 rfl rfl)
  have k0 := h0
  have lt0 : ∀ x ∈ p0, x.block < W.heap.size := by
    obtain ⟨m, hm⟩ := k0
    exact DataW.trod_lt m _ _ _ hm
  clear hA0 hval0 hsz0
  refine (walk hu W).mono fun e W' ⟨he, bel⟩ => ?_
  subst he
  exact ⟨_, rfl, _, _, _, [], _, [], hW', trodAll_mk1 (shut_bool Try.underlying4 _), (trodAll_cons_mk (Below.trod laidOut (by kernel_rfl) (of_decide_eq_true (by kernel_rfl)) k0 bel lt0) trodAll_mk0), rfl, bel.frame _, fun h => by cases h⟩
theorem over : Rows.auditMarginsRow.holds Try.pinned (OpenSpec.ofChange Rows.auditMarginsSpec) :=
  OpenClaim.holds_of_wide 3 Try.f3 rfl rfl rfl rfl rfl rfl rfl ⟨rfl, rfl, rfl, rfl, rfl⟩ rfl rfl rfl rfl rfl (by kernel_rfl) Try.func3 (by kernel_rfl)
    (of_decide_eq_true (by kernel_rfl)) (by unfold Func.isWrapper; first | (rw [if_pos (by decide +kernel)]; kernel_rfl) | (rw [if_neg (by decide +kernel)]; exact ⟨rfl, rfl⟩))
    (fun os started H enc _ => lifted os started H enc)
theorem proved : Rows.AuditMarginsSaid := over
#print axioms proved
end Go.Proofs.Ytgjdegahofoalaa.auditMargins
namespace Go.Proofs.Ytgjdegahofoalaa
/-- The row, under a short name, for the claim. -/
theorem auditMargins_holds : Rows.AuditMarginsSaid := auditMargins.proved
end Go.Proofs.Ytgjdegahofoalaa
