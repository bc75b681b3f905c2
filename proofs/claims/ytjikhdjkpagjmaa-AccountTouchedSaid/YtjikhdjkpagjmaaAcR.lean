/- The tokens of which an account has lines are told, each once, rising, and no others: sponsionlaw31.AccountTouched answers true for every input. No condition. -/
import Derived.Test.YtjikhdjkpagjmaaRows
import Derived.Test.YtjikhdjkpagjmaaAcX
import Derived.ProofKit
import Derived.OpenShut
import Derived.ChangeOld
import Derived.Below
import Derived.SizedLaws
import Derived.Deep.Slices
namespace Go.Proofs.Ytjikhdjkpagjmaa.accountTouched
open Go.ChangeShapes Go.WideShapes Go.ChangeAt Go.RowKit Go.Deep Go.Proofs.Ytjikhdjkpagjmaa.Ac
set_option linter.unusedVariables false
theorem own : ownKnob Try.prog.godebug = none := by kernel_rfl
theorem laidOut : laidOutB Try.prog = true := by kernel_rfl
theorem one_at {l : List Value} {o : Nat} {v : Value} (h : (l.drop o).take 1 = [v]) : l[o]? = some v := by
  have := congrArg (·[0]?) h
  simpa using this
theorem spot_none {w : World} {a : Addr} {v : Value} (h : w.cell? a = some v) : a.spot = none := by
  unfold World.cell? at h
  split at h
  · cases hs : a.spot with
    | none => rfl
    | some x => simp [hs] at h
  · cases h
structure EvD where
  e : Array Value
  k : Int
  s : Int
  t : Int
  f : Int
  r : Int
  a : Nat → Int
instance : Inhabited EvD := ⟨⟨#[], 0, 0, 0, 0, 0, fun _ => 0⟩⟩
def EvD.good (x : EvD) (l : List Value) : Prop := x.e = l.toArray ∧ Ev x.e x.k x.s x.t x.f x.r ∧ (∀ j, j < 4 → x.e[38 + j]? = some (.int .u64 (x.a j))) ∧ 0 ≤ x.t ∧ x.t < 256
theorem u8_range {n : Int} (h : (Lit.int .u8 n).wf = true) : 0 ≤ n ∧ n < 256 := by
  simp [Lit.wf, IntKind.min, IntKind.max, IntKind.signed, IntKind.bits] at h
  omega
section
variable {H : Type} {enc : TypeId × Value → H} {W : World} {base : Nat} {spare : Nat → Bool} {held : Bool}
theorem int_at {T : TypeId} {q : IntKind} {fuel : Nat} {l : List Value} {o : Nat} {x : DataW H × List MemPlace} (hT : Try.prog.underlying T = some (.int q)) (hc : Try.prog.cellsOf T = 1)
    (h : DataW.trod enc Try.prog W base spare held fuel T ((l.drop o).take (Try.prog.cellsOf T)) = some x) : ∃ n, l[o]? = some (.int q n) ∧ (Lit.int q n).wf = true := by
  obtain ⟨n, e, _, hw⟩ := DataW.trod_int hT h
  rw [hc] at e
  exact ⟨n, one_at e, hw⟩
theorem arr_at {T e : TypeId} {q : IntKind} {m fuel : Nat} {l : List Value} {o : Nat} {x : DataW H × List MemPlace} (hT : Try.prog.underlying T = some (.array m e)) (he : Try.prog.underlying e = some (.int q)) (hc : Try.prog.cellsOf T = m) (hce : Try.prog.cellsOf e = 1)
    (h : DataW.trod enc Try.prog W base spare held fuel T ((l.drop o).take (Try.prog.cellsOf T)) = some x) : ∀ i, i < m → ∃ n, l[o + i]? = some (.int q n) ∧ (Lit.int q n).wf = true := by
  obtain ⟨ys, m', _, _, _, hyl, hg⟩ := DataW.trod_array hT h
  intro i hi
  have h1 := hg i hi
  obtain ⟨n, e1, hw⟩ := int_at he hce (h1.trans (List.getElem?_eq_getElem (by omega)))
  rw [hc, hce, Nat.mul_one, List.getElem?_take, if_pos hi, List.getElem?_drop] at e1
  exact ⟨n, e1, hw⟩
theorem ev_open {fuel : Nat} {l : List Value} {x : DataW H × List MemPlace} (h : DataW.trod enc Try.prog W base spare held fuel 40 l = some x) : ∃ d : EvD, d.good l := by
  obtain ⟨xs, m, _, _, hlen, hxl, hf⟩ := DataW.trod_struct Try.underlying40 h
  have c8 : Try.prog.cellsOf 5 = 1 := by kernel_rfl
  have c64 : Try.prog.cellsOf 30 = 1 := by kernel_rfl
  have c32 : Try.prog.cellsOf 38 = 1 := by kernel_rfl
  have cH : Try.prog.cellsOf 37 = 32 := by kernel_rfl
  have cI : Try.prog.cellsOf 32 = 4 := by kernel_rfl
  have cE : Try.prog.cellsOf 40 = 47 := by kernel_rfl
  rw [cE] at hlen
  have hx : ∀ i, i < 10 → ∃ y, xs[i]? = some y := fun i hi => ⟨_, List.getElem?_eq_getElem (by rw [hxl]; exact hi)⟩
  obtain ⟨y0, g0⟩ := hx 0 (by decide)
  obtain ⟨y1, g1⟩ := hx 1 (by decide)
  obtain ⟨y2, g2⟩ := hx 2 (by decide)
  obtain ⟨y3, g3⟩ := hx 3 (by decide)
  obtain ⟨y4, g4⟩ := hx 4 (by decide)
  obtain ⟨y5, g5⟩ := hx 5 (by decide)
  obtain ⟨y6, g6⟩ := hx 6 (by decide)
  obtain ⟨y7, g7⟩ := hx 7 (by decide)
  obtain ⟨y8, g8⟩ := hx 8 (by decide)
  obtain ⟨y9, g9⟩ := hx 9 (by decide)
  obtain ⟨k, k0, _⟩ := int_at (o := 0) Try.underlying5 c8 ((hf 0 _ rfl).trans g0)
  obtain ⟨b, k1, _⟩ := int_at (o := 1) Try.underlying30 c64 ((hf 1 _ rfl).trans g1)
  have k2 := arr_at (o := 2) Try.underlying37 Try.underlying5 cH c8 ((hf 2 _ rfl).trans g2)
  obtain ⟨s, k3, _⟩ := int_at (o := 34) Try.underlying5 c8 ((hf 3 _ rfl).trans g3)
  obtain ⟨t, k4, wt⟩ := int_at (o := 35) Try.underlying5 c8 ((hf 4 _ rfl).trans g4)
  obtain ⟨f, k5, _⟩ := int_at (o := 36) Try.underlying5 c8 ((hf 5 _ rfl).trans g5)
  obtain ⟨r, k6, _⟩ := int_at (o := 37) Try.underlying5 c8 ((hf 6 _ rfl).trans g6)
  have k7 := arr_at (o := 38) Try.underlying32 Try.underlying30 cI c64 ((hf 7 _ rfl).trans g7)
  have k8 := arr_at (o := 42) Try.underlying32 Try.underlying30 cI c64 ((hf 8 _ rfl).trans g8)
  obtain ⟨z, k9, _⟩ := int_at (o := 46) Try.underlying38 c32 ((hf 9 _ rfl).trans g9)
  obtain ⟨a, ha⟩ := choose_lt k7
  have hr := u8_range wt
  refine ⟨⟨l.toArray, k, s, t, f, r, a⟩, rfl, ⟨by simpa using hlen, ?_, by simpa using k0, by simpa using k3, by simpa using k4, by simpa using k5, by simpa using k6⟩, fun j hj => by simpa using (ha j hj).1, hr.1, hr.2⟩
  have hall : ∀ i, i < 47 → ∃ q n, l[i]? = some (.int q n) := by
    intro i hi
    rcases (by omega : i = 0 ∨ i = 1 ∨ (2 ≤ i ∧ i < 34) ∨ i = 34 ∨ i = 35 ∨ i = 36 ∨ i = 37 ∨ (38 ≤ i ∧ i < 42) ∨ (42 ≤ i ∧ i < 46) ∨ i = 46) with rfl | rfl | ⟨h1, h2⟩ | rfl | rfl | rfl | rfl | ⟨h1, h2⟩ | ⟨h1, h2⟩ | rfl
    · exact ⟨_, _, k0⟩
    · exact ⟨_, _, k1⟩
    · obtain ⟨n, hn, _⟩ := k2 (i - 2) (by omega); exact ⟨_, n, by rwa [show 2 + (i - 2) = i by omega] at hn⟩
    · exact ⟨_, _, k3⟩
    · exact ⟨_, _, k4⟩
    · exact ⟨_, _, k5⟩
    · exact ⟨_, _, k6⟩
    · obtain ⟨n, hn, _⟩ := k7 (i - 38) (by omega); exact ⟨_, n, by rwa [show 38 + (i - 38) = i by omega] at hn⟩
    · obtain ⟨n, hn, _⟩ := k8 (i - 42) (by omega); exact ⟨_, n, by rwa [show 42 + (i - 42) = i by omega] at hn⟩
    · exact ⟨_, _, k9⟩
  refine Array.all_eq_true_iff_forall_mem.2 (fun v hv => ?_)
  obtain ⟨i, hi, e⟩ := List.mem_iff_getElem.1 (by simpa using hv : v ∈ l)
  obtain ⟨q, n, hq⟩ := hall i (by omega)
  rw [List.getElem?_eq_getElem hi, e] at hq
  obtain rfl := Option.some.inj hq
  rfl
theorem row_open {fuel : Nat} {p : Option Addr} {n c : Nat} {x : DataW H × List MemPlace} (h : DataW.trod enc Try.prog W base spare held fuel 22 (Value.cells (.slice p n c)).toList = some x) :
    ∃ f : Nat → EvD, EvRow W p n (fun i => (f i).e) (fun i => (f i).k) (fun i => (f i).s) (fun i => (f i).t) (fun i => (f i).f) (fun i => (f i).r) ∧ (∀ i, i < n → ∀ j, j < 4 → (f i).e[38 + j]? = some (.int .u64 ((f i).a j))) ∧ ∀ i, i < n → 0 ≤ (f i).t ∧ (f i).t < 256 := by
  have cE : Try.prog.cellsOf 40 = 47 := by kernel_rfl
  rcases open_slice Try.underlying22 h with ⟨hcs, _⟩ | ⟨a, len, cap, m, nn, D, Pl, hcs, hb, hl, hmx, hm, _, hi⟩
  · simp [Value.cells] at hcs
    obtain ⟨rfl, rfl, rfl⟩ := hcs
    exact ⟨fun _ => default, ⟨fun i hi => absurd hi (by omega), fun i hi => absurd hi (by omega)⟩, fun i hi => absurd hi (by omega), fun i hi => absurd hi (by omega)⟩
  · simp [Value.cells] at hcs
    obtain ⟨rfl, rfl, rfl⟩ := hcs
    have hnm : n ≤ m := by rw [hm]; split <;> omega
    have hall : ∀ i, i < n → ∃ d : EvD, ∃ l, d.good l ∧ W.cells? base (a.add (i * 47)) 47 = some l := fun i hin => by
      obtain ⟨l, hc, ht⟩ := hi i (by omega)
      rw [cE] at hc
      obtain ⟨d, hd⟩ := ev_open ht
      exact ⟨d, l, hd, hc⟩
    obtain ⟨f, hf⟩ := choose_lt hall
    refine ⟨f, ⟨fun i hin => ?_, fun i hin => ?_⟩, fun i hin => ?_, fun i hin => ?_⟩
    · obtain ⟨l, hd, _⟩ := hf i hin; exact hd.2.1
    · obtain ⟨l, hd, hc⟩ := hf i hin
      obtain ⟨_, hln, hat⟩ := World.cells?_some hc
      obtain ⟨l0, _, hc0⟩ := hf 0 (by omega)
      obtain ⟨_, hln0, hat0⟩ := World.cells?_some hc0
      have h00 := hat0 0 (by decide)
      rw [List.getElem?_eq_getElem (by omega), add_add] at h00
      have h0 := hat 0 (by decide)
      rw [List.getElem?_eq_getElem (by omega), add_add] at h0
      obtain ⟨blk, off, sp⟩ := a
      have hsp : sp = none := by
        have := spot_none h00
        simpa [Addr.add] using this
      subst hsp
      rw [Addr.add_mid] at h0
      refine ⟨blk, off, rfl, World.block_lt_of_cell? W _ h0, fun j v hv => ?_⟩
      rw [hd.1] at hv
      have hj : j < 47 := by
        have := (List.getElem?_eq_some_iff.1 (by simpa using hv : l[j]? = some v)).1
        omega
      have h1 := hat j hj
      rw [add_add] at h1
      have e1 : (⟨blk, off, none⟩ : Addr).add (i * 47 + j) = ⟨blk, off + i * 47 + j, none⟩ := by rw [Addr.add_mid, Nat.add_assoc]
      rw [e1] at h1
      rw [h1]
      simpa using hv
    · obtain ⟨l, hd, _⟩ := hf i hin; exact hd.2.2.1
    · obtain ⟨l, hd, _⟩ := hf i hin; exact hd.2.2.2
end
set_option maxRecDepth 100000 in
theorem walk {H : Type} {enc : TypeId × Value → H} {W : World} {base : Nat} {spare : Nat → Bool} {held : Bool} {fuel : Nat} {p : Option Addr} {n c : Nat} {x : DataW H × List MemPlace} (who : Int)
    (h : DataW.trod enc Try.prog W base spare held fuel 22 (Value.cells (.slice p n c)).toList = some x) : Calls Try.prog 3 #[.slice p n c, .int .u8 who] W fun e w' => e = .returned (.bool true) ∧ Below W.heap.size W w' := by
  by_cases hn : n ≤ 40
  · obtain ⟨f, hE, hA, hT⟩ := row_open h
    exact law_calls hn who W hE hA hT
  · exact law_long (by omega) who W
set_option maxRecDepth 100000 in
theorem lifted (os : Os) (started : os.Started) (H : Type) (enc : TypeId × Value → H) :
    ReturnsInHanded {} Try.checked os 3 .any (Rows.accountTouchedSpec.pre6 enc Try.prog Try.f3 Rows.accountTouchedRow.domain false) (Rows.accountTouchedSpec.post enc Try.prog Try.f3 false true false false) := by
  refine returnsInHanded_of_change_sized (C := Try.checked) own started (by kernel_rfl) Try.func3
    (ChangeSpec.witness6 (enc := enc) (C := Try.checked) false ⟨#[], #[.slice none 0 0, .int .u8 0], []⟩ 8 (by kernel_rfl) (by kernel_rfl) (by kernel_rfl) (by kernel_rfl)) ?_
  intro W base args ds gs before hval0 hW hcnd hsz0 _
  have hval : ∀ (j : Nat) t v, Try.f3.params[j]? = some t → args[j]? = some v → Value.okWide Try.prog W .any base t v := hval0
  have hW' := hW
  obtain ⟨p, q, hA0, hV, rfl, hfz, hnd⟩ := hW
  have hA : DataW.TrodAll enc Try.prog W 0 (fun _ => true) true Try.f3.params.toList args.toList ds p := hA0
  rw [Try.params3] at hA hval
  obtain ⟨v0, vs0, d0, ds0, p0, q0, hargs, rfl, rfl, h0, r0⟩ := trodAll_cons hA
  obtain ⟨v1, vs1, d1, ds1, p1, q1, hargs1, rfl, rfl, h1, r1⟩ := trodAll_cons r0
  obtain ⟨rfl, rfl, rfl⟩ := trodAll_nil r1
  subst hargs1
  obtain rfl : args = #[v0, v1] := by cases args; simp_all
  obtain ⟨rfl, rfl⟩ := trodVars_none hV
  obtain ⟨a0, n, c, rfl⟩ := okWide_slice Try.underlying22 (hval 0 22 v0 rfl rfl)
  have k0 := h0
  have k1 := h1
  have lt0 : ∀ x ∈ p0, x.block < W.heap.size := by
    obtain ⟨m, hm⟩ := k0
    exact DataW.trod_lt m _ _ _ hm
  have lt1 : ∀ x ∈ p1, x.block < W.heap.size := by
    obtain ⟨m, hm⟩ := k1
    exact DataW.trod_lt m _ _ _ hm
  obtain ⟨fu0, hf0⟩ := h0
  obtain ⟨who, rfl⟩ : ∃ who, v1 = .int .u8 who := by
    have h := hval 1 5 v1 rfl rfl
    simp only [Value.okWide, Try.underlying5, Cell.okWide, Cell.ok] at h
    cases v1 with
    | int k n => exact ⟨n, by rw [h.1]⟩
    | _ => exact absurd h (by simp)
  clear hA0 hval0 hsz0
  refine (walk who hf0).mono fun e W' ⟨he, bel⟩ => ?_
  subst he
  exact ⟨_, rfl, _, _, _, [], _, [], hW', trodAll_mk1 (shut_bool Try.underlying4 _), (trodAll_cons_mk (Below.trod laidOut (by kernel_rfl) (of_decide_eq_true (by kernel_rfl)) k0 bel lt0) (trodAll_cons_mk (Below.trod laidOut (by kernel_rfl) (of_decide_eq_true (by kernel_rfl)) k1 bel lt1) trodAll_mk0)), rfl, bel.frame _, fun h => by cases h⟩
theorem over : Rows.accountTouchedRow.holds Try.pinned (OpenSpec.ofChange Rows.accountTouchedSpec) :=
  OpenClaim.holds_of_wide 3 Try.f3 rfl rfl rfl rfl rfl rfl rfl ⟨rfl, rfl, rfl, rfl, rfl⟩ rfl rfl rfl rfl rfl (by kernel_rfl) Try.func3 (by kernel_rfl)
    (of_decide_eq_true (by kernel_rfl)) (by unfold Func.isWrapper; first | (rw [if_pos (by decide +kernel)]; kernel_rfl) | (rw [if_neg (by decide +kernel)]; exact ⟨rfl, rfl⟩))
    (fun os started H enc _ => lifted os started H enc)
theorem proved : Rows.AccountTouchedSaid := over
#print axioms proved
end Go.Proofs.Ytjikhdjkpagjmaa.accountTouched
namespace Go.Proofs.Ytjikhdjkpagjmaa
/-- The row, under a short name, for the claim. -/
theorem accountTouched_holds : Rows.AccountTouchedSaid := accountTouched.proved
end Go.Proofs.Ytjikhdjkpagjmaa
