/- The law AccountTouched walked. -/
import Derived.Maps.Own
import Derived.Maps.OwnOps
import Derived.Maps.OwnSet
import Derived.Maps.Views
import Derived.Test.YtjikhdjkpagjmaaAcV
set_option linter.unusedVariables false
set_option linter.unusedSimpArgs false
namespace Go.Proofs.Ytjikhdjkpagjmaa.Ac
open Go.RowKit Go.Proofs.YtjikhdjkpagjmaaW.PrintWords Go.Maps
theorem law5 : Keyed Try.prog 5 := int_keyed Try.underlying5
theorem zero3 (w : World) : (zeroValue 3).run Try.prog w = .ok (.int .i64 0) w := by kernel_rfl
set_option maxHeartbeats 8000000 in
set_option maxRecDepth 100000 in
theorem law_long {p : Option Addr} {n c : Nat} (hn : 40 < n) (who : Int) (w : World) : Calls Try.prog 3 #[.slice p n c, .int .u8 who] w fun e w' => e = .returned (.bool true) ∧ Below w.heap.size w w' := by
  have hn' : (40 : Int) < n := by omega
  go_enter Try.func3, Try.ntmps3
  go_wp2_with fail
  (go_at_call 4; (with_reducible refine (lives_calls _).mono ?_); rintro e w1 ⟨rfl, hb1⟩)
  go_wp2_with fail
  (go_at_call 4; (with_reducible refine (lives_calls _).mono ?_); rintro e w2 ⟨rfl, hb2⟩)
  have hbw : Hid (Below w.heap.size w w2) := Lib.hid (hb1.trans (hb2.mono hb1.size))
  clear hb1 hb2
  go_wp2_with fail
  refine bodyPost_ret (v := .bool true) (by simp [results, Try.results3, go_sem]) rfl ⟨rfl, ?_⟩
  have hb := hbw.out
  repeat (first | with_reducible exact Below.refl _ _ | (with_reducible assumption) | with_reducible apply bdrewN | with_reducible apply below_drew1 | with_reducible apply below_al | ((with_reducible refine below_set ?_ ?_); focus (first | omega | (simp [go_sem]; done) | (simp [go_sem]; omega))))
def Counts (D : DataW Unit) (L : List Int) (i : Nat) : Prop := ∀ x : Int, 0 ≤ x → x < 256 → D.atKey (.int .u8 x) (.lit (.int .i64 0)) = .lit (.int .i64 (if x ∈ L.take i then 1 else 0))
theorem counts_nil (L : List Int) : Counts (.map []) L 0 := fun x _ _ => by simp [DataW.atKey]
theorem counts_step {D : DataW Unit} {L : List Int} {i : Nat} (h : Counts D L i) (hD : IsMap D) (hi : i < L.length) (hr : 0 ≤ L[i] ∧ L[i] < 256) : Counts (D.put (.int .u8 L[i]) (.lit (.int .i64 1))) L (i + 1) := by
  intro x h0 h1
  have ht : L.take (i + 1) = L.take i ++ [L[i]] := by rw [List.take_add_one, List.getElem?_eq_getElem hi]; rfl
  rw [ht]
  by_cases hx : x = L[i]
  · subst hx
    rw [atKey_put_same hD (show WideAt.IsKeyLit (.int .u8 L[i]) from trivial), if_pos (List.mem_append.2 (Or.inr (List.mem_singleton.2 rfl)))]
  · rw [atKey_put_other (by simpa using hx), h x h0 h1]
    by_cases hm : x ∈ L.take i
    · rw [if_pos hm, if_pos (List.mem_append.2 (Or.inl hm))]
    · rw [if_neg hm, if_neg (fun h => (List.mem_append.1 h).elim hm (fun h => hx (List.mem_singleton.1 h)))]
theorem counts_zero {D : DataW Unit} {L : List Int} {i : Nat} (h : Counts D L i) (hL : L.Pairwise (· < ·)) (hi : i < L.length) (hr : 0 ≤ L[i] ∧ L[i] < 256) : D.atKey (.int .u8 L[i]) (.lit (.int .i64 0)) = .lit (.int .i64 0) := by
  rw [h _ hr.1 hr.2, if_neg]
  intro hm
  obtain ⟨j, hj, e⟩ := List.mem_iff_getElem.1 hm
  have hj2 : j < i := by rw [List.length_take] at hj; omega
  rw [List.getElem_take] at e
  have := List.pairwise_iff_getElem.1 hL j i (by omega) hi hj2
  omega
theorem toks_range {K S T F R : Nat → Int} {who : Int} : ∀ {n : Nat}, (∀ i, i < n → 0 ≤ T i ∧ T i < 256) → ∀ x ∈ toks K S T F R who n, 0 ≤ x ∧ x < 256
  | 0, _, x, h => by simp [toks] at h
  | n + 1, hT, x, h => by
    simp only [toks, List.mem_append] at h
    rcases h with h | h
    · exact toks_range (fun i hi => hT i (by omega)) x h
    · split at h
      · rw [List.mem_singleton] at h
        subst h
        exact hT n (by omega)
      · simp at h
theorem told_len (K S T F R : Nat → Int) (who : Int) (n : Nat) : (told K S T F R who n).length ≤ n := by
  unfold told
  refine Nat.le_trans (compact_len _) ?_
  rw [List.length_mergeSort]
  exact toks_len K S T F R who n
def SM (w2 : World) (m : Nat) (D : DataW Unit) (W : World) : Prop := W.ownsMap Try.prog 5 (plainElem Try.prog 3) w2.heap.size m D ∧ Below w2.heap.size w2 W
theorem SM_drew {w2 : World} {m : Nat} {D : DataW Unit} {W : World} (h : SM w2 m D W) : SM w2 m D W.drew := ⟨h.1.drew, below_drew1 h.2⟩
theorem SM_below {w2 : World} {m : Nat} {D : DataW Unit} {W W' : World} (h : SM w2 m D W) (hb : Below W.heap.size W W') : SM w2 m D W' :=
  ⟨h.1.kept (row := none) ⟨hb.os, hb.tape, hb.output, hb.size, fun k hk _ => hb.block k hk⟩ (by simp), h.2.trans (hb.mono h.2.size)⟩
theorem SM_row {w2 : World} {m : Nat} {D : DataW Unit} {W : World} {p : Option Addr} {n : Nat} {E : Nat → Array Value} {K S T F R : Nat → Int} (hE : EvRow w2 p n E K S T F R) (h : SM w2 m D W) : EvRow W p n E K S T F R := hE.below h.2
theorem SM_look {w2 : World} {m : Nat} {D : DataW Unit} {W : World} (h : SM w2 m D W) {x c : Int} (h0 : 0 ≤ x) (h1 : x < 256) (hc : D.atKey (.int .u8 x) (.lit (.int .i64 0)) = .lit (.int .i64 c)) :
    (Instr.lookup 26 (.map (some w2.heap.size)) (.int .u8 x) false).run Try.prog W = .ok (.int .i64 c) W := by
  obtain ⟨c', hrun, hat, _⟩ := h.1.lookup_int law5 Try.underlying26 Try.underlying3 (zero3 _) (keyOf_int_mk Try.underlying5 (WalkArith.wf_u8 (n := x) ⟨by omega, by omega⟩))
  have : c' = c := by have h := hat.symm.trans hc; simpa using h
  rw [← this]
  exact hrun
set_option maxHeartbeats 8000000 in
set_option maxRecDepth 100000 in
theorem law_calls {p : Option Addr} {n c : Nat} {E : Nat → Array Value} {K S T F R : Nat → Int} {A : Nat → Nat → Int} (hn : n ≤ 40) (who : Int) (w : World) (hE : EvRow w p n E K S T F R)
    (hA : ∀ i, i < n → ∀ j, j < 4 → (E i)[38 + j]? = some (.int .u64 (A i j))) (hT : ∀ i, i < n → 0 ≤ T i ∧ T i < 256) : Calls Try.prog 3 #[.slice p n c, .int .u8 who] w fun e w' => e = .returned (.bool true) ∧ Below w.heap.size w w' := by
  have hn' : ¬ ((40 : Int) < n) := by omega
  have hmm := @run_makeMap Try.prog
  have HE := Lib.hid hE
  have HA := Lib.hid hA
  clear hE hA
  go_enter Try.func3, Try.ntmps3
  go_wp2_with fail
  (go_at_call 4; (with_reducible refine (lives_calls _).mono ?_); rintro e w1 ⟨rfl, hb1⟩)
  have Hb1 := Lib.hid hb1
  have HE1 := Lib.hid (HE.out.below hb1)
  clear hb1
  go_wp2_with fail
  (go_at_call 5; (with_reducible refine (touched_calls hn who w1 HE1.out).mono ?_); rintro e w2 ⟨p2, c2, rfl, hres, hb2⟩)
  have Hb2 := Lib.hid (Hb1.out.trans (hb2.mono Hb1.out.size))
  have HE2 := Lib.hid (HE1.out.below hb2)
  clear hb2 HE1 Hb1
  have Hrise := Lib.hid (told_rising K S T F R who n)
  have Hmem := Lib.hid (told_mem K S T F R who n)
  have Hpos : Hid (∀ x, 0 < (lns K S T F R A who x n).length ↔ x ∈ told K S T F R who n) := Lib.hid (fun x => (lns_pos K S T F R A who x n).trans (told_mem K S T F R who n x).symm)
  have HR : Hid (∀ j (h : j < (told K S T F R who n).length), 0 ≤ (told K S T F R who n)[j] ∧ (told K S T F R who n)[j] < 256) := Lib.hid (fun j h => toks_range hT _ ((told_mem K S T F R who n _).1 (List.getElem_mem h)))
  have hlen : (told K S T F R who n).length ≤ 40 := Nat.le_trans (told_len K S T F R who n) hn
  generalize told K S T F R who n = L at *
  have Hres := Lib.hid hres
  clear hres
  have hw2 : w.heap.size ≤ w2.heap.size := Hb2.out.size
  go_wp2_with fail
  have H0 : Aside0 (∃ D : DataW Unit, (w2.alloc (.map #[] 0)).ownsMap Try.prog 5 (plainElem Try.prog 3) w2.heap.size 0 D ∧ Counts D L 0) := ⟨_, World.ownsMap_made _ _ _ _, counts_nil L⟩
  have HB0 : Aside0 (Below w2.heap.size w2 (w2.alloc (.map #[] 0))) := ⟨below_al (Below.refl _ _)⟩
  go_loopw [24] (fun v24 w' => ∃ i : Nat, i ≤ L.length ∧ v24 = .int .i64 (i : Int) ∧ Aside0 (∃ D : DataW Unit, w'.ownsMap Try.prog 5 (plainElem Try.prog 3) w2.heap.size i D ∧ Counts D L i) ∧ Aside0 (Below w2.heap.size w2 w')) (fun v24 _ => L.length - (intOf v24).toNat)
  case atStart => exact ⟨0, by omega, rfl, H0, HB0⟩
  case round =>
    clear H0 HB0
    obtain ⟨i, hi, rfl, HO, HB⟩ := hrel
    by_cases hlt : i < L.length
    · have hlt' : (i : Int) < L.length := by omega
      have hne : L ≠ [] := fun e => by rw [e] at hlt; exact absurd hlt (by simp)
      obtain ⟨b, rfl, hbl, hcells⟩ := Hres.out.resolve_left hne
      have hci : wr.cell? ⟨b, i, none⟩ = some (.int .u8 L[i]) := (HB.out.cell (p := ⟨b, i, none⟩) hbl).trans (hcells i hlt)
      obtain ⟨D, hown, hcnt⟩ := HO.out
      obtain ⟨t, ht⟩ : ∃ t, L[i] = t := ⟨_, rfl⟩
      have hti := HR.out i hlt
      have hz := counts_zero hcnt Hrise.out hlt hti
      have hst := counts_step hcnt hown.isMap hlt hti
      rw [ht] at hci hz hst hti
      have hkey : keyOf Try.prog 5 (.int .u8 t) = some (.int .u8 t) := keyOf_int_mk Try.underlying5 (WalkArith.wf_u8 (n := t) ⟨by omega, by omega⟩)
      have hst := Lib.hid hst
      have Hkey := Lib.hid hkey
      have Hz := Lib.hid hz
      have Hown := Lib.hid hown
      clear hkey hz hown hcnt
      rcases Nat.eq_zero_or_pos i with h0 | h0
      · subst h0
        clear ht
        go_wp2_with (first | (at_lookup; go_loud (refine wpList_lookup_own_int _ rfl _ _ 26 rfl 5 3 .i64 law5 Try.underlying26 Try.underlying3 (zero3 _) w2.heap.size _ _ rfl Hown.out _ _ rfl Hkey.out ?_; intro cc hat hwc; obtain rfl : cc = 0 := (by have h := hat.symm.trans Hz.out; simpa using h); clear hat hwc)) | (at_mapUpdate; go_loud (refine wpList_mapUpdate_own _ rfl _ _ _ 26 rfl 5 3 law5 Try.underlying26 _ w2.heap.size _ _ rfl Hown.out (by unfold maxLen; omega) _ _ _ rfl rfl Hkey.out (.lit (.int .i64 1)) [] (plainElem_int Try.underlying3 (by decide)) ?_; intro w3 hown3 hgrow3)))
        go_roundw
        case measure => simp [intOf]; omega
        case rel => exact ⟨_, by omega, by go_num, ⟨_, hown3, hst.out⟩, ⟨HB.out.grown hgrow3 HB.out.size (fun j hj => by cases hj; exact Nat.le_refl _)⟩⟩
      · obtain ⟨k, rfl⟩ : ∃ k, i = k + 1 := ⟨i - 1, by omega⟩
        have hck : wr.cell? ⟨b, k, none⟩ = some (.int .u8 L[k]) := (HB.out.cell (p := ⟨b, k, none⟩) hbl).trans (hcells k (by omega))
        have hlk := List.pairwise_iff_getElem.1 Hrise.out k (k + 1) (by omega) hlt (by omega)
        rw [ht] at hlk
        generalize L[k] = y at hck hlk
        have hyt : ¬ (t ≤ y) := by omega
        clear ht hcells
        go_wp2_with (first | (at_lookup; go_loud (refine wpList_lookup_own_int _ rfl _ _ 26 rfl 5 3 .i64 law5 Try.underlying26 Try.underlying3 (zero3 _) w2.heap.size _ _ rfl Hown.out _ _ rfl Hkey.out ?_; intro cc hat hwc; obtain rfl : cc = 0 := (by have h := hat.symm.trans Hz.out; simpa using h); clear hat hwc)) | (at_mapUpdate; go_loud (refine wpList_mapUpdate_own _ rfl _ _ _ 26 rfl 5 3 law5 Try.underlying26 _ w2.heap.size _ _ rfl Hown.out (by unfold maxLen; omega) _ _ _ rfl rfl Hkey.out (.lit (.int .i64 1)) [] (plainElem_int Try.underlying3 (by decide)) ?_; intro w3 hown3 hgrow3)))
        go_roundw
        case measure => simp [intOf]; omega
        case rel => exact ⟨_, by omega, by go_num, ⟨_, hown3, hst.out⟩, ⟨HB.out.grown hgrow3 HB.out.size (fun j hj => by cases hj; exact Nat.le_refl _)⟩⟩
    · have hin : i = L.length := by omega
      subst hin
      obtain ⟨D, hown, hcnt⟩ := HO.out
      have Hown := Lib.hid hown
      have Hcnt : Hid (∀ x : Int, 0 ≤ x → x < 256 → D.atKey (.int .u8 x) (.lit (.int .i64 0)) = .lit (.int .i64 (if x ∈ L then 1 else 0))) := Lib.hid (fun x h0 h1 => by have := hcnt x h0 h1; rwa [List.take_length] at this)
      clear hown hcnt hi hlt
      have HS : Aside0 (SM w2 L.length D wr) := ⟨⟨Hown.out, HB.out⟩⟩
      clear HO HB Hown
      go_wp2_with fail
      go_loopw [45] (fun v45 w' => ∃ t : Nat, t ≤ 256 ∧ v45 = .int .i64 (t : Int) ∧ Aside0 (SM w2 L.length D w')) (fun v45 _ => 256 - (intOf v45).toNat)
      case atStart => exact ⟨0, by omega, rfl, HS⟩
      case round =>
        clear HS
        obtain ⟨t, ht, rfl, HS⟩ := hrel
        by_cases hlt : t < 256
        · have hlt' : (t : Int) < 256 := by omega
          have hw8 : IntKind.u8.wrap (t : Int) = t := by simp [IntKind.wrap, IntKind.bits, IntKind.signed]; omega
          have hpos := Hpos.out (t : Int)
          have hSr := HS.out
          by_cases hm : (t : Int) ∈ L
          · have hln : (0 : Int) < ((lns K S T F R A who t n).length : Int) := by have := hpos.2 hm; omega
            have hlnN : 0 < (lns K S T F R A who t n).length := hpos.2 hm
            clear hpos
            have hlk : ∀ W, SM w2 L.length D W → (Instr.lookup 26 (.map (some w2.heap.size)) (.int .u8 (t : Int)) false).run Try.prog W = .ok (.int .i64 1) W := fun W hS => SM_look hS (by omega) (by omega) (by rw [Hcnt.out _ (by omega) (by omega), if_pos hm])
            go_wp2_with fail
            go_region_held3 (SM w2 L.length D) (first | with_reducible assumption | exact SM_drew (by assumption)) (first | (go_at_call 6; refine (lines_calls hn who (t : Int) _ (SM_row HE2.out (by assumption)) HA.out).mono ?_; rintro e w' ⟨p', c', rfl, ho, hb'⟩; clear ho; have hS' := SM_below (by assumption) hb'; clear hb'))
            all_goals (go_wp2_with fail; go_roundw; (case measure => simp [intOf]; omega); (case rel => exact ⟨t + 1, by omega, by go_num, ⟨by first | assumption | exact SM_drew (by assumption)⟩⟩))
          · have hln : ((lns K S T F R A who t n).length : Int) = 0 := by have : ¬ 0 < (lns K S T F R A who t n).length := fun h => hm (hpos.1 h); omega
            have hlnN : (lns K S T F R A who t n).length = 0 := by omega
            clear hpos
            have hlk : ∀ W, SM w2 L.length D W → (Instr.lookup 26 (.map (some w2.heap.size)) (.int .u8 (t : Int)) false).run Try.prog W = .ok (.int .i64 0) W := fun W hS => SM_look hS (by omega) (by omega) (by rw [Hcnt.out _ (by omega) (by omega), if_neg hm])
            go_wp2_with fail
            go_region_held3 (SM w2 L.length D) (first | with_reducible assumption | exact SM_drew (by assumption)) (first | (go_at_call 6; refine (lines_calls hn who (t : Int) _ (SM_row HE2.out (by assumption)) HA.out).mono ?_; rintro e w' ⟨p', c', rfl, ho, hb'⟩; clear ho; have hS' := SM_below (by assumption) hb'; clear hb'))
            all_goals (go_wp2_with fail; go_roundw; (case measure => simp [intOf]; omega); (case rel => exact ⟨t + 1, by omega, by go_num, ⟨by first | assumption | exact SM_drew (by assumption)⟩⟩))
        · have hte : t = 256 := by omega
          subst hte
          have HSr := Lib.hid HS.out
          clear HS
          go_wp2_with fail
          exact bodyPost_ret (v := .bool true) (by simp [results, Try.results3, go_sem]) rfl ⟨rfl, Hb2.out.trans (HSr.out.2.mono hw2)⟩
end Go.Proofs.Ytjikhdjkpagjmaa.Ac
