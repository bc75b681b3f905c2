/- account.Touched: the tokens that an account's events tell, sorted, each once. -/
import Derived.Test.YtjikhdjkpagjmaaAcB
import Derived.Test.YtjikhdjkpagjmaaU8s
import Derived.Test.YtjikhdjkpagjmaaU8k
import Derived.Deep.MidRow
import Derived.Lib.OwnBridge
set_option linter.unusedVariables false
set_option linter.unusedSimpArgs false
namespace Go.Proofs.Ytjikhdjkpagjmaa.Ac
open Go.RowKit Go.Proofs.YtjikhdjkpagjmaaW.PrintWords
/-- A row of events as it lies in memory. -/
structure EvRow (w : World) (p : Option Addr) (n : Nat) (E : Nat → Array Value) (K S T F R : Nat → Int) : Prop where
  ev : ∀ i, i < n → Ev (E i) (K i) (S i) (T i) (F i) (R i)
  lies : ∀ i, i < n → ∃ blk off, p = some ⟨blk, off, none⟩ ∧ blk < w.heap.size ∧ w.rangeAt blk (off + i * 47) (E i).toList
theorem EvRow.below {w w1 : World} {p : Option Addr} {n : Nat} {E : Nat → Array Value} {K S T F R : Nat → Int} (h : EvRow w p n E K S T F R) (hb : Below w.heap.size w w1) : EvRow w1 p n E K S T F R := by
  refine ⟨h.ev, fun i hi => ?_⟩
  obtain ⟨blk, off, rfl, hl, hr⟩ := h.lies i hi
  refine ⟨blk, off, rfl, Nat.lt_of_lt_of_le hl hb.size, fun j v hv => ?_⟩
  rw [hb.cell (p := ⟨blk, off + i * 47 + j, none⟩) hl]
  exact hr j v hv
theorem range_below {w w1 : World} {blk off : Nat} {cs : List Value} (h : w.rangeAt blk off cs) (hb : Below w.heap.size w w1) (hl : blk < w.heap.size) : w1.rangeAt blk off cs := fun j v hv => by
  rw [hb.cell (p := ⟨blk, off + j, none⟩) hl]
  exact h j v hv
theorem load_range {P : Program} {ops : Array Oper} {rest : List Oper} {op : Oper} {a : Act} {w : World} {Q : Exit → Act → World → Prop} (hgd : op.guard = none) (ty : TypeId) (x : Operand) (ho : op.op = .load ty x)
    (b o : Nat) (hx : a.eval x = .pointer (some ⟨b, o, none⟩)) (cs : Array Value) (d : TypeDesc) (hc : w.rangeAt b o cs.toList)
    (hu : P.underlying ty = some d) (hd : d.isRow = true) (hi : (P.info? ty).map (·.size) = some cs.size)
    (h : wpList P ops Q rest (a.put op.dst (.agg cs)) w) : wpList P ops Q (op :: rest) a w := by
  refine wpList_load_mid hgd ty x ho b o hx cs.toList d hc hu hd (by simpa using hi) ?_
  simpa using h
theorem store_new {P : Program} {ops : Array Oper} {rest : List Oper} {o : Oper} {a : Act} {w : World} {Q : Exit → Act → World → Prop} (hgd : o.guard = none) (ty : TypeId) (x y : Operand) (ho : o.op = .store ty x y)
    (cells : Array Value) (hx : a.eval x = .pointer (some ⟨w.heap.size, 0, none⟩)) (hy : a.eval y = .agg cells)
    (t : TypeId) (old : Array Value) (hi : (P.info? ty).map (·.size) = some cells.size)
    (hold : old.size = cells.size) (h1 : cells.all (·.oneCell') = true)
    (h : wpList P ops Q rest (a.put o.dst undef) (w.alloc (.cells cells t))) : wpList P ops Q (o :: rest) a (w.alloc (.cells old t)) := by
  refine wpList_store_row hgd ty x y ho w.heap.size cells hx hy t old (heap_alloc_new w _) hi hold h1 ?_
  rw [World.setRow_alloc_new]
  exact h
theorem own_below {W W1 : World} {base : Nat} {e : TypeId} {size : Nat} {v : Value} {n : Nat} {xs : List Value} (h : W.ownsRow base e size v n xs) (hb : Below W.heap.size W W1) : W1.ownsRow base e size v n xs := pw_own_below h hb
theorem grown_below {B : Nat} {w w1 w2 : World} (h : Below B w w1) (hB : B ≤ w1.heap.size) (k : Below w1.heap.size w1 w2) : Below B w w2 := h.trans (k.mono hB)
/-- The tokens of the events ahead of place i that give or take. -/
def toks (K S T F R : Nat → Int) (who : Int) : Nat → List Int
  | 0 => []
  | i + 1 => toks K S T F R who i ++ (if (gives (K i) (S i) (F i) (R i) who || takes (K i) (S i) (F i) who) = true then [T i] else [])
theorem toks_len (K S T F R : Nat → Int) (who : Int) : ∀ i, (toks K S T F R who i).length ≤ i
  | 0 => Nat.le_refl _
  | i + 1 => by
    have := toks_len K S T F R who i
    simp only [toks, List.length_append]
    split <;> simp <;> omega
theorem compact_len (zs : List Int) : (Lib.compact zs).length ≤ zs.length := by
  unfold Lib.compact Lib.compactUpTo
  rw [List.length_map]
  exact Nat.le_trans (List.length_filter_le _ _) (by simp)
def told (K S T F R : Nat → Int) (who : Int) (n : Nat) : List Int := Lib.compact ((toks K S T F R who n).mergeSort fun x y => decide (x ≤ y))
theorem below_grow {B : Nat} {w0 w : World} {os : Array Obj} (h : Below B w0 w) (hB : B ≤ w.heap.size) : Below B w0 (Sort.grow w os) :=
  ⟨h.os, h.tape, h.output, Nat.le_trans h.size (by simp [Sort.grow]), fun b hb => by
    have := h.block b hb
    rw [← this]
    show (w.heap ++ os)[b]? = w.heap[b]?
    rw [Array.getElem?_append_left (by omega)]⟩
set_option maxHeartbeats 8000000 in
set_option maxRecDepth 100000 in
theorem touched_calls {p : Option Addr} {n c : Nat} {E : Nat → Array Value} {K S T F R : Nat → Int} (hn : n ≤ 40) (who : Int) (w : World) (hE : EvRow w p n E K S T F R)  : Calls Try.prog 5 #[.slice p n c, .int .u8 who] w 
    fun e w' => ∃ p' c', e = .returned (.slice p' (told K S T F R who n).length c') ∧ (told K S T F R who n = [] ∨ ∃ b, p' = some ⟨b, 0, none⟩ ∧ b < w'.heap.size ∧ ∀ j (h : j < (told K S T F R who n).length), w'.cell? ⟨b, j, none⟩ = some (.int .u8 (told K S T F R who n)[j])) ∧ Below w.heap.size w w' := by
  have HE : Hid (EvRow w p n E K S T F R) := Lib.hid hE
  have HB0 : Aside0 (Below w.heap.size w w) := ⟨Below.refl _ _⟩
  have HO0 : Aside0 (w.ownsRow w.heap.size 5 1 (.slice none 0 0) (toks K S T F R who 0).length ((toks K S T F R who 0).map (Value.int .u8))) := ⟨World.ownsRow_nil _ _ _ _⟩
  have hi5 : (Try.prog.info? 5).map (fun i => (i.zero, i.size, i.bytes)) = some (some (.int .u8 0), 1, 1) := by kernel_rfl
  clear hE
  go_enter Try.func5, Try.ntmps5
  go_wp2_with fail
  go_loopw [5, 12] (fun v5 v12 w' => ∃ i : Nat, i ≤ n ∧ v12 = .int .i64 (i : Int) ∧ Aside0 (w'.ownsRow w.heap.size 5 1 v5 (toks K S T F R who i).length ((toks K S T F R who i).map (Value.int .u8))) ∧ Aside0 (Below w.heap.size w w')) (fun _ v12 _ => n - (intOf v12).toNat)
  case atStart => exact ⟨0, by omega, rfl, HO0, HB0⟩
  case round =>
    clear HO0 HB0
    obtain ⟨i, hi, rfl, HO, HB⟩ := hrel
    by_cases hlt : i < n
    · have hlt' : (i : Int) < n := by omega
      obtain ⟨blk, off, rfl, hblk, hr⟩ := HE.out.lies i hlt
      have hev := HE.out.ev i hlt
      have hr2 := Lib.hid (range_below hr HB.out hblk)
      have Hstep : Hid (toks K S T F R who (i + 1) = toks K S T F R who i ++ (if (gives (K i) (S i) (F i) (R i) who || takes (K i) (S i) (F i) who) = true then [T i] else [])) := Lib.hid rfl
      generalize E i = Ei at hr hr2 hev
      generalize K i = k at *
      generalize S i = s at *
      generalize T i = t at *
      generalize F i = fr at *
      generalize R i = rc at *
      have h35 := hev.token
      have hsz := Lib.hid hev.size
      have hone := Lib.hid hev.one
      have hc : Hid (∀ w, Calls Try.prog 8 #[.agg Ei, .int .u8 who] w fun e w' => e = .returned (.tuple #[.bool (gives k s fr rc who), .bool (takes k s fr who)]) ∧ Below w.heap.size w w') := Lib.hid (fun w => of_calls hev who w)
      have hiE : (Try.prog.info? 40).map (·.size) = some Ei.size := by rw [hev.size]; kernel_rfl
      have HI := Lib.hid hiE
      clear hev hiE hr
      generalize gives k s fr rc who = g at *
      generalize takes k s fr who = tk at *
      by_cases hg : (g || tk) = true
      · rw [if_pos hg] at Hstep
        by_cases hg1 : g = true
        · subst hg1
          go_wp2_with (first | ((with_reducible refine gate_dst (N := 15) rfl ?_); refine load_range rfl 40 (.tmp 14) rfl blk (off + i * 47) rfl Ei _ hr2.out Try.underlying40 rfl HI.out ?_) | ((with_reducible refine gate_store (t := 40) (p := 7) (v := .tmp 15) rfl ?_); refine store_new rfl 40 (.tmp 7) (.tmp 15) rfl Ei rfl rfl 40 _ HI.out (by rw [hsz.out]; rfl) hone.out ?_) | ((with_reducible refine gate_dst (N := 17) rfl ?_); refine wpList_load_row rfl 40 (.tmp 7) rfl wr.heap.size rfl 40 Ei (0, 0) _ (heap_alloc_new wr _) Try.underlying40 rfl HI.out ?_) | (go_at_call 8; refine (hc.out _).mono ?_; rintro e w1 ⟨rfl, hb1⟩; obtain ⟨hcl1, hfz1⟩ := bcell hb1; have hbw1 := below_then (w := wr) (by repeat (first | with_reducible exact Below.refl _ _ | (with_reducible assumption) | with_reducible apply bdrewN | with_reducible apply below_drew1 | with_reducible apply below_al | ((with_reducible refine below_set ?_ ?_); focus (first | omega | (simp; done) | (simp; omega))))) hb1; have hz1 := hb1.size; (try simp [go_sem] at hz1); (try have l1_0 : wr.heap.size < w1.heap.size := by omega)) | (at_builtin; go_loud (refine print_append_cells (w0 := w) w.heap.size rfl (.tmp 26) (.tmp 29) 24 5 (.int .u8 0) 1 1 rfl Try.underlying24 hi5 rfl (by decide) (by decide) _ _ _ [.int .u8 t] rfl rfl rfl ?a1 (own_below (HO.out.alloc _) hb1) ?aB ?aS ?aL ?_; (case a1 => intro u hu; simp at hu; subst hu; rfl); (case aB => exact grown_below (HB.out.alloc HB.out.size _) (by have := HB.out.size; simp; omega) hb1); (case aS => (have h1 := HB.out.size; omega)); (case aL => have := toks_len K S T F R who i; omega); intro v2 w2 hown hb2 hg hat)))
          go_roundw
          case measure => simp [intOf]; omega
          case rel => exact ⟨i + 1, by omega, by go_num, ⟨by rw [Hstep.out, List.length_append, List.map_append]; exact hown⟩, ⟨hb2⟩⟩
        · have hg0 : g = false := by simpa using hg1
          have ht1 : tk = true := by simpa [hg0] using hg
          subst hg0 ht1
          clear hg hg1
          go_wp2_with (first | ((with_reducible refine gate_dst (N := 15) rfl ?_); refine load_range rfl 40 (.tmp 14) rfl blk (off + i * 47) rfl Ei _ hr2.out Try.underlying40 rfl HI.out ?_) | ((with_reducible refine gate_store (t := 40) (p := 7) (v := .tmp 15) rfl ?_); refine store_new rfl 40 (.tmp 7) (.tmp 15) rfl Ei rfl rfl 40 _ HI.out (by rw [hsz.out]; rfl) hone.out ?_) | ((with_reducible refine gate_dst (N := 17) rfl ?_); refine wpList_load_row rfl 40 (.tmp 7) rfl wr.heap.size rfl 40 Ei (0, 0) _ (heap_alloc_new wr _) Try.underlying40 rfl HI.out ?_) | (go_at_call 8; refine (hc.out _).mono ?_; rintro e w1 ⟨rfl, hb1⟩; obtain ⟨hcl1, hfz1⟩ := bcell hb1; have hbw1 := below_then (w := wr) (by repeat (first | with_reducible exact Below.refl _ _ | (with_reducible assumption) | with_reducible apply bdrewN | with_reducible apply below_drew1 | with_reducible apply below_al | ((with_reducible refine below_set ?_ ?_); focus (first | omega | (simp; done) | (simp; omega))))) hb1; have hz1 := hb1.size; (try simp [go_sem] at hz1); (try have l1_0 : wr.heap.size < w1.heap.size := by omega)) | (at_builtin; go_loud (refine print_append_cells (w0 := w) w.heap.size rfl (.tmp 26) (.tmp 29) 24 5 (.int .u8 0) 1 1 rfl Try.underlying24 hi5 rfl (by decide) (by decide) _ _ _ [.int .u8 t] rfl rfl rfl ?a1 (own_below (HO.out.alloc _) hb1) ?aB ?aS ?aL ?_; (case a1 => intro u hu; simp at hu; subst hu; rfl); (case aB => exact grown_below (HB.out.alloc HB.out.size _) (by have := HB.out.size; simp; omega) hb1); (case aS => (have h1 := HB.out.size; omega)); (case aL => have := toks_len K S T F R who i; omega); intro v2 w2 hown hb2 hg hat)))
          go_roundw
          case measure => simp [intOf]; omega
          case rel => exact ⟨i + 1, by omega, by go_num, ⟨by rw [Hstep.out, List.length_append, List.map_append]; exact hown⟩, ⟨hb2⟩⟩
      · rw [if_neg hg, List.append_nil] at Hstep
        have hg0 : g = false := by cases g <;> simp_all
        have ht0 : tk = false := by cases tk <;> simp_all
        subst hg0 ht0
        clear hg
        go_wp2_with (first | ((with_reducible refine gate_dst (N := 15) rfl ?_); refine load_range rfl 40 (.tmp 14) rfl blk (off + i * 47) rfl Ei _ hr2.out Try.underlying40 rfl HI.out ?_) | ((with_reducible refine gate_store (t := 40) (p := 7) (v := .tmp 15) rfl ?_); refine store_new rfl 40 (.tmp 7) (.tmp 15) rfl Ei rfl rfl 40 _ HI.out (by rw [hsz.out]; rfl) hone.out ?_) | ((with_reducible refine gate_dst (N := 17) rfl ?_); refine wpList_load_row rfl 40 (.tmp 7) rfl wr.heap.size rfl 40 Ei (0, 0) _ (heap_alloc_new wr _) Try.underlying40 rfl HI.out ?_) | (go_at_call 8; refine (hc.out _).mono ?_; rintro e w1 ⟨rfl, hb1⟩; obtain ⟨hcl1, hfz1⟩ := bcell hb1; have hbw1 := below_then (w := wr) (by repeat (first | with_reducible exact Below.refl _ _ | (with_reducible assumption) | with_reducible apply bdrewN | with_reducible apply below_drew1 | with_reducible apply below_al | ((with_reducible refine below_set ?_ ?_); focus (first | omega | (simp; done) | (simp; omega))))) hb1; have hz1 := hb1.size; (try simp [go_sem] at hz1); (try have l1_0 : wr.heap.size < w1.heap.size := by omega)))
        go_roundw
        case measure => simp [intOf]; omega
        case rel => exact ⟨i + 1, by omega, by go_num, ⟨by rw [Hstep.out]; exact own_below (HO.out.alloc _) hb1⟩, ⟨grown_below (HB.out.alloc HB.out.size _) (by have := HB.out.size; simp; omega) hb1⟩⟩
    · have hin : i = n := by omega
      subst hin
      have hbb := HB.out.size
      have hlen := toks_len K S T F R who i
      rcases HO.out.2 with ⟨rfl, hz⟩ | ⟨gb, cap, cur, rfl, hgb, hcur, hcap, hmax, hcs, htk⟩
      · have hnil : toks K S T F R who i = [] := List.eq_nil_of_length_eq_zero hz
        have htold : told K S T F R who i = [] := by simp [told, hnil, Lib.compact, Lib.compactUpTo]
        go_wp2_with (first | (go_at_call 9; refine (U8.Sort_int_nil none 0 _).mono ?_; rintro e w' ⟨rfl, rfl⟩) | (go_at_call 10; refine (U8.slices_Compact_empty none 0 _).mono ?_; rintro e w' ⟨rfl, rfl⟩))
        refine bodyPost_ret (v := .slice none 0 0) (by simp [results, Try.results5, go_sem]) rfl ⟨none, 0, by rw [htold]; rfl, Or.inl htold, HB.out⟩
      · have hne : Value.slice (some ⟨gb, 0, none⟩) (toks K S T F R who i).length cap ≠ .slice none 0 0 := by simp
        obtain ⟨g2, c2, e2, hg2, hl2, hcc, hmm, _, hH⟩ := Lib.holds_of_ownsRow HO.out hne
        simp only [Value.slice.injEq, Option.some.injEq, Addr.mk.injEq, and_true, true_and] at e2
        obtain ⟨rfl, rfl⟩ := e2
        have hzs : (toks K S T F R who i).length < 4611686018427387904 := by omega
        have hsort := Lib.hid (U8.slices_Sort gb 0 cap (toks K S T F R who i) wr hH hl2 hzs)
        have hml : ((toks K S T F R who i).mergeSort fun x y => decide (x ≤ y)).length = (toks K S T F R who i).length := List.length_mergeSort _
        have HH := Lib.hid hH
        have HT : Hid (told K S T F R who i = Lib.compact ((toks K S T F R who i).mergeSort fun x y => decide (x ≤ y))) := Lib.hid rfl
        clear hcur hcs htk hH
        obtain ⟨srt, hsrt⟩ : ∃ s, (toks K S T F R who i).mergeSort (fun x y => decide (x ≤ y)) = s := ⟨_, rfl⟩
        rw [hsrt] at hsort hml HT
        clear hsrt
        have hcomp : Hid (∀ W n os, W = Sort.grow (Sort.putRow (Value.int .u8) (Sort.ahead wr n) gb 0 srt.toArray) os → Calls Try.prog 10 #[.slice (some ⟨gb, 0, none⟩) (toks K S T F R who i).length cap] W fun e w' => e = .returned (.slice (some ⟨gb, 0, none⟩) (told K S T F R who i).length cap) ∧ ((told K S T F R who i) = [] ∨ ∃ b, some (⟨gb, 0, none⟩ : Addr) = some ⟨b, 0, none⟩ ∧ b < w'.heap.size ∧ ∀ j (h : j < (told K S T F R who i).length), w'.cell? ⟨b, j, none⟩ = some (.int .u8 (told K S T F R who i)[j])) ∧ Below w.heap.size w w') := by
          refine Lib.hid (fun W n os hW => ?_)
          have hAt : Sort.At (Value.int .u8) wr gb 0 srt.toArray W := ⟨n, os, hW⟩
          obtain ⟨hH1, hb1⟩ := hAt.holds HH.out (by simp [hml]) hl2
          have h := U8.slices_Compact gb 0 cap srt W hH1 (by omega) (by omega)
          rw [hml, ← HT.out] at h
          refine h.mono ?_
          rintro e w' ⟨rfl, q, rfl⟩
          have hle : (told K S T F R who i).length ≤ srt.length := by rw [HT.out]; exact compact_len srt
          refine ⟨rfl, Or.inr ⟨gb, rfl, by simpa using hb1, fun j hj => ?_⟩, ?_⟩
          · have hc := Sort.cell?_putRow (Value.int .u8) (Sort.ahead W q) gb 0 srt.toArray ((told K S T F R who i) ++ List.replicate (srt.length - (told K S T F R who i).length) 0).toArray (Sort.holds_ahead _ _ _ _ _ _ hH1) (by simp; omega) j (by simp; omega)
            rw [Nat.zero_add] at hc
            rw [hml] at hc
            rw [hc]
            simp only [List.getElem!_toArray, List.getElem!_eq_getElem?_getD]
            rw [List.getElem?_append_left hj]
            simp [hj]
          · subst hW
            exact Lib.below_putRow (below_grow (Lib.below_putRow HB.out hgb) (by simpa using hbb)) hgb
        go_wp2_with (first | (go_at_call 9; refine hsort.out.mono ?_; rintro e w5 ⟨rfl, nn, os, hw5⟩; have HW5 := Lib.hid hw5; clear hw5) | (go_at_call 10; refine (hcomp.out _ _ _ HW5.out).mono ?_; rintro e w6 ⟨rfl, hres, hbe⟩))
        exact bodyPost_ret (v := .slice (some ⟨gb, 0, none⟩) (told K S T F R who i).length cap) (by simp [results, Try.results5, go_sem]) rfl ⟨_, _, rfl, hres, hbe⟩
end Go.Proofs.Ytjikhdjkpagjmaa.Ac
