/- account.Lines: an account's lines of a token. -/
import Derived.Test.YtjikhdjkpagjmaaAcD
set_option linter.unusedVariables false
set_option linter.unusedSimpArgs false
namespace Go.Proofs.Ytjikhdjkpagjmaa.Ac
open Go.RowKit Go.Proofs.YtjikhdjkpagjmaaW.PrintWords
def ln (j : Nat) (k : Int) (g : Bool) (A : Nat → Int) : List Value := [.int .i64 (j : Int), .int .u8 k, .bool g, .int .u64 (A 0), .int .u64 (A 1), .int .u64 (A 2), .int .u64 (A 3)]
def lns (K S T F R : Nat → Int) (A : Nat → Nat → Int) (who tok : Int) : Nat → List (List Value)
  | 0 => []
  | i + 1 => lns K S T F R A who tok i ++ (if T i = tok then (if gives (K i) (S i) (F i) (R i) who = true then [ln i (K i) true (A i)] else []) ++ (if takes (K i) (S i) (F i) who = true then [ln i (K i) false (A i)] else []) else [])
theorem lns_len (K S T F R : Nat → Int) (A : Nat → Nat → Int) (who tok : Int) : ∀ i, (lns K S T F R A who tok i).length ≤ 2 * i
  | 0 => Nat.le_refl _
  | i + 1 => by
    have := lns_len K S T F R A who tok i
    simp only [lns, List.length_append]
    repeat' split
    all_goals simp
    all_goals omega
theorem lns_pos (K S T F R : Nat → Int) (A : Nat → Nat → Int) (who tok : Int) : ∀ i, 0 < (lns K S T F R A who tok i).length ↔ tok ∈ toks K S T F R who i
  | 0 => by simp [lns, toks]
  | i + 1 => by
    have := lns_pos K S T F R A who tok i
    simp only [lns, toks, List.length_append, List.mem_append, ← this]
    by_cases ht : T i = tok
    · subst ht
      cases gives (K i) (S i) (F i) (R i) who <;> cases takes (K i) (S i) (F i) who <;> simp <;> omega
    · rw [if_neg ht]
      cases gives (K i) (S i) (F i) (R i) who <;> cases takes (K i) (S i) (F i) who <;> simp [show ¬ tok = T i from fun e => ht e.symm]
theorem own_slice {w : World} {base : Nat} {e : TypeId} {size n : Nat} {v : Value} {xs : List Value} (h : w.ownsRow base e size v n xs) : ∃ p c, v = .slice p n c := by
  rcases h.2 with ⟨rfl, rfl⟩ | ⟨g, cap, cur, rfl, _⟩
  · exact ⟨none, 0, rfl⟩
  · exact ⟨_, _, rfl⟩
theorem own_past {w : World} {base : Nat} {e : TypeId} {size n b : Nat} {v : Value} {xs : List Value} (h : w.ownsRow base e size v n xs) (hb : w.heap.size ≤ b) : some b ≠ v.ownBlock := by
  intro e
  have := (h.lt b e.symm).2
  omega
theorem grown_cells {w w1 : World} {row : Option Nat} {b : Nat} (hg : w.grownBy w1 row) (hb : b < w.heap.size) (hne : some b ≠ row) : ∀ j, w1.cell? ⟨b, j, none⟩ = w.cell? ⟨b, j, none⟩ := fun j => World.cell?_of_block (hg.block b hb hne)
theorem own_far {w : World} {base : Nat} {e : TypeId} {size n : Nat} {v : Value} {xs : List Value} (h : w.ownsRow base e size v n xs) : some w.heap.size ≠ v.ownBlock := own_past h (Nat.le_refl _)
set_option maxHeartbeats 8000000 in
set_option maxRecDepth 100000 in
theorem lines_calls {p : Option Addr} {n c : Nat} {E : Nat → Array Value} {K S T F R : Nat → Int} {A : Nat → Nat → Int} (hn : n ≤ 40) (who tok : Int) (w : World) (hE : EvRow w p n E K S T F R)
    (hA : ∀ i, i < n → ∀ j, j < 4 → (E i)[38 + j]? = some (.int .u64 (A i j))) : Calls Try.prog 6 #[.slice p n c, .int .u8 who, .int .u8 tok] w
    fun e w' => ∃ p' c', e = .returned (.slice p' (lns K S T F R A who tok n).length c') ∧ w'.ownsRow w.heap.size 46 7 (.slice p' (lns K S T F R A who tok n).length c') (lns K S T F R A who tok n).length (lns K S T F R A who tok n).flatten ∧ Below w.heap.size w w' := by
  have HE : Hid (EvRow w p n E K S T F R) := Lib.hid hE
  have HA := Lib.hid hA
  have HB0 : Aside0 (Below w.heap.size w w) := ⟨Below.refl _ _⟩
  have HO0 : Aside0 (w.ownsRow w.heap.size 46 7 (.slice none 0 0) (lns K S T F R A who tok 0).length (lns K S T F R A who tok 0).flatten) := ⟨World.ownsRow_nil _ _ _ _⟩
  have hi7 : (Try.prog.info? 46).map (fun i => (i.zero, i.size, i.bytes)) = some (some (.agg #[.int .i64 0, .int .u8 0, .bool false, .int .u64 0, .int .u64 0, .int .u64 0, .int .u64 0]), 7, 48) := by kernel_rfl
  clear hE hA
  go_enter Try.func6, Try.ntmps6
  go_wp2_with fail
  go_loopw [7, 14] (fun v7 v14 w' => ∃ i : Nat, i ≤ n ∧ v14 = .int .i64 (i : Int) ∧ Aside0 (w'.ownsRow w.heap.size 46 7 v7 (lns K S T F R A who tok i).length (lns K S T F R A who tok i).flatten) ∧ Aside0 (Below w.heap.size w w')) (fun _ v14 _ => n - (intOf v14).toNat)
  case atStart => exact ⟨0, by omega, rfl, HO0, HB0⟩
  case round =>
    clear HO0 HB0
    obtain ⟨i, hi, rfl, HO, HB⟩ := hrel
    by_cases hlt : i < n
    · have hlt' : (i : Int) < n := by omega
      obtain ⟨blk, off, rfl, hblk, hr⟩ := HE.out.lies i hlt
      have hev := HE.out.ev i hlt
      have ham := HA.out i hlt
      have hr2 := Lib.hid (range_below hr HB.out hblk)
      have Hstep : Hid (lns K S T F R A who tok (i + 1) = lns K S T F R A who tok i ++ (if T i = tok then (if gives (K i) (S i) (F i) (R i) who = true then [ln i (K i) true (A i)] else []) ++ (if takes (K i) (S i) (F i) who = true then [ln i (K i) false (A i)] else []) else [])) := Lib.hid rfl
      unfold ln at Hstep
      generalize E i = Ei at hr hr2 hev ham
      have h38 := ham 0 (by omega)
      have h39 := ham 1 (by omega)
      have h40 := ham 2 (by omega)
      have h41 := ham 3 (by omega)
      clear ham
      generalize A i 0 = a0 at *
      generalize A i 1 = a1 at *
      generalize A i 2 = a2 at *
      generalize A i 3 = a3 at *
      generalize K i = k at *
      generalize S i = s at *
      generalize T i = t at *
      generalize F i = fr at *
      generalize R i = rc at *
      have h35 := hev.token
      have h0 := hev.kind
      have hsz := Lib.hid hev.size
      have hone := Lib.hid hev.one
      have hc : Hid (∀ w, Calls Try.prog 8 #[.agg Ei, .int .u8 who] w fun e w' => e = .returned (.tuple #[.bool (gives k s fr rc who), .bool (takes k s fr who)]) ∧ Below w.heap.size w w') := Lib.hid (fun w => of_calls hev who w)
      have hiE : (Try.prog.info? 40).map (·.size) = some Ei.size := by rw [hev.size]; kernel_rfl
      have HI := Lib.hid hiE
      clear hev hiE hr
      simp only [Nat.reduceAdd] at h38 h39 h40 h41
      generalize gives k s fr rc who = g at *
      generalize takes k s fr who = tk at *
      by_cases ht : t = tok
      · subst ht
        rw [if_pos rfl] at Hstep
        cases g
        · cases tk
          · have Hs2 : Hid (lns K S T F R A who t (i + 1) = lns K S T F R A who t i) := Lib.hid (by rw [Hstep.out]; simp)
            clear Hstep
            go_wp2_with (first | ((with_reducible refine gate_dst (N := 18) rfl ?_); refine load_range rfl 40 (.tmp 17) rfl blk (off + i * 47) rfl Ei _ hr2.out Try.underlying40 rfl HI.out ?_) | ((with_reducible refine gate_store (t := 40) (p := 9) (v := .tmp 18) rfl ?_); refine store_new rfl 40 (.tmp 9) (.tmp 18) rfl Ei rfl rfl 40 _ HI.out (by rw [hsz.out]; rfl) hone.out ?_) | ((with_reducible refine gate_dst (N := 20) rfl ?_); refine wpList_load_row rfl 40 (.tmp 9) rfl wr.heap.size rfl 40 Ei (0, 0) _ (heap_alloc_new wr _) Try.underlying40 rfl HI.out ?_) | (go_at_call 8; refine (hc.out _).mono ?_; rintro e w1 ⟨rfl, hb1⟩; obtain ⟨hcl1, hfz1⟩ := bcell hb1; have hbw1 := below_then (w := wr) (by repeat (first | with_reducible exact Below.refl _ _ | (with_reducible assumption) | with_reducible apply bdrewN | with_reducible apply below_drew1 | with_reducible apply below_al | ((with_reducible refine below_set ?_ ?_); focus (first | omega | (simp; done) | (simp; omega))))) hb1; have hz1 := hb1.size; (try simp [go_sem] at hz1); (try have l1_0 : wr.heap.size < w1.heap.size := by omega)))
            go_roundw
            case measure => simp [intOf]; omega
            case rel => exact ⟨i + 1, by omega, by go_num, ⟨by rw [Hs2.out]; exact (own_below (HO.out.alloc _) hb1)⟩, ⟨(grown_below (HB.out.alloc HB.out.size _) (by have := HB.out.size; simp; omega) hb1)⟩⟩
          · have Hs2 : Hid (lns K S T F R A who t (i + 1) = lns K S T F R A who t i ++ [[.int .i64 (i : Int), .int .u8 k, .bool false, .int .u64 a0, .int .u64 a1, .int .u64 a2, .int .u64 a3]]) := Lib.hid (by rw [Hstep.out]; simp)
            clear Hstep
            go_wp2_with (first | ((with_reducible refine gate_dst (N := 18) rfl ?_); refine load_range rfl 40 (.tmp 17) rfl blk (off + i * 47) rfl Ei _ hr2.out Try.underlying40 rfl HI.out ?_) | ((with_reducible refine gate_store (t := 40) (p := 9) (v := .tmp 18) rfl ?_); refine store_new rfl 40 (.tmp 9) (.tmp 18) rfl Ei rfl rfl 40 _ HI.out (by rw [hsz.out]; rfl) hone.out ?_) | ((with_reducible refine gate_dst (N := 20) rfl ?_); refine wpList_load_row rfl 40 (.tmp 9) rfl wr.heap.size rfl 40 Ei (0, 0) _ (heap_alloc_new wr _) Try.underlying40 rfl HI.out ?_) | (go_at_call 8; refine (hc.out _).mono ?_; rintro e w1 ⟨rfl, hb1⟩; obtain ⟨hcl1, hfz1⟩ := bcell hb1; have hbw1 := below_then (w := wr) (by repeat (first | with_reducible exact Below.refl _ _ | (with_reducible assumption) | with_reducible apply bdrewN | with_reducible apply below_drew1 | with_reducible apply below_al | ((with_reducible refine below_set ?_ ?_); focus (first | omega | (simp; done) | (simp; omega))))) hb1; have hz1 := hb1.size; (try simp [go_sem] at hz1); (try have l1_0 : wr.heap.size < w1.heap.size := by omega)) | ((with_reducible refine gate_dst (N := 48) rfl ?_); at_builtin; go_loud (refine print_append_cells (w0 := w) w.heap.size rfl (.tmp 40) (.tmp 47) 27 46 (.agg #[.int .i64 0, .int .u8 0, .bool false, .int .u64 0, .int .u64 0, .int .u64 0, .int .u64 0]) 7 48 rfl Try.underlying27 hi7 rfl (by decide) (by decide) _ _ _ [.int .i64 (i : Int), .int .u8 k, .bool false, .int .u64 a0, .int .u64 a1, .int .u64 a2, .int .u64 a3] rfl rfl rfl ?a1 (own_below (HO.out.alloc _) hb1) (grown_below (HB.out.alloc HB.out.size _) (by have := HB.out.size; simp; omega) hb1) ?aS ?aL ?_; (case a1 => intro u hu; simp at hu; rcases hu with rfl | rfl | rfl | rfl | rfl | rfl | rfl <;> rfl); (case aS => (have h1 := HB.out.size; omega)); (case aL => have := lns_len K S T F R A who t i; (try simp only [List.length_append, List.length_cons, List.length_nil]); omega); intro v3 w3 hown3 hbe3 hg3 hat3)))
            go_roundw
            case measure => simp [intOf]; omega
            case rel => exact ⟨i + 1, by omega, by go_num, ⟨by rw [Hs2.out, List.length_append, List.flatten_append, List.flatten_singleton]; exact hown3⟩, ⟨hbe3⟩⟩
        · cases tk
          · have Hs2 : Hid (lns K S T F R A who t (i + 1) = lns K S T F R A who t i ++ [[.int .i64 (i : Int), .int .u8 k, .bool true, .int .u64 a0, .int .u64 a1, .int .u64 a2, .int .u64 a3]]) := Lib.hid (by rw [Hstep.out]; simp)
            clear Hstep
            go_wp2_with (first | ((with_reducible refine gate_dst (N := 18) rfl ?_); refine load_range rfl 40 (.tmp 17) rfl blk (off + i * 47) rfl Ei _ hr2.out Try.underlying40 rfl HI.out ?_) | ((with_reducible refine gate_store (t := 40) (p := 9) (v := .tmp 18) rfl ?_); refine store_new rfl 40 (.tmp 9) (.tmp 18) rfl Ei rfl rfl 40 _ HI.out (by rw [hsz.out]; rfl) hone.out ?_) | ((with_reducible refine gate_dst (N := 20) rfl ?_); refine wpList_load_row rfl 40 (.tmp 9) rfl wr.heap.size rfl 40 Ei (0, 0) _ (heap_alloc_new wr _) Try.underlying40 rfl HI.out ?_) | (go_at_call 8; refine (hc.out _).mono ?_; rintro e w1 ⟨rfl, hb1⟩; obtain ⟨hcl1, hfz1⟩ := bcell hb1; have hbw1 := below_then (w := wr) (by repeat (first | with_reducible exact Below.refl _ _ | (with_reducible assumption) | with_reducible apply bdrewN | with_reducible apply below_drew1 | with_reducible apply below_al | ((with_reducible refine below_set ?_ ?_); focus (first | omega | (simp; done) | (simp; omega))))) hb1; have hz1 := hb1.size; (try simp [go_sem] at hz1); (try have l1_0 : wr.heap.size < w1.heap.size := by omega)) | ((with_reducible refine gate_dst (N := 38) rfl ?_); at_builtin; go_loud (refine print_append_cells (w0 := w) w.heap.size rfl (.tmp 30) (.tmp 37) 27 46 (.agg #[.int .i64 0, .int .u8 0, .bool false, .int .u64 0, .int .u64 0, .int .u64 0, .int .u64 0]) 7 48 rfl Try.underlying27 hi7 rfl (by decide) (by decide) _ _ _ [.int .i64 (i : Int), .int .u8 k, .bool true, .int .u64 a0, .int .u64 a1, .int .u64 a2, .int .u64 a3] rfl rfl rfl ?a1 (own_below (HO.out.alloc _) hb1) (grown_below (HB.out.alloc HB.out.size _) (by have := HB.out.size; simp; omega) hb1) ?aS ?aL ?_; (case a1 => intro u hu; simp at hu; rcases hu with rfl | rfl | rfl | rfl | rfl | rfl | rfl <;> rfl); (case aS => (have h1 := HB.out.size; omega)); (case aL => have := lns_len K S T F R A who t i; (try simp only [List.length_append, List.length_cons, List.length_nil]); omega); intro v2 w2 hown2 hbe2 hg2 hat2)))
            go_roundw
            case measure => simp [intOf]; omega
            case rel => exact ⟨i + 1, by omega, by go_num, ⟨by rw [Hs2.out, List.length_append, List.flatten_append, List.flatten_singleton]; exact hown2⟩, ⟨hbe2⟩⟩
          · have Hs2 : Hid (lns K S T F R A who t (i + 1) = (lns K S T F R A who t i ++ [[.int .i64 (i : Int), .int .u8 k, .bool true, .int .u64 a0, .int .u64 a1, .int .u64 a2, .int .u64 a3]]) ++ [[.int .i64 (i : Int), .int .u8 k, .bool false, .int .u64 a0, .int .u64 a1, .int .u64 a2, .int .u64 a3]]) := Lib.hid (by rw [Hstep.out]; simp)
            clear Hstep
            go_wp2_with (first | ((with_reducible refine gate_dst (N := 18) rfl ?_); refine load_range rfl 40 (.tmp 17) rfl blk (off + i * 47) rfl Ei _ hr2.out Try.underlying40 rfl HI.out ?_) | ((with_reducible refine gate_store (t := 40) (p := 9) (v := .tmp 18) rfl ?_); refine store_new rfl 40 (.tmp 9) (.tmp 18) rfl Ei rfl rfl 40 _ HI.out (by rw [hsz.out]; rfl) hone.out ?_) | ((with_reducible refine gate_dst (N := 20) rfl ?_); refine wpList_load_row rfl 40 (.tmp 9) rfl wr.heap.size rfl 40 Ei (0, 0) _ (heap_alloc_new wr _) Try.underlying40 rfl HI.out ?_) | (go_at_call 8; refine (hc.out _).mono ?_; rintro e w1 ⟨rfl, hb1⟩; obtain ⟨hcl1, hfz1⟩ := bcell hb1; have hbw1 := below_then (w := wr) (by repeat (first | with_reducible exact Below.refl _ _ | (with_reducible assumption) | with_reducible apply bdrewN | with_reducible apply below_drew1 | with_reducible apply below_al | ((with_reducible refine below_set ?_ ?_); focus (first | omega | (simp; done) | (simp; omega))))) hb1; have hz1 := hb1.size; (try simp [go_sem] at hz1); (try have l1_0 : wr.heap.size < w1.heap.size := by omega)) | (((with_reducible refine gate_dst (N := 38) rfl ?_); at_builtin; go_loud (refine print_append_cells (w0 := w) w.heap.size rfl (.tmp 30) (.tmp 37) 27 46 (.agg #[.int .i64 0, .int .u8 0, .bool false, .int .u64 0, .int .u64 0, .int .u64 0, .int .u64 0]) 7 48 rfl Try.underlying27 hi7 rfl (by decide) (by decide) _ _ _ [.int .i64 (i : Int), .int .u8 k, .bool true, .int .u64 a0, .int .u64 a1, .int .u64 a2, .int .u64 a3] rfl rfl rfl ?a1 (own_below (HO.out.alloc _) hb1) (grown_below (HB.out.alloc HB.out.size _) (by have := HB.out.size; simp; omega) hb1) ?aS ?aL ?_; (case a1 => intro u hu; simp at hu; rcases hu with rfl | rfl | rfl | rfl | rfl | rfl | rfl <;> rfl); (case aS => (have h1 := HB.out.size; omega)); (case aL => have := lns_len K S T F R A who t i; (try simp only [List.length_append, List.length_cons, List.length_nil]); omega); intro v2 w2 hown2 hbe2 hg2 hat2)); have hcl2 := grown_cells hg2 (b := wr.heap.size) (by omega) (own_far (HO.out)); have hz2 := hg2.size) | ((with_reducible refine gate_dst (N := 48) rfl ?_); at_builtin; go_loud (refine print_append_cells (w0 := w) w.heap.size rfl (.tmp 40) (.tmp 47) 27 46 (.agg #[.int .i64 0, .int .u8 0, .bool false, .int .u64 0, .int .u64 0, .int .u64 0, .int .u64 0]) 7 48 rfl Try.underlying27 hi7 rfl (by decide) (by decide) _ _ _ [.int .i64 (i : Int), .int .u8 k, .bool false, .int .u64 a0, .int .u64 a1, .int .u64 a2, .int .u64 a3] rfl rfl rfl ?a1 hown2 hbe2 ?aS ?aL ?_; (case a1 => intro u hu; simp at hu; rcases hu with rfl | rfl | rfl | rfl | rfl | rfl | rfl <;> rfl); (case aS => (have h1 := HB.out.size; omega)); (case aL => have := lns_len K S T F R A who t i; (try simp only [List.length_append, List.length_cons, List.length_nil]); omega); intro v3 w3 hown3 hbe3 hg3 hat3)))
            go_roundw
            case measure => simp [intOf]; omega
            case rel => exact ⟨i + 1, by omega, by go_num, ⟨by rw [Hs2.out, List.length_append, List.length_append, List.flatten_append, List.flatten_append, List.flatten_singleton, List.flatten_singleton]; exact hown3⟩, ⟨hbe3⟩⟩
      · have Hs2 : Hid (lns K S T F R A who tok (i + 1) = lns K S T F R A who tok i) := Lib.hid (by rw [Hstep.out, if_neg ht, List.append_nil])
        clear Hstep
        go_wp2_with (first | ((with_reducible refine gate_dst (N := 18) rfl ?_); refine load_range rfl 40 (.tmp 17) rfl blk (off + i * 47) rfl Ei _ hr2.out Try.underlying40 rfl HI.out ?_) | ((with_reducible refine gate_store (t := 40) (p := 9) (v := .tmp 18) rfl ?_); refine store_new rfl 40 (.tmp 9) (.tmp 18) rfl Ei rfl rfl 40 _ HI.out (by rw [hsz.out]; rfl) hone.out ?_) | ((with_reducible refine gate_dst (N := 20) rfl ?_); refine wpList_load_row rfl 40 (.tmp 9) rfl wr.heap.size rfl 40 Ei (0, 0) _ (heap_alloc_new wr _) Try.underlying40 rfl HI.out ?_) | (go_at_call 8; refine (hc.out _).mono ?_; rintro e w1 ⟨rfl, hb1⟩; obtain ⟨hcl1, hfz1⟩ := bcell hb1; have hbw1 := below_then (w := wr) (by repeat (first | with_reducible exact Below.refl _ _ | (with_reducible assumption) | with_reducible apply bdrewN | with_reducible apply below_drew1 | with_reducible apply below_al | ((with_reducible refine below_set ?_ ?_); focus (first | omega | (simp; done) | (simp; omega))))) hb1; have hz1 := hb1.size; (try simp [go_sem] at hz1); (try have l1_0 : wr.heap.size < w1.heap.size := by omega)))
        go_roundw
        case measure => simp [intOf]; omega
        case rel => exact ⟨i + 1, by omega, by go_num, ⟨by rw [Hs2.out]; exact (own_below (HO.out.alloc _) hb1)⟩, ⟨(grown_below (HB.out.alloc HB.out.size _) (by have := HB.out.size; simp; omega) hb1)⟩⟩
    · have hin : i = n := by omega
      subst hin
      obtain ⟨p', c', rfl⟩ := own_slice HO.out
      go_wp2_with fail
      exact bodyPost_ret (v := .slice p' (lns K S T F R A who tok i).length c') (by simp [results, Try.results6, go_sem]) rfl ⟨_, _, rfl, HO.out, HB.out⟩
end Go.Proofs.Ytjikhdjkpagjmaa.Ac
