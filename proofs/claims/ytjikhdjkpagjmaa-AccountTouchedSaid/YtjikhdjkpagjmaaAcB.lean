/- account.of: what an event gives an account, and takes. -/
import Derived.Test.YtjikhdjkpagjmaaAcA
import Derived.Test.YtjikhdjkpagjmaaWWords
set_option linter.unusedVariables false
set_option linter.unusedSimpArgs false
namespace Go.Proofs.Ytjikhdjkpagjmaa.Ac
open Go.RowKit
def gives (k s fr rc who : Int) : Bool := (decide (way k s = 1) || decide (way k s = 5)) && (rc == who) || decide (way k s = 2) && (fr == who)
def takes (k s fr who : Int) : Bool := (decide (way k s = 4) || decide (way k s = 5)) && (fr == who)
theorem way_cases (k s : Int) : way k s = 0 ∨ way k s = 1 ∨ way k s = 2 ∨ way k s = 4 ∨ way k s = 5 := by
  unfold way
  repeat' split
  all_goals simp
set_option maxHeartbeats 8000000 in
set_option maxRecDepth 100000 in
theorem of_calls {E : Array Value} {k s t fr rc : Int} (hE : Ev E k s t fr rc) (who : Int) (w : World) : Calls Try.prog 8 #[.agg E, .int .u8 who] w
    fun e w' => e = .returned (.tuple #[.bool (gives k s fr rc who), .bool (takes k s fr who)]) ∧ Below w.heap.size w w' := by
  have h36 := hE.from_
  have h37 := hE.to_
  have hc : Hid (∀ w, Calls Try.prog 13 #[.agg E] w fun e w' => e = .returned (.int .u8 (way k s)) ∧ Below w.heap.size w w') := Lib.hid (fun w => ways_calls hE w)
  have hi : (Try.prog.info? 40).map (·.size) = some E.size := by rw [hE.size]; kernel_rfl
  have HI : Hid ((Try.prog.info? 40).map (·.size) = some E.size) := Lib.hid hi
  clear hE hi
  have hway : ∃ W, way k s = W := ⟨_, rfl⟩
  obtain ⟨W, hW⟩ := hway
  have hcs := way_cases k s
  unfold gives takes
  rw [hW] at hc hcs ⊢
  clear hW
  rcases hcs with rfl | rfl | rfl | rfl | rfl
  · have q1 : bits BinOp.and IntKind.u8 0 1 = 0 := by decide
    have q2 : bits BinOp.and IntKind.u8 0 2 = 0 := by decide
    have q4 : bits BinOp.and IntKind.u8 0 4 = 0 := by decide
    go_enter Try.func8, Try.ntmps8
    go_wp2_with (first | ((with_reducible refine Go.Proofs.YtjikhdjkpagjmaaW.PrintWords.gate_dst (N := 7) rfl ?_); refine wpList_load_row rfl 40 (.tmp 2) rfl w.heap.size rfl 40 E (0, 0) _ (heap_alloc_new w _) Try.underlying40 rfl HI.out ?_) | (go_at_call 13; refine (hc.out _).mono ?_; rintro e w1 ⟨rfl, hb1⟩; obtain ⟨hcl1, hfz1⟩ := bcell hb1; have hbw1 := below_then (w := w) (by repeat (first | with_reducible exact Below.refl _ _ | (with_reducible assumption) | with_reducible apply bdrewN | with_reducible apply below_drew1 | with_reducible apply below_al | ((with_reducible refine below_set ?_ ?_); focus (first | omega | (simp; done) | (simp; omega))))) hb1; have hz1 := hb1.size; (try simp [go_sem] at hz1); (try have l1_0 : w.heap.size < w1.heap.size := by omega)))
    go_region
    go_wp2_with fail
    refine bodyPost_ret (v := .tuple #[.bool false, .bool false]) (by simp [results, Try.results8, go_sem]) rfl ⟨by simp, ?_⟩
    exact below_drew1 (below_then (below_al (Below.refl _ _)) hb1)
  · have q1 : bits BinOp.and IntKind.u8 1 1 = 1 := by decide
    have q2 : bits BinOp.and IntKind.u8 1 2 = 0 := by decide
    have q4 : bits BinOp.and IntKind.u8 1 4 = 0 := by decide
    by_cases hx : rc = who
    · go_enter Try.func8, Try.ntmps8
      go_wp2_with (first | ((with_reducible refine Go.Proofs.YtjikhdjkpagjmaaW.PrintWords.gate_dst (N := 7) rfl ?_); refine wpList_load_row rfl 40 (.tmp 2) rfl w.heap.size rfl 40 E (0, 0) _ (heap_alloc_new w _) Try.underlying40 rfl HI.out ?_) | (go_at_call 13; refine (hc.out _).mono ?_; rintro e w1 ⟨rfl, hb1⟩; obtain ⟨hcl1, hfz1⟩ := bcell hb1; have hbw1 := below_then (w := w) (by repeat (first | with_reducible exact Below.refl _ _ | (with_reducible assumption) | with_reducible apply bdrewN | with_reducible apply below_drew1 | with_reducible apply below_al | ((with_reducible refine below_set ?_ ?_); focus (first | omega | (simp; done) | (simp; omega))))) hb1; have hz1 := hb1.size; (try simp [go_sem] at hz1); (try have l1_0 : w.heap.size < w1.heap.size := by omega)))
      go_region
      go_wp2_with fail
      refine bodyPost_ret (v := .tuple #[.bool true, .bool false]) (by simp [results, Try.results8, go_sem, hx]) rfl ⟨by simp [hx], ?_⟩
      exact below_drew1 (below_then (below_al (Below.refl _ _)) hb1)
    · go_enter Try.func8, Try.ntmps8
      go_wp2_with (first | ((with_reducible refine Go.Proofs.YtjikhdjkpagjmaaW.PrintWords.gate_dst (N := 7) rfl ?_); refine wpList_load_row rfl 40 (.tmp 2) rfl w.heap.size rfl 40 E (0, 0) _ (heap_alloc_new w _) Try.underlying40 rfl HI.out ?_) | (go_at_call 13; refine (hc.out _).mono ?_; rintro e w1 ⟨rfl, hb1⟩; obtain ⟨hcl1, hfz1⟩ := bcell hb1; have hbw1 := below_then (w := w) (by repeat (first | with_reducible exact Below.refl _ _ | (with_reducible assumption) | with_reducible apply bdrewN | with_reducible apply below_drew1 | with_reducible apply below_al | ((with_reducible refine below_set ?_ ?_); focus (first | omega | (simp; done) | (simp; omega))))) hb1; have hz1 := hb1.size; (try simp [go_sem] at hz1); (try have l1_0 : w.heap.size < w1.heap.size := by omega)))
      go_region
      go_wp2_with fail
      refine bodyPost_ret (v := .tuple #[.bool false, .bool false]) (by simp [results, Try.results8, go_sem, hx]) rfl ⟨by simp [hx], ?_⟩
      exact below_drew1 (below_then (below_al (Below.refl _ _)) hb1)
  · have q1 : bits BinOp.and IntKind.u8 2 1 = 0 := by decide
    have q2 : bits BinOp.and IntKind.u8 2 2 = 2 := by decide
    have q4 : bits BinOp.and IntKind.u8 2 4 = 0 := by decide
    go_enter Try.func8, Try.ntmps8
    go_wp2_with (first | ((with_reducible refine Go.Proofs.YtjikhdjkpagjmaaW.PrintWords.gate_dst (N := 7) rfl ?_); refine wpList_load_row rfl 40 (.tmp 2) rfl w.heap.size rfl 40 E (0, 0) _ (heap_alloc_new w _) Try.underlying40 rfl HI.out ?_) | (go_at_call 13; refine (hc.out _).mono ?_; rintro e w1 ⟨rfl, hb1⟩; obtain ⟨hcl1, hfz1⟩ := bcell hb1; have hbw1 := below_then (w := w) (by repeat (first | with_reducible exact Below.refl _ _ | (with_reducible assumption) | with_reducible apply bdrewN | with_reducible apply below_drew1 | with_reducible apply below_al | ((with_reducible refine below_set ?_ ?_); focus (first | omega | (simp; done) | (simp; omega))))) hb1; have hz1 := hb1.size; (try simp [go_sem] at hz1); (try have l1_0 : w.heap.size < w1.heap.size := by omega)))
    go_region
    go_wp2_with fail
    refine bodyPost_ret (v := .tuple #[.bool (fr == who), .bool false]) (by simp [results, Try.results8, go_sem]) rfl ⟨by simp, ?_⟩
    exact below_drew1 (below_then (below_al (Below.refl _ _)) hb1)
  · have q1 : bits BinOp.and IntKind.u8 4 1 = 0 := by decide
    have q2 : bits BinOp.and IntKind.u8 4 2 = 0 := by decide
    have q4 : bits BinOp.and IntKind.u8 4 4 = 4 := by decide
    go_enter Try.func8, Try.ntmps8
    go_wp2_with (first | ((with_reducible refine Go.Proofs.YtjikhdjkpagjmaaW.PrintWords.gate_dst (N := 7) rfl ?_); refine wpList_load_row rfl 40 (.tmp 2) rfl w.heap.size rfl 40 E (0, 0) _ (heap_alloc_new w _) Try.underlying40 rfl HI.out ?_) | (go_at_call 13; refine (hc.out _).mono ?_; rintro e w1 ⟨rfl, hb1⟩; obtain ⟨hcl1, hfz1⟩ := bcell hb1; have hbw1 := below_then (w := w) (by repeat (first | with_reducible exact Below.refl _ _ | (with_reducible assumption) | with_reducible apply bdrewN | with_reducible apply below_drew1 | with_reducible apply below_al | ((with_reducible refine below_set ?_ ?_); focus (first | omega | (simp; done) | (simp; omega))))) hb1; have hz1 := hb1.size; (try simp [go_sem] at hz1); (try have l1_0 : w.heap.size < w1.heap.size := by omega)))
    go_region
    go_wp2_with fail
    refine bodyPost_ret (v := .tuple #[.bool false, .bool (fr == who)]) (by simp [results, Try.results8, go_sem]) rfl ⟨by simp, ?_⟩
    exact below_drew1 (below_then (below_al (Below.refl _ _)) hb1)
  · have q1 : bits BinOp.and IntKind.u8 5 1 = 1 := by decide
    have q2 : bits BinOp.and IntKind.u8 5 2 = 0 := by decide
    have q4 : bits BinOp.and IntKind.u8 5 4 = 4 := by decide
    by_cases hx : rc = who
    · go_enter Try.func8, Try.ntmps8
      go_wp2_with (first | ((with_reducible refine Go.Proofs.YtjikhdjkpagjmaaW.PrintWords.gate_dst (N := 7) rfl ?_); refine wpList_load_row rfl 40 (.tmp 2) rfl w.heap.size rfl 40 E (0, 0) _ (heap_alloc_new w _) Try.underlying40 rfl HI.out ?_) | (go_at_call 13; refine (hc.out _).mono ?_; rintro e w1 ⟨rfl, hb1⟩; obtain ⟨hcl1, hfz1⟩ := bcell hb1; have hbw1 := below_then (w := w) (by repeat (first | with_reducible exact Below.refl _ _ | (with_reducible assumption) | with_reducible apply bdrewN | with_reducible apply below_drew1 | with_reducible apply below_al | ((with_reducible refine below_set ?_ ?_); focus (first | omega | (simp; done) | (simp; omega))))) hb1; have hz1 := hb1.size; (try simp [go_sem] at hz1); (try have l1_0 : w.heap.size < w1.heap.size := by omega)))
      go_region
      go_wp2_with fail
      refine bodyPost_ret (v := .tuple #[.bool true, .bool (fr == who)]) (by simp [results, Try.results8, go_sem, hx]) rfl ⟨by simp [hx], ?_⟩
      exact below_drew1 (below_then (below_al (Below.refl _ _)) hb1)
    · go_enter Try.func8, Try.ntmps8
      go_wp2_with (first | ((with_reducible refine Go.Proofs.YtjikhdjkpagjmaaW.PrintWords.gate_dst (N := 7) rfl ?_); refine wpList_load_row rfl 40 (.tmp 2) rfl w.heap.size rfl 40 E (0, 0) _ (heap_alloc_new w _) Try.underlying40 rfl HI.out ?_) | (go_at_call 13; refine (hc.out _).mono ?_; rintro e w1 ⟨rfl, hb1⟩; obtain ⟨hcl1, hfz1⟩ := bcell hb1; have hbw1 := below_then (w := w) (by repeat (first | with_reducible exact Below.refl _ _ | (with_reducible assumption) | with_reducible apply bdrewN | with_reducible apply below_drew1 | with_reducible apply below_al | ((with_reducible refine below_set ?_ ?_); focus (first | omega | (simp; done) | (simp; omega))))) hb1; have hz1 := hb1.size; (try simp [go_sem] at hz1); (try have l1_0 : w.heap.size < w1.heap.size := by omega)))
      go_region
      go_wp2_with fail
      refine bodyPost_ret (v := .tuple #[.bool false, .bool (fr == who)]) (by simp [results, Try.results8, go_sem, hx]) rfl ⟨by simp [hx], ?_⟩
      exact below_drew1 (below_then (below_al (Below.refl _ _)) hb1)
end Go.Proofs.Ytjikhdjkpagjmaa.Ac
