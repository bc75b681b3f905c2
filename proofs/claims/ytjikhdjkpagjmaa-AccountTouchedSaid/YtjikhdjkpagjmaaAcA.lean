/- account.ways: what a kind of event does. -/
import Derived.Test.YtjikhdjkpagjmaaBlk
set_option linter.unusedVariables false
set_option linter.unusedSimpArgs false
namespace Go.Proofs.Ytjikhdjkpagjmaa.Ac
open Go.RowKit
/-- What a kind of event does to its accounts (side s). -/
def way (k s : Int) : Int :=
  if k = 1 then (if s = 0 then 5 else 0) else if k = 8 then 5 else if k = 0 ∨ k = 11 ∨ k = 13 ∨ k = 14 ∨ k = 15 ∨ k = 18 then 1
  else if k = 6 ∨ k = 16 then 2 else if k = 2 ∨ k = 4 ∨ k = 9 ∨ k = 10 ∨ k = 17 then 4 else 0
/-- An event: its 47 cells, and what is read of them. -/
structure Ev (E : Array Value) (k s t fr rc : Int) : Prop where
  size : E.size = 47
  one : E.all (·.oneCell') = true
  kind : E[0]? = some (.int .u8 k)
  side : E[34]? = some (.int .u8 s)
  token : E[35]? = some (.int .u8 t)
  from_ : E[36]? = some (.int .u8 fr)
  to_ : E[37]? = some (.int .u8 rc)
set_option maxHeartbeats 8000000 in
set_option maxRecDepth 100000 in
theorem ways_calls {E : Array Value} {k s t fr rc : Int} (hE : Ev E k s t fr rc) (w : World) : Calls Try.prog 13 #[.agg E] w fun e w' => e = .returned (.int .u8 (way k s)) ∧ Below w.heap.size w w' := by
  have h0 := hE.kind
  have h34 := hE.side
  clear hE
  by_cases g1 : k = 1
  · subst g1
    by_cases gs : s = 0
    · subst gs
      go_enter Try.func13, Try.ntmps13
      go_wp2_with fail
      refine bodyPost_ret (v := .int .u8 5) (by simp [results, Try.results13, go_sem]) rfl ⟨by simp [way], ?_⟩
      repeat (first | with_reducible exact Below.refl _ _ | with_reducible apply below_al)
    · go_enter Try.func13, Try.ntmps13
      go_wp2_with fail
      refine bodyPost_ret (v := .int .u8 0) (by simp [results, Try.results13, go_sem]) rfl ⟨by simp [way, gs], ?_⟩
      repeat (first | with_reducible exact Below.refl _ _ | with_reducible apply below_al)
  by_cases g8 : k = 8
  · subst g8
    go_enter Try.func13, Try.ntmps13
    go_wp2_with fail
    refine bodyPost_ret (v := .int .u8 5) (by simp [results, Try.results13, go_sem]) rfl ⟨by simp [way], ?_⟩
    repeat (first | with_reducible exact Below.refl _ _ | with_reducible apply below_al)
  by_cases g0 : k = 0
  · subst g0
    go_enter Try.func13, Try.ntmps13
    go_wp2_with fail
    refine bodyPost_ret (v := .int .u8 1) (by simp [results, Try.results13, go_sem]) rfl ⟨by simp [way], ?_⟩
    repeat (first | with_reducible exact Below.refl _ _ | with_reducible apply below_al)
  by_cases g11 : k = 11
  · subst g11
    go_enter Try.func13, Try.ntmps13
    go_wp2_with fail
    refine bodyPost_ret (v := .int .u8 1) (by simp [results, Try.results13, go_sem]) rfl ⟨by simp [way], ?_⟩
    repeat (first | with_reducible exact Below.refl _ _ | with_reducible apply below_al)
  by_cases g13 : k = 13
  · subst g13
    go_enter Try.func13, Try.ntmps13
    go_wp2_with fail
    refine bodyPost_ret (v := .int .u8 1) (by simp [results, Try.results13, go_sem]) rfl ⟨by simp [way], ?_⟩
    repeat (first | with_reducible exact Below.refl _ _ | with_reducible apply below_al)
  by_cases g14 : k = 14
  · subst g14
    go_enter Try.func13, Try.ntmps13
    go_wp2_with fail
    refine bodyPost_ret (v := .int .u8 1) (by simp [results, Try.results13, go_sem]) rfl ⟨by simp [way], ?_⟩
    repeat (first | with_reducible exact Below.refl _ _ | with_reducible apply below_al)
  by_cases g15 : k = 15
  · subst g15
    go_enter Try.func13, Try.ntmps13
    go_wp2_with fail
    refine bodyPost_ret (v := .int .u8 1) (by simp [results, Try.results13, go_sem]) rfl ⟨by simp [way], ?_⟩
    repeat (first | with_reducible exact Below.refl _ _ | with_reducible apply below_al)
  by_cases g18 : k = 18
  · subst g18
    go_enter Try.func13, Try.ntmps13
    go_wp2_with fail
    refine bodyPost_ret (v := .int .u8 1) (by simp [results, Try.results13, go_sem]) rfl ⟨by simp [way], ?_⟩
    repeat (first | with_reducible exact Below.refl _ _ | with_reducible apply below_al)
  by_cases g6 : k = 6
  · subst g6
    go_enter Try.func13, Try.ntmps13
    go_wp2_with fail
    refine bodyPost_ret (v := .int .u8 2) (by simp [results, Try.results13, go_sem]) rfl ⟨by simp [way], ?_⟩
    repeat (first | with_reducible exact Below.refl _ _ | with_reducible apply below_al)
  by_cases g16 : k = 16
  · subst g16
    go_enter Try.func13, Try.ntmps13
    go_wp2_with fail
    refine bodyPost_ret (v := .int .u8 2) (by simp [results, Try.results13, go_sem]) rfl ⟨by simp [way], ?_⟩
    repeat (first | with_reducible exact Below.refl _ _ | with_reducible apply below_al)
  by_cases g2 : k = 2
  · subst g2
    go_enter Try.func13, Try.ntmps13
    go_wp2_with fail
    refine bodyPost_ret (v := .int .u8 4) (by simp [results, Try.results13, go_sem]) rfl ⟨by simp [way], ?_⟩
    repeat (first | with_reducible exact Below.refl _ _ | with_reducible apply below_al)
  by_cases g4 : k = 4
  · subst g4
    go_enter Try.func13, Try.ntmps13
    go_wp2_with fail
    refine bodyPost_ret (v := .int .u8 4) (by simp [results, Try.results13, go_sem]) rfl ⟨by simp [way], ?_⟩
    repeat (first | with_reducible exact Below.refl _ _ | with_reducible apply below_al)
  by_cases g9 : k = 9
  · subst g9
    go_enter Try.func13, Try.ntmps13
    go_wp2_with fail
    refine bodyPost_ret (v := .int .u8 4) (by simp [results, Try.results13, go_sem]) rfl ⟨by simp [way], ?_⟩
    repeat (first | with_reducible exact Below.refl _ _ | with_reducible apply below_al)
  by_cases g10 : k = 10
  · subst g10
    go_enter Try.func13, Try.ntmps13
    go_wp2_with fail
    refine bodyPost_ret (v := .int .u8 4) (by simp [results, Try.results13, go_sem]) rfl ⟨by simp [way], ?_⟩
    repeat (first | with_reducible exact Below.refl _ _ | with_reducible apply below_al)
  by_cases g17 : k = 17
  · subst g17
    go_enter Try.func13, Try.ntmps13
    go_wp2_with fail
    refine bodyPost_ret (v := .int .u8 4) (by simp [results, Try.results13, go_sem]) rfl ⟨by simp [way], ?_⟩
    repeat (first | with_reducible exact Below.refl _ _ | with_reducible apply below_al)
  go_enter Try.func13, Try.ntmps13
  go_wp2_with fail
  refine bodyPost_ret (v := .int .u8 0) (by simp [results, Try.results13, go_sem]) rfl ⟨by simp [way, *], ?_⟩
  repeat (first | with_reducible exact Below.refl _ _ | with_reducible apply below_al)
end Go.Proofs.Ytjikhdjkpagjmaa.Ac
