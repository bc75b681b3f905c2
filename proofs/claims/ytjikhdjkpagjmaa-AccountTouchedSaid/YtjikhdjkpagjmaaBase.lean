/- Small laws on worlds for the walks of this family: draws stand outermost; what lies below a block stays. -/
import Derived.WalkKit
import Derived.KernelRfl
import Derived.Deep.Draws
import Derived.Deep.RegionHeld3
import Derived.Deep.QuietTactic
import Derived.BigQuiet
import Derived.WalkSpells
import Derived.WalkLawsBesides
import Derived.Lib.Hide
import Derived.ScopeJumps
import Derived.StillTailTactics
import Derived.Laws.IdiomCopy
import Derived.Deep.RegionLaw
import Derived.Test.YtjikhdjkpagjmaaProg
namespace Go.Proofs.Ytjikhdjkpagjmaa
open Go.RowKit

@[go_sem] theorem setCell_drewN (w : World) (n : Nat) (a : Addr) (v : Value) : (w.drewN n).setCell a v = (w.setCell a v).drewN n := rfl
@[go_sem] theorem alloc_drewN (w : World) (n : Nat) (o : Obj) : (w.drewN n).alloc o = (w.alloc o).drewN n := rfl

/-- A fact that the walk's simp shall not look into. -/
structure Aside (p : Prop) : Prop where mk :: (out : p)

theorem bcell {W w1 : World} (hb : Below W.heap.size W w1) : (∀ b o, b < W.heap.size → w1.cell? ⟨b, o, none⟩ = W.cell? ⟨b, o, none⟩) ∧ (∀ b o, b < W.heap.size → w1.frozen? ⟨b, o, none⟩ = W.frozen? ⟨b, o, none⟩) :=
  ⟨fun b o h => hb.cell (p := ⟨b, o, none⟩) h, fun b o h => hb.frozen (p := ⟨b, o, none⟩) h⟩

theorem bdrewN {B : Nat} {w W : World} (h : Below B w W) (n : Nat) : Below B w (W.drewN n) := ⟨h.os, h.tape, h.output, h.size, h.block⟩

theorem below_al {w W : World} {o : Obj} (h : Below w.heap.size w W) : Below w.heap.size w (W.alloc o) := h.alloc h.size o

theorem below_set {w W : World} {p : Addr} {v : Value} (hp : w.heap.size ≤ p.block) (h : Below w.heap.size w W) : Below w.heap.size w (W.setCell p v) := h.setCell hp v
theorem below_then {w W W1 : World} (h : Below w.heap.size w W) (k : Below W.heap.size W W1) : Below w.heap.size w W1 := h.trans (k.mono h.size)
theorem below_drew1 {w W : World} (h : Below w.heap.size w W) : Below w.heap.size w W.drew := ⟨h.os, h.tape, h.output, h.size, h.block⟩

/-- A region whose operations ahead of its tail only read: the world behind its draw under one name. -/
theorem wp_region_still_tail_drew {P : Program} {id : Nat} {Q : Exit → Act → World → Prop} {a : Act} {w : World} {l : List Oper} (n : Nat) (hm : P.follows .mixedOrders = true) (hB : Region.lexTailB .any l.toArray n = true)
    (h : wpStill P l.toArray w.drew (fun a' => wpList P l.toArray Q (l.drop n) a' w.drew) (l.take n) a) : (Code.region id l.toArray true).wp P Q a w := wp_region_still_tail n hm hB h

/-! ### copy, cell by cell -/
@[go_sem] theorem setCells_nil (w : World) (b o : Nat) : w.setCells b o [] = w := rfl
@[go_sem] theorem setCells_cons (w : World) (b o : Nat) (v : Value) (r : List Value) : w.setCells b o (v :: r) = (w.setCell ⟨b, o, none⟩ v).setCells b (o + 1) r := rfl
theorem step_copy_cells {P : Program} {ops : Array Oper} {o : Oper} {a : Act} {w : World} {K : Act → World → Prop} {Q : Exit → Act → World → Prop} {E : Prop} (hgd : o.guard = none) (d s : Operand) (dT sT : TypeId)
    (ho : o.op = .call { callee := .builtin .copy, args := #[d, s], argTypes := #[dT, sT] }) (elem : TypeId) (hu : P.underlying dT = some (.slice elem)) (hsz : (P.info? elem).map (·.size) = some 1)
    (b off dLen dCap sb soff sLen sCap : Nat) (hd : a.eval d = .slice (some ⟨b, off, none⟩) dLen dCap) (hs : a.eval s = .slice (some ⟨sb, soff, none⟩) sLen sCap)
    (cs : List Value) (hn : cs.length = Nat.min sLen dLen)
    (hsrc : ∀ j (hj : j < cs.length), w.cell? ⟨sb, soff + j, none⟩ = some cs[j]) (hc : ∀ j, j < cs.length → (w.cell? ⟨b, off + j, none⟩).isSome = true) (hf : ∀ j, j < cs.length → w.frozen? ⟨b, off + j, none⟩ = false) (h1 : ∀ v ∈ cs, v.oneCell' = true)
    (h : K (a.put o.dst (goInt cs.length)) (w.setCells b off cs)) :
    if Region.wanted o (yielded ops a.tmps) = true then Oper.wp P o a w K Q else E := by
  have hw : Region.wanted o (yielded ops a.tmps) = true := by simp [Region.wanted, hgd]
  rw [if_pos hw]
  have hrun := run_copy_cells (P := P) w dT sT o.type elem b off dLen dCap ⟨sb, soff, none⟩ sLen sCap cs hu hsz hn
    (fun j v hv => by
      obtain ⟨hj, e⟩ := List.getElem?_eq_some_iff.1 hv
      have h2 := hsrc j hj
      rw [e] at h2
      have : (⟨sb, soff, none⟩ : Addr).add j = ⟨sb, soff + j, none⟩ := by unfold Addr.add; split <;> simp_all
      rw [this]; exact h2) hc hf h1
  unfold Oper.wp
  simp [execOp, ho, resolve, invoke, builtin, hd, hs, hrun, Result.andThen]
  exact h

/-! ### A scope whose label is come back to at most n times -/
section
variable {P : Program} {Q : Exit → Act → World → Prop}
/-- The walk from the label on, if it is jumped to fewer than n times. -/
def ScopeR (P : Program) (rest : Code) (l : Nat) (Q : Exit → Act → World → Prop) : Nat → Act → World → Prop
  | 0, _, _ => False
  | n + 1, a, w => rest.wp P (Exit.jump l (ScopeR P rest l Q n) Q) a w
theorem least_of {p : Nat → Prop} (h : ∃ m, p m) : ∃ m, p m ∧ ∀ k, p k → m ≤ k := by
  obtain ⟨m, hm⟩ := h
  induction m using Nat.strongRecOn with
  | _ m ih =>
    by_cases hk : ∃ k, k < m ∧ p k
    · obtain ⟨k, hlt, hp⟩ := hk
      exact ih k hlt hp
    · exact ⟨m, hm, fun k hp => Nat.le_of_not_lt fun hlt => hk ⟨k, hlt, hp⟩⟩
open Classical in
noncomputable def leastN (p : Nat → Prop) : Nat := if h : ∃ m, p m then Classical.choose (least_of h) else 0
theorem leastN_of {p : Nat → Prop} {m : Nat} (h : p m) : p (leastN p) ∧ leastN p ≤ m := by
  have hex : ∃ m, p m := ⟨m, h⟩
  unfold leastN
  rw [dif_pos hex]
  have hs := Classical.choose_spec (least_of hex)
  exact ⟨hs.1, hs.2 m h⟩
theorem wp_scope_rounds {c rest : Code} {a : Act} {w : World} (l n : Nat) (hf : findLabel c l = some rest)
    (first : c.wp P (Exit.jump l (ScopeR P rest l Q n) Q) a w) : (Code.scope c).wp P Q a w := by
  refine wp_scope_jumps l (fun a w => ∃ m, ScopeR P rest l Q m a w) (fun a w => leastN fun m => ScopeR P rest l Q m a w) hf ?_ ?_
  · refine Code.wp_mono ?_ first
    intro e a w h
    cases e <;> first | exact h | exact ⟨h.1, _, h.2⟩
  · rintro a w ⟨m, hm⟩
    obtain ⟨h1, h2⟩ := leastN_of (p := fun m => ScopeR P rest l Q m a w) hm
    generalize hk : leastN (fun m => ScopeR P rest l Q m a w) = k at h1 h2 ⊢
    cases k with
    | zero => exact (h1 : False).elim
    | succ k =>
      refine Code.wp_mono ?_ h1
      intro e a' w' h
      cases e <;> first | exact h | (refine ⟨h.1, ⟨_, h.2⟩, ?_⟩; have := (leastN_of (p := fun m => ScopeR P rest l Q m a' w') h.2).2; omega)
end

end Go.Proofs.Ytjikhdjkpagjmaa
