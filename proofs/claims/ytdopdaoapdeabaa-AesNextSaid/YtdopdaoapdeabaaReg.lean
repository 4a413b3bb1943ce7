/- LAWS: a region that draws its order, step by step: what only reads is taken first; a call, or another operation, stands alone. No program in sight. -/
import Derived.Test.YtdopdaoapdeabaaMem
namespace Go.Proofs.Ytdopdaoapdeabaa
open Go.RowKit

section
variable {P : Program} {ops : Array Oper} {Q : Exit → Act → World → Prop} {md : Region.Mode} {S : World → Prop} {fuel : Nat} {listed : Array Bool} {a : Act} {w : World}

theorem take_at {oi : Oper} {v : Value} (i : Nat) (d : Option Tmp) (hi : ops[i]? = some oi) (hd : oi.dst = d)
    (hs : Region.noSelect ops = true) (hf : Region.free md ops listed i = true) (hr : (Region.ready md ops listed).contains i = true)
    (hQ : ∀ c a w, Q (.panic c) (a.put d v) w → Q (.panic c) a w) (hy : YieldsIf P ops S oi v a) (hS : S w)
    (h : wpAnyH P md ops Q S fuel (listed.setIfInBounds i true) (a.put d v) w) : wpAnyH P md ops Q S (fuel + 1) listed a w := by
  subst hd
  exact wpAnyH_take hi hs hf hr hQ hy hS h

/-- what only reads, by its run -/
theorem take_run {oi : Oper} {v : Value} (i : Nat) (d : Option Tmp) (hi : ops[i]? = some oi) (hd : oi.dst = d)
    (hs : Region.noSelect ops = true) (hf : Region.free md ops listed i = true) (hr : (Region.ready md ops listed).contains i = true)
    (hQ : ∀ c a w, Q (.panic c) (a.put d v) w → Q (.panic c) a w) (hS : S w) (hw : Region.wanted oi (yielded ops a.tmps) = true)
    (hy : ∀ w, S w → (execOp a.eval oi).run P w = .ok (.value v) w)
    (h : wpAnyH P md ops Q S fuel (listed.setIfInBounds i true) (a.put d v) w) : wpAnyH P md ops Q S (fuel + 1) listed a w :=
  take_at i d hi hd hs hf hr hQ (.inl ⟨hw, hy⟩) hS h

/-- what is passed over -/
theorem take_skip {oi : Oper} (i : Nat) (d : Option Tmp) (hi : ops[i]? = some oi) (hd : oi.dst = d)
    (hs : Region.noSelect ops = true) (hf : Region.free md ops listed i = true) (hr : (Region.ready md ops listed).contains i = true)
    (hQ : ∀ c a w, Q (.panic c) (a.put d undef) w → Q (.panic c) a w) (hS : S w) (hw : Region.wanted oi (yielded ops a.tmps) = false)
    (h : wpAnyH P md ops Q S fuel (listed.setIfInBounds i true) (a.put d undef) w) : wpAnyH P md ops Q S (fuel + 1) listed a w :=
  take_at i d hi hd hs hf hr hQ (.inr ⟨hw, rfl⟩) hS h

/-- a call that stands alone -/
theorem call_at {oi : Oper} {f : FuncId} {args : Array Value} (i : Nat) (d : Option Tmp) (hi : ops[i]? = some oi) (hd : oi.dst = d)
    (hr : Region.ready md ops listed = [i]) (hw : Region.wanted oi (yielded ops a.tmps) = true)
    (hx : (execOp a.eval oi).run P w = .ok (.enter f args) w)
    (h : Calls P f args w fun e w'' => ∃ v, e = .returned v ∧ S w'' ∧ (S w'' → wpAnyH P md ops Q S fuel (listed.setIfInBounds i true) (a.put d v) w'')) :
    wpAnyH P md ops Q S (fuel + 1) listed a w := by
  subst hd
  refine wpAnyH_all hr (by simp) fun j hj => ?_
  have hj' : j = i := by simpa using hj
  subst hj'
  refine wpOp_step hi fun K' hK => ?_
  rw [if_pos hw]
  unfold Oper.wp
  rw [hx]
  refine h.mono ?_
  rintro e w'' ⟨v, rfl, h1, h2⟩
  exact hK _ _ ⟨h1, h2 h1⟩

/-- another operation that stands alone -/
theorem op_at {oi : Oper} (i : Nat) (d : Option Tmp) (hi : ops[i]? = some oi) (hd : oi.dst = d)
    (hr : Region.ready md ops listed = [i]) (hw : Region.wanted oi (yielded ops a.tmps) = true)
    (h : ∀ K' : Act → World → Prop, (∀ v w'', S w'' ∧ (S w'' → wpAnyH P md ops Q S fuel (listed.setIfInBounds i true) (a.put d v) w'') → K' (a.put oi.dst v) w'') → oi.wp P a w K' Q) :
    wpAnyH P md ops Q S (fuel + 1) listed a w := by
  subst hd
  refine wpAnyH_all hr (by simp) fun j hj => ?_
  have hj' : j = i := by simpa using hj
  subst hj'
  refine wpOp_step hi fun K' hK => ?_
  rw [if_pos hw]
  exact h K' fun v w'' hh => hK _ _ ⟨hh.1, hh.2 hh.1⟩
end
end Go.Proofs.Ytdopdaoapdeabaa
