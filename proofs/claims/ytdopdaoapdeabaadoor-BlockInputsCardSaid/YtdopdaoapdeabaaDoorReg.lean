/- LAWS: a region that draws its order, step by step: what only reads is taken first; a call, or another operation, stands alone. No program in sight. -/
import Derived.Test.YtdopdaoapdeabaaDoorMem
import Derived.Deep.WholeRow
namespace Go.Proofs.YtdopdaoapdeabaaDoor
open Go.RowKit

section
variable {P : Program} {ops : Array Oper} {Q : Exit → Act → World → Prop} {md : Region.Mode} {S : World → Prop} {fuel : Nat} {listed : Array Bool} {a : Act} {w : World}

theorem take_at' {oi : Oper} {v : Value} (i : Nat) (d : Option Tmp) (hi : ops[i]? = some oi) (hd : oi.dst = d)
    (hs : Region.noSelect ops = true) (hf : Region.free md ops listed i = true) (hr : (Region.ready md ops listed).contains i = true)
    (hQ : ∀ c a w, Q (.panic c) (a.put d v) w → Q (.panic c) a w) (hy : YieldsIf P ops S oi v a) (hS : S w)
    (h : wpAnyH P md ops Q S fuel (listed.setIfInBounds i true) (a.put d v) w) : wpAnyH P md ops Q S (fuel + 1) listed a w := by
  subst hd
  exact wpAnyH_take hi hs hf hr hQ hy hS h

/-- what only reads, by its run -/
theorem take_run' {oi : Oper} {v : Value} (i : Nat) (d : Option Tmp) (hi : ops[i]? = some oi) (hd : oi.dst = d)
    (hs : Region.noSelect ops = true) (hf : Region.free md ops listed i = true) (hr : (Region.ready md ops listed).contains i = true)
    (hQ : ∀ c a w, Q (.panic c) (a.put d v) w → Q (.panic c) a w) (hS : S w) (hw : Region.wanted oi (yielded ops a.tmps) = true)
    (hy : ∀ w, S w → (execOp a.eval oi).run P w = .ok (.value v) w)
    (h : wpAnyH P md ops Q S fuel (listed.setIfInBounds i true) (a.put d v) w) : wpAnyH P md ops Q S (fuel + 1) listed a w :=
  take_at' i d hi hd hs hf hr hQ (.inl ⟨hw, hy⟩) hS h

/-- what is passed over -/
theorem take_skip' {oi : Oper} (i : Nat) (d : Option Tmp) (hi : ops[i]? = some oi) (hd : oi.dst = d)
    (hs : Region.noSelect ops = true) (hf : Region.free md ops listed i = true) (hr : (Region.ready md ops listed).contains i = true)
    (hQ : ∀ c a w, Q (.panic c) (a.put d undef) w → Q (.panic c) a w) (hS : S w) (hw : Region.wanted oi (yielded ops a.tmps) = false)
    (h : wpAnyH P md ops Q S fuel (listed.setIfInBounds i true) (a.put d undef) w) : wpAnyH P md ops Q S (fuel + 1) listed a w :=
  take_at' i d hi hd hs hf hr hQ (.inr ⟨hw, rfl⟩) hS h

/-- a call that stands alone -/
theorem call_at' {oi : Oper} {f : FuncId} {args : Array Value} (i : Nat) (d : Option Tmp) (hi : ops[i]? = some oi) (hd : oi.dst = d)
    (hr : Region.ready md ops listed = [i]) (hw : Region.wanted oi (yielded ops a.tmps) = true)
    (hx : (execOp a.eval oi).run P w = .ok (.enter f args) w)
    (h : Calls P f args w fun e w'' => ∃ v, e = .returned v ∧ S w'' ∧ (S w'' → wpAnyH P md ops Q S fuel (listed.setIfInBounds i true) (a.put d v) w'')) :
    wpAnyH P md ops Q S (fuel + 1) listed a w := by
  subst hd
  refine wpAnyH_all hr (by simp) fun j hj => ?_
  have hj' : j = i := by simpa using hj
  subst hj'
  refine wpOp_step hi fun K' hK => ?_
  rw [if_pos hw]
  unfold Oper.wp
  rw [hx]
  refine h.mono ?_
  rintro e w'' ⟨v, rfl, h1, h2⟩
  exact hK _ _ ⟨h1, h2 h1⟩

/-- two that may come up: either first -/
theorem branch2' {oi oj : Oper} (i j : Nat) (di dj : Option Tmp) (hi : ops[i]? = some oi) (hj : ops[j]? = some oj) (hdi : oi.dst = di) (hdj : oj.dst = dj)
    (hr : Region.ready md ops listed = [i, j]) (hwi : Region.wanted oi (yielded ops a.tmps) = true) (hwj : Region.wanted oj (yielded ops a.tmps) = true)
    (h1 : ∀ K' : Act → World → Prop, (∀ v w'', S w'' ∧ (S w'' → wpAnyH P md ops Q S fuel (listed.setIfInBounds i true) (a.put di v) w'') → K' (a.put oi.dst v) w'') → oi.wp P a w K' Q)
    (h2 : ∀ K' : Act → World → Prop, (∀ v w'', S w'' ∧ (S w'' → wpAnyH P md ops Q S fuel (listed.setIfInBounds j true) (a.put dj v) w'') → K' (a.put oj.dst v) w'') → oj.wp P a w K' Q) :
    wpAnyH P md ops Q S (fuel + 1) listed a w := by
  subst hdi hdj
  refine wpAnyH_all hr (by simp) fun k hk => ?_
  rcases List.mem_cons.1 hk with rfl | hk
  · refine wpOp_step hi fun K' hK => ?_
    rw [if_pos hwi]
    exact h1 K' fun v w'' hh => hK _ _ ⟨hh.1, hh.2 hh.1⟩
  · have hk' : k = j := by simpa using hk
    subst hk'
    refine wpOp_step hj fun K' hK => ?_
    rw [if_pos hwj]
    exact h2 K' fun v w'' hh => hK _ _ ⟨hh.1, hh.2 hh.1⟩

/-- another operation that stands alone -/
theorem op_at' {oi : Oper} (i : Nat) (d : Option Tmp) (hi : ops[i]? = some oi) (hd : oi.dst = d)
    (hr : Region.ready md ops listed = [i]) (hw : Region.wanted oi (yielded ops a.tmps) = true)
    (h : ∀ K' : Act → World → Prop, (∀ v w'', S w'' ∧ (S w'' → wpAnyH P md ops Q S fuel (listed.setIfInBounds i true) (a.put d v) w'') → K' (a.put oi.dst v) w'') → oi.wp P a w K' Q) :
    wpAnyH P md ops Q S (fuel + 1) listed a w := by
  subst hd
  refine wpAnyH_all hr (by simp) fun j hj => ?_
  have hj' : j = i := by simpa using hj
  subst hj'
  refine wpOp_step hi fun K' hK => ?_
  rw [if_pos hw]
  exact h K' fun v w'' hh => hK _ _ ⟨hh.1, hh.2 hh.1⟩
end

section
variable {P : Program} {l : List Oper} {Q : Exit → Act → World → Prop} {md : Region.Mode} {S : World → Prop} {fuel : Nat} {listed : Array Bool} {a : Act} {w : World}

theorem arr_of_list {i : Nat} {oi : Oper} (hi : l[i]? = some oi) : l.toArray[i]? = some oi := by simpa using hi
theorem take_at {oi : Oper} {v : Value} (i : Nat) (d : Option Tmp) (hi : l[i]? = some oi) (hd : oi.dst = d)
    (hs : Region.noSelect l.toArray = true) (hf : Region.free md l.toArray listed i = true) (hr : (Region.ready md l.toArray listed).contains i = true)
    (hQ : ∀ c a w, Q (.panic c) (a.put d v) w → Q (.panic c) a w) (hy : YieldsIf P l.toArray S oi v a) (hS : S w)
    (h : wpAnyH P md l.toArray Q S fuel (listed.setIfInBounds i true) (a.put d v) w) : wpAnyH P md l.toArray Q S (fuel + 1) listed a w :=
  take_at' i d (arr_of_list hi) hd hs hf hr hQ hy hS h
theorem take_run {oi : Oper} {v : Value} (i : Nat) (d : Option Tmp) (hi : l[i]? = some oi) (hd : oi.dst = d)
    (hs : Region.noSelect l.toArray = true) (hf : Region.free md l.toArray listed i = true) (hr : (Region.ready md l.toArray listed).contains i = true)
    (hQ : ∀ c a w, Q (.panic c) (a.put d v) w → Q (.panic c) a w) (hS : S w) (hw : Region.wanted oi (yielded l.toArray a.tmps) = true)
    (hy : ∀ w, S w → (execOp a.eval oi).run P w = .ok (.value v) w)
    (h : wpAnyH P md l.toArray Q S fuel (listed.setIfInBounds i true) (a.put d v) w) : wpAnyH P md l.toArray Q S (fuel + 1) listed a w :=
  take_run' i d (arr_of_list hi) hd hs hf hr hQ hS hw hy h
theorem take_skip {oi : Oper} (i : Nat) (d : Option Tmp) (hi : l[i]? = some oi) (hd : oi.dst = d)
    (hs : Region.noSelect l.toArray = true) (hf : Region.free md l.toArray listed i = true) (hr : (Region.ready md l.toArray listed).contains i = true)
    (hQ : ∀ c a w, Q (.panic c) (a.put d undef) w → Q (.panic c) a w) (hS : S w) (hw : Region.wanted oi (yielded l.toArray a.tmps) = false)
    (h : wpAnyH P md l.toArray Q S fuel (listed.setIfInBounds i true) (a.put d undef) w) : wpAnyH P md l.toArray Q S (fuel + 1) listed a w :=
  take_skip' i d (arr_of_list hi) hd hs hf hr hQ hS hw h
theorem call_at {oi : Oper} {f : FuncId} {args : Array Value} (i : Nat) (d : Option Tmp) (hi : l[i]? = some oi) (hd : oi.dst = d)
    (hr : Region.ready md l.toArray listed = [i]) (hw : Region.wanted oi (yielded l.toArray a.tmps) = true)
    (hx : (execOp a.eval oi).run P w = .ok (.enter f args) w)
    (h : Calls P f args w fun e w'' => ∃ v, e = .returned v ∧ S w'' ∧ (S w'' → wpAnyH P md l.toArray Q S fuel (listed.setIfInBounds i true) (a.put d v) w'')) :
    wpAnyH P md l.toArray Q S (fuel + 1) listed a w := call_at' i d (arr_of_list hi) hd hr hw hx h
theorem op_at {oi : Oper} (i : Nat) (d : Option Tmp) (hi : l[i]? = some oi) (hd : oi.dst = d)
    (hr : Region.ready md l.toArray listed = [i]) (hw : Region.wanted oi (yielded l.toArray a.tmps) = true)
    (h : ∀ K' : Act → World → Prop, (∀ v w'', S w'' ∧ (S w'' → wpAnyH P md l.toArray Q S fuel (listed.setIfInBounds i true) (a.put d v) w'') → K' (a.put oi.dst v) w'') → oi.wp P a w K' Q) :
    wpAnyH P md l.toArray Q S (fuel + 1) listed a w := op_at' i d (arr_of_list hi) hd hr hw h
theorem branch2 {oi oj : Oper} (i j : Nat) (di dj : Option Tmp) (hi : l[i]? = some oi) (hj : l[j]? = some oj) (hdi : oi.dst = di) (hdj : oj.dst = dj)
    (hr : Region.ready md l.toArray listed = [i, j]) (hwi : Region.wanted oi (yielded l.toArray a.tmps) = true) (hwj : Region.wanted oj (yielded l.toArray a.tmps) = true)
    (h1 : ∀ K' : Act → World → Prop, (∀ v w'', S w'' ∧ (S w'' → wpAnyH P md l.toArray Q S fuel (listed.setIfInBounds i true) (a.put di v) w'') → K' (a.put oi.dst v) w'') → oi.wp P a w K' Q)
    (h2 : ∀ K' : Act → World → Prop, (∀ v w'', S w'' ∧ (S w'' → wpAnyH P md l.toArray Q S fuel (listed.setIfInBounds j true) (a.put dj v) w'') → K' (a.put oj.dst v) w'') → oj.wp P a w K' Q) :
    wpAnyH P md l.toArray Q S (fuel + 1) listed a w := branch2' i j di dj (arr_of_list hi) (arr_of_list hj) hdi hdj hr hwi hwj h1 h2
end

/-- a whole array into the block that was made last -/
theorem wpList_store_new {P : Program} {w : World} {ops : Array Oper} {rest : List Oper} {o : Oper} {a : Act} {Q : Exit → Act → World → Prop} (hgd : o.guard = none) (ty : TypeId) (x y : Operand) (ho : o.op = .store ty x y)
    (old cells : Array Value) (t : TypeId) (hx : a.eval x = .pointer (some ⟨w.heap.size, 0, none⟩)) (hy : a.eval y = .agg cells) (hi : (P.info? ty).map (·.size) = some cells.size)
    (hold : old.size = cells.size) (h1 : cells.all (·.oneCell') = true)
    (h : wpList P ops Q rest (a.put o.dst undef) (w.alloc (.cells cells t))) : wpList P ops Q (o :: rest) a (w.alloc (.cells old t)) := by
  refine wpList_store_row hgd ty x y ho w.heap.size cells hx hy t old (heap_alloc_last w _) hi hold h1 ?_
  rw [World.setRow_alloc_new]
  exact h
end Go.Proofs.YtdopdaoapdeabaaDoor
