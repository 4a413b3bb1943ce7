/- LAWS: slices literal, cells that are read, what is handed over. No program in sight. -/
import Derived.Test.YtdopdaoapdeabaaDoorStreamP
import Derived.Test.YtdopdaoapdeabaaDoorRefP
import Derived.Test.YtdopdaoapdeabaaDoorRefW
import Derived.Great.BuildSlice
namespace Go.Proofs.YtdopdaoapdeabaaDoor
open Go.RowKit

/-- a slice literal of values of one cell each -/
theorem wp_buildVals {P : Program} {o : Oper} {a : Act} {w : World} {K : Act → World → Prop} {Q : Exit → Act → World → Prop} (t e : TypeId) (len : Nat) (parts : Array (Nat × Operand)) (ho : o.op = .buildSlice t len parts)
    (vs : List Value) (hu : P.underlying t = some (.slice e)) (hsz : (P.info? e).map (·.size) = some 1) (hz : ((P.info? e).bind (·.zero)).isSome = true)
    (hlen : vs.length = len) (hpos : 0 < len) (hsmall : len ≤ 2 ^ 24) (hparts : (parts.toList.map fun (i, x) => (i, a.eval x)) = (vs.zipIdx 0).map fun x => (x.2, x.1)) (hv : ∀ v ∈ vs, v.cells = #[v])
    (h : K (a.put o.dst (.slice (some ⟨w.heap.size, 0, none⟩) len len)) (w.alloc (.cells vs.toArray e))) : o.wp P a w K Q := by
  cases hie : P.info? e with
  | none => simp [hie] at hsz
  | some ie =>
    simp only [hie, Option.map_some, Option.some.injEq, Option.bind_some] at hsz hz
    obtain ⟨z, hzz⟩ := Option.isSome_iff_exists.1 hz
    refine wp_buildSlice t e len parts ho _ ie z hu hie hzz (by rw [hsz]; omega) (by rw [hsz]; omega) ?_ h
    rw [Array.toList_map, hparts, hsz]
    exact Great.fill_flat _ _ hv (by simp [hlen])
theorem _root_.Go.RowKit.Below.size_of {B : Nat} {w w' : World} (h : Below B w w') (hB : B ≤ w.heap.size) : B ≤ w'.heap.size := Nat.le_trans hB h.size
theorem wrap_small {x : Int} (h : -1000000 ≤ x) (h' : x ≤ 1000000) : IntKind.i64.wrap x = x := by
  rw [IntKind.wrap_i64]
  omega
theorem ks_cells (k : IntKind) (l : List Nat) : ∀ v ∈ ks k l, v.cells = #[v] := by
  intro v hv
  simp only [ks, List.mem_map] at hv
  obtain ⟨n, _, rfl⟩ := hv
  rfl
/-- a cell of a slice that is read -/
theorem Reads.get {w : World} {v : Value} {k : IntKind} {l : List Nat} (h : Reads w v (ks k l)) {i : Nat} (hi : i < l.length) :
    ∃ b off cap, v = .slice (some ⟨b, off, none⟩) l.length cap ∧ l.length ≤ cap ∧ b < w.heap.size ∧ w.cell? ⟨b, off + i, none⟩ = some (.int k (l.getD i 0 : Nat)) := by
  obtain ⟨b, off, cap, hv, hc, hb, hx⟩ := h.pos (by rw [ks_length]; omega)
  rw [ks_length] at hv hc
  exact ⟨b, off, cap, hv, hc, hb, hx i _ (ks_get hi)⟩
theorem take_snoc_ks' {k : IntKind} {l : List Nat} {a n : Nat} (ha : a < l.length) (hn : l.getD a 0 = n) : ks k (l.take a) ++ [.int k (n : Int)] = ks k (l.take (a + 1)) := by
  rw [← hn]; exact take_snoc_ks ha
/-- append to a row of the call's own: what the row held is still read where it lay -/
theorem wp_append_own_keep {P : Program} {w : World} {o : Oper} {a : Act} {K : Act → World → Prop} {Q : Exit → Act → World → Prop} (s x : Operand) (t : TypeId)
    (ho : o.op = .call { callee := .builtin .append, args := #[s, x], argTypes := #[t, t] })
    (base : Nat) (e : TypeId) (i : TypeInfo) (z : Value) (size bytes : Nat) (ht : P.underlying t = some (.slice e)) (hi : P.info? e = some i) (hz : i.zero = some z)
    (hsize : i.size = size) (hby : i.bytes = bytes) (hzs : z.cells.size = size) (hsz : 0 < size)
    (g n cap : Nat) (xs : List Value) (hs : a.eval s = .slice (some ⟨g, 0, none⟩) n cap) (hown : w.ownsRow base e size (.slice (some ⟨g, 0, none⟩) n cap) n xs)
    (ad : Addr) (m c : Nat) (news : List Value) (hx : a.eval x = .slice (some ad) m c) (hl : news.length = m * size) (hnews : ∀ j u, news[j]? = some u → w.cell? (ad.add j) = some u) (h1 : ∀ u ∈ news, u.oneCell' = true)
    (h63 : n + m ≤ maxLen) (hbytes : (n + m) * bytes ≤ 140737488355328) (hbase : base ≤ w.heap.size)
    (h : ∀ v' w', w'.ownsRow base e size v' (n + m) (xs ++ news) → w.grownBy w' (some g) → (∀ j u, xs[j]? = some u → w'.cell? ⟨g, j, none⟩ = some u) → K (a.put o.dst v') w') : o.wp P a w K Q := by
  have hcells := hown.cells (g := g) rfl
  have hglt := (hown.lt g rfl).2
  obtain ⟨v', w', hr, h2, h3, _⟩ := run_append_own (P := P) w base t o.type e i z size bytes ht hi hz hsize hby hzs hsz _ n xs hown ad m c news hl hnews h1 h63 hbytes hbase
  have hkeep : ∀ j u, xs[j]? = some u → w'.cell? ⟨g, j, none⟩ = some u := by
    intro j u hj
    by_cases hroom : n + m ≤ cap
    · rcases hown.2 with ⟨h0, _⟩ | ⟨g', cap', cur, hv, _, hg, _, _, hcs, _⟩
      · cases h0
      · injection hv with e1 e2 e3
        injection e1 with e1
        injection e1 with e1
        subst e1 e3
        subst hsize
        have hr' := run_append_room (P := P) w t o.type e i ht hi g n cap cur hg ad m c news hl hnews h1 hroom (by rw [hl, hcs, ← Nat.add_mul]; exact Nat.mul_le_mul_right _ hroom)
        rw [hr] at hr'
        injection hr' with hv' hw'
        subst hv'
        have := h2.cells (g := g) rfl j u (by rw [List.getElem?_append_left (List.getElem?_eq_some_iff.1 hj).1]; exact hj)
        rwa [Addr.add_mid, Nat.zero_add] at this
    · subst hsize
      subst hby
      have hr' := run_append_grow (P := P) w t o.type e i z ht hi hz ⟨g, 0, none⟩ n cap xs hown.1 hcells ad m c news hl hnews (by omega) (by simp only [maxLen] at h63; omega) (growslice_fits (by omega) hbytes)
      rw [hr] at hr'
      injection hr' with hv' hw'
      subst hw'
      have hb : Below w.heap.size w (w.drew.alloc (.cells (xs.toArray ++ news.toArray ++ Builtin.zeroCells z.cells (grownCap w (n + m) cap e - (n + m))) e)) := (Below.refl _ _).drew.alloc (Nat.le_refl _) _
      rw [hb.cell (p := ⟨g, j, none⟩) hglt]
      have := hcells j u hj
      rwa [Addr.add_mid, Nat.zero_add] at this
  unfold Oper.wp execOp
  simp only [ho, resolve, invoke, builtin, Sem.run_bind, Sem.run_pure, Result.andThen_ok, List.map_toArray, List.map_cons, List.map_nil, hs, hx, hr]
  exact h v' w' h2 h3 hkeep
theorem loadVar_slice {P : Program} {ty e : TypeId} {ad : Addr} {v : Value} {w : World} (hu : P.underlying ty = some (.slice e)) (h : w.cell? ad = some v) : (loadVar ty ad).run P w = .ok v w := by
  have hagg : ∀ w, (isAgg ty).run P w = .ok false w := fun w => by
    unfold isAgg
    rw [Sem.run_bind, run_underlying hu w]
    rfl
  simp [loadVar, Sem.run_bind, hagg, run_load, h]
/-- one cell, read; one cell, written -/
theorem wp_load_one {P : Program} {op : Oper} {a : Act} {w : World} {K : Act → World → Prop} {Q : Exit → Act → World → Prop} (ty : TypeId) (x : Operand) (ho : op.op = .load ty x)
    (ad : Addr) (v : Value) (hx : a.eval x = .pointer (some ad)) (hl : (loadVar ty ad).run P w = .ok v w) (h : K (a.put op.dst v) w) : op.wp P a w K Q := by
  unfold Oper.wp execOp
  simp only [ho, hx, Instr.loadAt, Instr.sureAddr, Sem.run_bind, Sem.run_pure, Result.andThen_ok, hl]
  exact h
theorem wp_store_one {P : Program} {op : Oper} {a : Act} {w : World} {K : Act → World → Prop} {Q : Exit → Act → World → Prop} (ty : TypeId) (x y : Operand) (ho : op.op = .store ty x y)
    (ad : Addr) (v : Value) (hx : a.eval x = .pointer (some ad)) (hy : a.eval y = v) (hl : (storeVar ty ad v).run P w = .ok () (w.setCell ad v)) (h : K (a.put op.dst undef) (w.setCell ad v)) : op.wp P a w K Q := by
  unfold Oper.wp execOp
  simp only [ho, hx, hy, Instr.storeAt, Instr.sureAddr, Sem.run_bind, Sem.run_pure, Result.andThen_ok, hl]
  exact h
theorem wp_run {P : Program} {op : Oper} {a : Act} {w w' : World} {K : Act → World → Prop} {Q : Exit → Act → World → Prop} {v : Value} (hr : (execOp a.eval op).run P w = .ok (.value v) w') (h : K (a.put op.dst v) w') : op.wp P a w K Q := by
  unfold Oper.wp
  rw [hr]
  exact h
/-- a whole array into the block that was made last -/
theorem wp_store_new {P : Program} {op : Oper} {a : Act} {w : World} {K : Act → World → Prop} {Q : Exit → Act → World → Prop} (ty : TypeId) (x y : Operand) (ho : op.op = .store ty x y)
    (old cells : Array Value) (t : TypeId) (hx : a.eval x = .pointer (some ⟨w.heap.size, 0, none⟩)) (hy : a.eval y = .agg cells) (hi : (P.info? ty).map (·.size) = some cells.size)
    (hold : old.size = cells.size) (h1 : cells.all (·.oneCell') = true)
    (h : K (a.put op.dst undef) (w.alloc (.cells cells t))) : op.wp P a (w.alloc (.cells old t)) K Q := by
  refine wp_store_row ty x y ho w.heap.size cells hx hy t old (heap_alloc_last w _) hi hold h1 ?_
  rw [World.setRow_alloc_new]
  exact h
/-- an own row does not lie in a block of another type -/
theorem own_ne_type {w : World} {B M n : Nat} {e t : TypeId} {v : Value} {xs : List Value} {cs : Array Value} (h : w.ownsRow B e 1 v n xs) (hb : w.heap[M]? = some (.cells cs t (0, 0))) (hne : e ≠ t) : some M ≠ v.ownBlock := fun e0 => by
  rcases h.2 with ⟨h0, _⟩ | ⟨g, cap', cur, hv, _, hg, _⟩
  · subst h0; cases e0
  · subst hv
    injection e0 with e0
    subst e0
    rw [hg] at hb
    injection hb with hb
    injection hb with _ hb
    exact hne hb
theorem wp_call {P : Program} {op : Oper} {a : Act} {w : World} {K : Act → World → Prop} {Q : Exit → Act → World → Prop} {f : FuncId} {args : Array Value} (hx : (execOp a.eval op).run P w = .ok (.enter f args) w)
    (h : Calls P f args w fun e w'' => ∃ v, e = .returned v ∧ K (a.put op.dst v) w'') : op.wp P a w K Q := by
  unfold Oper.wp
  rw [hx]
  refine h.mono ?_
  rintro e w'' ⟨v, rfl, h1⟩
  exact h1
end Go.Proofs.YtdopdaoapdeabaaDoor
