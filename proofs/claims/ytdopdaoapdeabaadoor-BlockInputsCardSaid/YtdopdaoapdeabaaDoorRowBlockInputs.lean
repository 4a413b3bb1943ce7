/- THE ROW AND ITS TIED CARD: Rows.BlockInputsCardSaid: for every input sacristanlaw07.BlockInputs returns true and each argument reads afterwards as it read before; the row lists errors.errorType, which the card ties to the program's text. -/
import Derived.Test.YtdopdaoapdeabaaDoorCards
import Derived.Test.YtdopdaoapdeabaaDoorTie
import Derived.Test.YtdopdaoapdeabaaDoorLaid
import Derived.Test.YtdopdaoapdeabaaDoorInputW
import Derived.SevenTiedAt
namespace Go.Proofs.YtdopdaoapdeabaaDoor.blockInputs
open Go.ChangeShapes Go.WideShapes Go.ChangeAt Go.RowKit

set_option maxRecDepth 100000 in
theorem lifted (os : Os) (started : os.Started) (H : Type) (enc : TypeId × Value → H) :
    ReturnsInHanded {} Tryd.checked os 7 .any (fun w args => (Rows.blockInputsSpec.pre enc Tryd.prog Tryd.f7 [] false w args ∧ laidMetH Tryd.prog laidL w) ∧ sizedMet enc Tryd.prog Tryd.f7 (OpenSpec.ofChange Rows.blockInputsSpec) false w args)
      (Rows.blockInputsSpec.post enc Tryd.prog Tryd.f7 false true false false) := by
  refine returnsInHanded_of_change_and (C := Tryd.checked) (X := fun w _ => laidMetH Tryd.prog laidL w) (fun _ _ _ hh h => h.of_heap hh) R.own started (by kernel_rfl) Tryd.func7
    (ChangeSpec.witness_at (enc := enc) (C := Tryd.checked) (os := os) (X := fun w _ => laidMetH Tryd.prog laidL w) false (laidWorld os) #[.int .u64 0, .int .u32 0, .int .u64 0, .int .u32 0] 8 rfl (by kernel_rfl) (by kernel_rfl) (by kernel_rfl) (by kernel_rfl) (by kernel_rfl) (laidWorld_met os _)) ?_
  intro W base args ds gs before hval0 hW _ _ hL _
  have hg := ET_of_laid hL
  have hval : ∀ (j : Nat) t v, Tryd.f7.params[j]? = some t → args[j]? = some v → Value.okWide Tryd.prog W .any base t v := hval0
  have hW' := hW
  obtain ⟨p, q, hA0, hV, rfl, hfz, hnd⟩ := hW
  have hA : DataW.TrodAll enc Tryd.prog W 0 (fun _ => true) true Tryd.f7.params.toList args.toList ds p := hA0
  rw [Tryd.params7] at hA hval
  obtain ⟨v0, vs0, d0, ds0, p0, q0, hargs, rfl, rfl, h0, r0⟩ := trodAll_cons hA
  obtain ⟨v1, vs1, d1, ds1, p1, q1, rfl, rfl, rfl, h1, r1⟩ := trodAll_cons r0
  obtain ⟨v2, vs2, d2, ds2, p2, q2, rfl, rfl, rfl, h2, r2⟩ := trodAll_cons r1
  obtain ⟨v3, vs3, d3, ds3, p3, q3, rfl, rfl, rfl, h3, r3⟩ := trodAll_cons r2
  obtain ⟨rfl, rfl, rfl⟩ := trodAll_nil r3
  obtain rfl : args = #[v0, v1, v2, v3] := by cases args; simp_all
  obtain ⟨rfl, rfl⟩ := trodVars_none hV
  have k0 := h0
  have lt0 : ∀ x ∈ p0, x.block < W.heap.size := by obtain ⟨m, hm⟩ := k0; exact DataW.trod_lt m _ _ _ hm
  obtain ⟨z0, rfl, _, _, w0⟩ := open_int Tryd.underlying24 (hval 0 24 v0 rfl rfl) h0
  have b0 := bounds_u64 w0
  obtain ⟨a0, rfl⟩ := Int.eq_ofNat_of_zero_le b0.1
  have k1 := h1
  have lt1 : ∀ x ∈ p1, x.block < W.heap.size := by obtain ⟨m, hm⟩ := k1; exact DataW.trod_lt m _ _ _ hm
  obtain ⟨z1, rfl, _, _, w1⟩ := open_int Tryd.underlying25 (hval 1 25 v1 rfl rfl) h1
  have b1 := bounds_u32 w1
  obtain ⟨a1, rfl⟩ := Int.eq_ofNat_of_zero_le b1.1
  have k2 := h2
  have lt2 : ∀ x ∈ p2, x.block < W.heap.size := by obtain ⟨m, hm⟩ := k2; exact DataW.trod_lt m _ _ _ hm
  obtain ⟨z2, rfl, _, _, w2⟩ := open_int Tryd.underlying24 (hval 2 24 v2 rfl rfl) h2
  have b2 := bounds_u64 w2
  obtain ⟨a2, rfl⟩ := Int.eq_ofNat_of_zero_le b2.1
  have k3 := h3
  have lt3 : ∀ x ∈ p3, x.block < W.heap.size := by obtain ⟨m, hm⟩ := k3; exact DataW.trod_lt m _ _ _ hm
  obtain ⟨z3, rfl, _, _, w3⟩ := open_int Tryd.underlying25 (hval 3 25 v3 rfl rfl) h3
  have b3 := bounds_u32 w3
  obtain ⟨a3, rfl⟩ := Int.eq_ofNat_of_zero_le b3.1
  clear hA0 hval0
  refine (blockInputs_walk a0 a1 a2 a3 W (by omega) (by omega) (by omega) (by omega) hg).mono fun e W' ⟨he, bel⟩ => ?_
  subst he
  exact ⟨_, rfl, _, _, _, [], _, [], hW', trodAll_mk1 (shut_bool Tryd.underlying4 _), (trodAll_cons_mk (Below.trod R.laidOut (by kernel_rfl) (of_decide_eq_true (by kernel_rfl)) k0 bel lt0) (trodAll_cons_mk (Below.trod R.laidOut (by kernel_rfl) (of_decide_eq_true (by kernel_rfl)) k1 bel lt1) (trodAll_cons_mk (Below.trod R.laidOut (by kernel_rfl) (of_decide_eq_true (by kernel_rfl)) k2 bel lt2) (trodAll_cons_mk (Below.trod R.laidOut (by kernel_rfl) (of_decide_eq_true (by kernel_rfl)) k3 bel lt3) trodAll_mk0)))), rfl, bel.frame _, fun h => by cases h⟩

theorem over : Rows.blockInputsRow.holds Tryd.pinned (OpenSpec.ofChange Rows.blockInputsSpec) :=
  OpenClaim.holds_of_wide 7 Tryd.f7 rfl rfl rfl rfl rfl rfl rfl ⟨rfl, rfl, rfl, rfl, rfl⟩ rfl rfl rfl rfl rfl (by kernel_rfl) Tryd.func7 (by kernel_rfl)
    (of_decide_eq_true (by kernel_rfl)) (by unfold Func.isWrapper; first | (rw [if_pos (by decide +kernel)]; kernel_rfl) | (rw [if_neg (by decide +kernel)]; exact ⟨rfl, rfl⟩))
    (fun os started H enc _ => lifted os started H enc)

end Go.Proofs.YtdopdaoapdeabaaDoor.blockInputs
namespace Go.Proofs.YtdopdaoapdeabaaDoor
open Go
/-- the statement -/
theorem blockInputs_proved : Rows.BlockInputsCardSaid :=
  Claim7.holds_tied_plain_at .later [] [.handle] true (true, "4799b4d20a5f9e216dd4fc9d571f59efa43bf67445f941a37eac4b0d206eb91b") true
    blockInputs.over (fun _ h => by cases h) (by kernel_rfl) (fun _ h => by cases h) blockInputs_row_tie rfl ⟨rfl, rfl⟩ (by kernel_rfl) rfl
    (fun f fn hf hfn => by
      obtain rfl : f = 7 := Option.some.inj ((show Tryd.prog.funcNamed "sacristan/sacristanlaw07.BlockInputs" = some 7 by kernel_rfl).symm.trans hf) |>.symm
      obtain rfl : fn = Tryd.f7 := (Option.some.inj (Tryd.func7.symm.trans hfn)).symm
      refine ⟨by kernel_rfl, fun j t ht => ?_⟩
      rw [Tryd.params7] at ht
      obtain _ | j := j
      · have h : t = 24 := by simpa using ht.symm
        subst h
        exact (show Tryd.prog.wantsStandIn 24 = false by kernel_rfl)
      obtain _ | j := j
      · have h : t = 25 := by simpa using ht.symm
        subst h
        exact (show Tryd.prog.wantsStandIn 25 = false by kernel_rfl)
      obtain _ | j := j
      · have h : t = 24 := by simpa using ht.symm
        subst h
        exact (show Tryd.prog.wantsStandIn 24 = false by kernel_rfl)
      obtain _ | j := j
      · have h : t = 25 := by simpa using ht.symm
        subst h
        exact (show Tryd.prog.wantsStandIn 25 = false by kernel_rfl)
      simp at ht)
    (by kernel_rfl)
#print axioms blockInputs_proved
end Go.Proofs.YtdopdaoapdeabaaDoor
