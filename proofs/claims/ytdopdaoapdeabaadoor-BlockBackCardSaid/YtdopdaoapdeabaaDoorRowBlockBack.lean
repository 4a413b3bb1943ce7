/- THE ROW AND ITS TIED CARD: Rows.BlockBackCardSaid: for every input sacristanlaw07.BlockBack returns true and each argument reads afterwards as it read before; the row lists errors.errorType, which the card ties to the program's text. -/
import Derived.Test.YtdopdaoapdeabaaDoorCards
import Derived.Test.YtdopdaoapdeabaaDoorTie
import Derived.Test.YtdopdaoapdeabaaDoorLaid
import Derived.Test.YtdopdaoapdeabaaDoorBackW
import Derived.SevenTiedAt
namespace Go.Proofs.YtdopdaoapdeabaaDoor.blockBack
open Go.ChangeShapes Go.WideShapes Go.ChangeAt Go.RowKit

set_option maxRecDepth 100000 in
theorem lifted (os : Os) (started : os.Started) (H : Type) (enc : TypeId × Value → H) :
    ReturnsInHanded {} Tryd.checked os 6 .any (fun w args => (Rows.blockBackSpec.pre enc Tryd.prog Tryd.f6 [] false w args ∧ laidMetH Tryd.prog laidL w) ∧ sizedMet enc Tryd.prog Tryd.f6 (OpenSpec.ofChange Rows.blockBackSpec) false w args)
      (Rows.blockBackSpec.post enc Tryd.prog Tryd.f6 false true false false) := by
  refine returnsInHanded_of_change_and (C := Tryd.checked) (X := fun w _ => laidMetH Tryd.prog laidL w) (fun _ _ _ hh h => h.of_heap hh) R.own started (by kernel_rfl) Tryd.func6
    (ChangeSpec.witness_at (enc := enc) (C := Tryd.checked) (os := os) (X := fun w _ => laidMetH Tryd.prog laidL w) false (laidWorld os) #[.agg #[.int .u8 0, .int .u8 0, .int .u8 0, .int .u8 0, .int .u8 0, .int .u8 0, .int .u8 0, .int .u8 0, .int .u8 0, .int .u8 0, .int .u8 0, .int .u8 0, .int .u8 0, .int .u8 0, .int .u8 0, .int .u8 0], .int .u64 0, .int .u32 0, .slice none 0 0, .int .u32 0] 8 rfl (by kernel_rfl) (by kernel_rfl) (by kernel_rfl) (by kernel_rfl) (by kernel_rfl) (laidWorld_met os _)) ?_
  intro W base args ds gs before hval0 hW _ _ hL _
  have hg := ET_of_laid hL
  have hval : ∀ (j : Nat) t v, Tryd.f6.params[j]? = some t → args[j]? = some v → Value.okWide Tryd.prog W .any base t v := hval0
  have hW' := hW
  obtain ⟨p, q, hA0, hV, rfl, hfz, hnd⟩ := hW
  have hA : DataW.TrodAll enc Tryd.prog W 0 (fun _ => true) true Tryd.f6.params.toList args.toList ds p := hA0
  rw [Tryd.params6] at hA hval
  obtain ⟨v0, vs0, d0, ds0, p0, q0, hargs, rfl, rfl, h0, r0⟩ := trodAll_cons hA
  obtain ⟨v1, vs1, d1, ds1, p1, q1, rfl, rfl, rfl, h1, r1⟩ := trodAll_cons r0
  obtain ⟨v2, vs2, d2, ds2, p2, q2, rfl, rfl, rfl, h2, r2⟩ := trodAll_cons r1
  obtain ⟨v3, vs3, d3, ds3, p3, q3, rfl, rfl, rfl, h3, r3⟩ := trodAll_cons r2
  obtain ⟨v4, vs4, d4, ds4, p4, q4, rfl, rfl, rfl, h4, r4⟩ := trodAll_cons r3
  obtain ⟨rfl, rfl, rfl⟩ := trodAll_nil r4
  obtain rfl : args = #[v0, v1, v2, v3, v4] := by cases args; simp_all
  obtain ⟨rfl, rfl⟩ := trodVars_none hV
  have k0 := h0
  have lt0 : ∀ x ∈ p0, x.block < W.heap.size := by obtain ⟨m, hm⟩ := k0; exact DataW.trod_lt m _ _ _ hm
  obtain ⟨a0, rfl, n0, m0⟩ := open_arr Tryd.underlying23 Tryd.underlying5 (by kernel_rfl) (by kernel_rfl) (hval 0 23 v0 rfl rfl) h0
  have k1 := h1
  have lt1 : ∀ x ∈ p1, x.block < W.heap.size := by obtain ⟨m, hm⟩ := k1; exact DataW.trod_lt m _ _ _ hm
  obtain ⟨z1, rfl, _, _, w1⟩ := open_int Tryd.underlying24 (hval 1 24 v1 rfl rfl) h1
  have b1 := bounds_u64 w1
  obtain ⟨a1, rfl⟩ := Int.eq_ofNat_of_zero_le b1.1
  have k2 := h2
  have lt2 : ∀ x ∈ p2, x.block < W.heap.size := by obtain ⟨m, hm⟩ := k2; exact DataW.trod_lt m _ _ _ hm
  obtain ⟨z2, rfl, _, _, w2⟩ := open_int Tryd.underlying25 (hval 2 25 v2 rfl rfl) h2
  have b2 := bounds_u32 w2
  obtain ⟨a2, rfl⟩ := Int.eq_ofNat_of_zero_le b2.1
  have k3 := h3
  have lt3 : ∀ x ∈ p3, x.block < W.heap.size := by obtain ⟨m, hm⟩ := k3; exact DataW.trod_lt m _ _ _ hm
  obtain ⟨a3, e3, m3, n3⟩ := open_bytes Tryd.underlying26 Tryd.underlying5 (by kernel_rfl) (hval 3 26 v3 rfl rfl) h3
  have k4 := h4
  have lt4 : ∀ x ∈ p4, x.block < W.heap.size := by obtain ⟨m, hm⟩ := k4; exact DataW.trod_lt m _ _ _ hm
  obtain ⟨z4, rfl, _, _, w4⟩ := open_int Tryd.underlying25 (hval 4 25 v4 rfl rfl) h4
  have b4 := bounds_u32 w4
  obtain ⟨a4, rfl⟩ := Int.eq_ofNat_of_zero_le b4.1
  clear hA0 hval0
  refine (blockBack_walk a0 a1 a2 v3 a3 a4 W n0 m0 (by omega) (by omega) e3 m3 n3 (by omega) hg).mono fun e W' ⟨he, bel⟩ => ?_
  subst he
  exact ⟨_, rfl, _, _, _, [], _, [], hW', trodAll_mk1 (shut_bool Tryd.underlying4 _), (trodAll_cons_mk (Below.trod R.laidOut (by kernel_rfl) (of_decide_eq_true (by kernel_rfl)) k0 bel lt0) (trodAll_cons_mk (Below.trod R.laidOut (by kernel_rfl) (of_decide_eq_true (by kernel_rfl)) k1 bel lt1) (trodAll_cons_mk (Below.trod R.laidOut (by kernel_rfl) (of_decide_eq_true (by kernel_rfl)) k2 bel lt2) (trodAll_cons_mk (Below.trod R.laidOut (by kernel_rfl) (of_decide_eq_true (by kernel_rfl)) k3 bel lt3) (trodAll_cons_mk (Below.trod R.laidOut (by kernel_rfl) (of_decide_eq_true (by kernel_rfl)) k4 bel lt4) trodAll_mk0))))), rfl, bel.frame _, fun h => by cases h⟩

theorem over : Rows.blockBackRow.holds Tryd.pinned (OpenSpec.ofChange Rows.blockBackSpec) :=
  OpenClaim.holds_of_wide 6 Tryd.f6 rfl rfl rfl rfl rfl rfl rfl ⟨rfl, rfl, rfl, rfl, rfl⟩ rfl rfl rfl rfl rfl (by kernel_rfl) Tryd.func6 (by kernel_rfl)
    (of_decide_eq_true (by kernel_rfl)) (by unfold Func.isWrapper; first | (rw [if_pos (by decide +kernel)]; kernel_rfl) | (rw [if_neg (by decide +kernel)]; exact ⟨rfl, rfl⟩))
    (fun os started H enc _ => lifted os started H enc)

end Go.Proofs.YtdopdaoapdeabaaDoor.blockBack
namespace Go.Proofs.YtdopdaoapdeabaaDoor
open Go
/-- the statement -/
theorem blockBack_proved : Rows.BlockBackCardSaid :=
  Claim7.holds_tied_plain_at .later [] [.handle] true (true, "4799b4d20a5f9e216dd4fc9d571f59efa43bf67445f941a37eac4b0d206eb91b") true
    blockBack.over (fun _ h => by cases h) (by kernel_rfl) (fun _ h => by cases h) blockBack_row_tie rfl ⟨rfl, rfl⟩ (by kernel_rfl) rfl
    (fun f fn hf hfn => by
      obtain rfl : f = 6 := Option.some.inj ((show Tryd.prog.funcNamed "sacristan/sacristanlaw07.BlockBack" = some 6 by kernel_rfl).symm.trans hf) |>.symm
      obtain rfl : fn = Tryd.f6 := (Option.some.inj (Tryd.func6.symm.trans hfn)).symm
      refine ⟨by kernel_rfl, fun j t ht => ?_⟩
      rw [Tryd.params6] at ht
      obtain _ | j := j
      · have h : t = 23 := by simpa using ht.symm
        subst h
        exact (show Tryd.prog.wantsStandIn 23 = false by kernel_rfl)
      obtain _ | j := j
      · have h : t = 24 := by simpa using ht.symm
        subst h
        exact (show Tryd.prog.wantsStandIn 24 = false by kernel_rfl)
      obtain _ | j := j
      · have h : t = 25 := by simpa using ht.symm
        subst h
        exact (show Tryd.prog.wantsStandIn 25 = false by kernel_rfl)
      obtain _ | j := j
      · have h : t = 26 := by simpa using ht.symm
        subst h
        exact (show Tryd.prog.wantsStandIn 26 = false by kernel_rfl)
      obtain _ | j := j
      · have h : t = 25 := by simpa using ht.symm
        subst h
        exact (show Tryd.prog.wantsStandIn 25 = false by kernel_rfl)
      simp at ht)
    (by kernel_rfl)
#print axioms blockBack_proved
end Go.Proofs.YtdopdaoapdeabaaDoor
