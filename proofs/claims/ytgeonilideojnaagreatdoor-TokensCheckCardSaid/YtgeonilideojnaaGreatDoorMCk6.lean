/- The statement TokensCheck of the package cinnabarlaw01 holds for every input: its row, and its tied card. It is proved of the translated program; the variables of Go's library that the row lists are laid as its text lays them (the tie is given). -/
import Derived.Test.YtgeonilideojnaaGreatDoorMA9
import Derived.Test.YtgeonilideojnaaGreatDoorMCk5
import Derived.Test.YtgeonilideojnaaGreatDoorTie
import Derived.Test.YtgeonilideojnaaGreatDoorCards
import Derived.SevenTiedAt
/- The statement TokensCheck of the package cinnabarlaw01 holds for every input: its row, and its tied card. It is proved of the translated program; the variables of Go's library that the row lists are laid as its text lays them (the tie is given). -/
namespace Go.Proofs.YtgeonilideojnaaGreatDoor.Lw
open Go.ChangeShapes Go.WideShapes Go.ChangeAt Go.RowKit Go.Joins
open Go.ChangeMaps (open_string shut_string)
open Go.Proofs.YtgeonilideojnaaGreatDoor.Pr Go.Proofs.YtgeonilideojnaaGreatDoorW.PrintWords
set_option linter.unusedVariables false
set_option linter.unusedSimpArgs false
set_option maxRecDepth 100000 in
theorem tokensCheck_lifted (os : Os) (started : os.Started) (H : Type) (enc : TypeId × Value → H) :
    ReturnsInHanded {} Tryz.checked os 5 .any (fun w args => (Rows.tokensCheckSpec.pre enc Tryz.prog Tryz.f5 Rows.tokensCheckRow.domain false w args ∧ laidMetH Tryz.prog laidL w) ∧ sizedMet enc Tryz.prog Tryz.f5 (OpenSpec.ofChange Rows.tokensCheckSpec) false w args)
      (Rows.tokensCheckSpec.post enc Tryz.prog Tryz.f5 false true false false) := by
  refine wrap_laid (C := Tryz.checked) (X := fun w _ => laidMetH Tryz.prog laidL w) (fun _ _ _ hh h => h.of_heap hh) own started (by kernel_rfl) Tryz.func5
    (ChangeSpec.witness_shaped (enc := enc) (C := Tryz.checked) (os := os) (X := fun w _ => laidMetH Tryz.prog laidL w) false (World.laidAll Tryz.prog os laidL) #[.agg #[.int .i64 0, .string ByteArray.empty, .int .i64 0]] 8 (World.laidAll_os _ _ _)
      (World.shaped_of_ZipB (by kernel_rfl) (by kernel_rfl)) (by kernel_rfl) (by kernel_rfl) (by kernel_rfl)
      (by rw [MakeChecks.laidMetH_plain _ _ _ (by kernel_rfl)]; exact laidMet_laidAll _ (by kernel_rfl) (by kernel_rfl))) ?_
  intro W base args ds gs before hval0 hW hsz0 hL hsh
  have hE := env_of hL hsh
  have hsz : (DataW.weightsEach Tryz.prog (Tryz.f5.params.toList ++ Rows.tokensCheckSpec.plain.varTypes Tryz.prog) (ds ++ gs)).all (· ≤ reachBytes) = true := hsz0
  have hval : ∀ (j : Nat) t v, Tryz.f5.params[j]? = some t → args[j]? = some v → Value.okWide Tryz.prog W .any base t v := hval0
  have hW' := hW
  obtain ⟨p, q, hA0, hV, rfl, hfz, hnd⟩ := hW
  have hA : DataW.TrodAll enc Tryz.prog W 0 (fun _ => true) true Tryz.f5.params.toList args.toList ds p := hA0
  rw [Tryz.params5] at hA hval hsz
  obtain ⟨v0, vs0, d0, ds0, p0, q0, hargs, rfl, rfl, h0, r0⟩ := trodAll_cons hA
  obtain ⟨rfl, rfl, rfl⟩ := trodAll_nil r0
  obtain rfl : args = #[v0] := by cases args; simp_all
  obtain ⟨rfl, rfl⟩ := trodVars_none hV
  have k0 := h0
  have lt0 : ∀ x ∈ p0, x.block < W.heap.size := by obtain ⟨m, hm⟩ := k0; exact DataW.trod_lt m _ _ _ hm
  obtain ⟨u0, u1, u2, y0, y1, y2, n0, rfl, rfl, rfl, g0, g1, g2⟩ := open_agg3 Tryz.underlying35 (by kernel_rfl) (by kernel_rfl) (hval 0 35 v0 rfl rfl) h0
  obtain ⟨b0, e0, rfl, wb0⟩ := DataW.trod_int Tryz.underlying3 g0
  obtain rfl := List.singleton_inj.1 e0
  obtain ⟨b1, e1, rfl, wb1⟩ := DataW.trod_string Tryz.underlying9 g1
  obtain rfl := List.singleton_inj.1 e1
  obtain ⟨b2, e2, rfl, wb2⟩ := DataW.trod_int Tryz.underlying3 g2
  obtain rfl := List.singleton_inj.1 e2
  clear hA0 hval0 hsz0 hsz
  obtain ⟨k, hk⟩ := TokensCheck_pure b0 b1 b2 wb0
  refine (cinnabarlaw01_TokensCheck.calls k b0 b1 b2 true W  hE hk).mono fun e W' ⟨he, bel⟩ => ?_
  subst he
  exact ⟨_, rfl, _, _, _, [], _, [], hW', trodAll_mk1 (shut_bool Tryz.underlying4 _), (trodAll_cons_mk (Below.trod laidOut (by kernel_rfl) (of_decide_eq_true (by kernel_rfl)) k0 bel lt0) trodAll_mk0), rfl, bel.frame _, fun h => by cases h⟩
theorem tokensCheck_over : Rows.tokensCheckRow.holds Tryz.pinned (OpenSpec.ofChange Rows.tokensCheckSpec) :=
  OpenClaim.holds_of_wide 5 Tryz.f5 rfl rfl rfl rfl rfl rfl rfl ⟨rfl, rfl, rfl, rfl, rfl⟩ rfl rfl rfl rfl rfl (by kernel_rfl) Tryz.func5 (by kernel_rfl)
    (of_decide_eq_true (by kernel_rfl)) (by unfold Func.isWrapper; first | (rw [if_pos (by decide +kernel)]; kernel_rfl) | (rw [if_neg (by decide +kernel)]; exact ⟨rfl, rfl⟩))
    (fun os started H enc _ => tokensCheck_lifted os started H enc)
end Go.Proofs.YtgeonilideojnaaGreatDoor.Lw
namespace Go.Proofs.YtgeonilideojnaaGreatDoor
theorem tokensCheck_card : Rows.TokensCheckCardSaid :=
  Claim7.holds_tied_plain_at .later [] [.data, .data, .data, .data, .sentinel, .sentinel, .pinned] true (true, "665b99ac99360173511c14b8ca128cfc928be2ec3ee8f78b1c704b7227bf8d04") true Lw.tokensCheck_over (fun _ h => by cases h) (by kernel_rfl) (fun _ h => by cases h) tokensCheck_row_tie rfl ⟨rfl, rfl⟩ (by kernel_rfl) rfl
    (fun f fn hf hfn => by
      obtain rfl : f = 5 := Option.some.inj ((show Tryz.prog.funcNamed "cinnabar/cinnabarlaw01.TokensCheck" = some 5 by kernel_rfl).symm.trans hf) |>.symm
      obtain rfl : fn = Tryz.f5 := (Option.some.inj (Tryz.func5.symm.trans hfn)).symm
      exact ⟨by kernel_rfl, fun j t ht => by
        rw [Tryz.params5] at ht
        have hm : t ∈ [35] := by simpa using Array.mem_of_getElem? ht
        have hall : ([35].all fun u => !Tryz.prog.wantsStandIn u) = true := by kernel_rfl
        exact (show Tryz.prog.wantsStandIn t = false by simpa using List.all_eq_true.1 hall t hm)⟩)
    (by kernel_rfl)
#print axioms tokensCheck_card
end Go.Proofs.YtgeonilideojnaaGreatDoor
