/- The statement TokensBack of the package cinnabarlaw01 holds for every input: its row, and its tied card. It is proved of the translated program; the variables of Go's library that the row lists are laid as its text lays them (the tie is given). -/
import Derived.Test.YtgeonilideojnaaGreatDoorTie
import Derived.Test.YtgeonilideojnaaGreatDoorCards
import Derived.SevenTiedAt
import Derived.Laws.StructEq
import Derived.Test.YtgeonilideojnaaGreatDoorQG1x1
import Derived.Test.YtgeonilideojnaaGreatDoorQG1x2
import Derived.Test.YtgeonilideojnaaGreatDoorQG1x3
import Derived.Test.YtgeonilideojnaaGreatDoorQG1x4
import Derived.Test.YtgeonilideojnaaGreatDoorQG1x5
import Derived.Test.YtgeonilideojnaaGreatDoorQG1x6
import Derived.Test.YtgeonilideojnaaGreatDoorQG1x7
import Derived.Test.YtgeonilideojnaaGreatDoorQG1x8
import Derived.Test.YtgeonilideojnaaGreatDoorQG1x9
import Derived.Test.YtgeonilideojnaaGreatDoorQG2x1
import Derived.Test.YtgeonilideojnaaGreatDoorQG4x1
import Derived.Test.YtgeonilideojnaaGreatDoorQG7x1
import Derived.Test.YtgeonilideojnaaGreatDoorQG7x2
section
namespace Go.Proofs.YtgeonilideojnaaGreatDoor.Lw
open Go.ChangeShapes Go.WideShapes Go.ChangeAt Go.RowKit Go.Joins
open Go.ChangeMaps (open_string shut_string)
open Go.Proofs.YtgeonilideojnaaGreatDoor.Pr Go.Proofs.YtgeonilideojnaaGreatDoorW.PrintWords
set_option linter.unusedVariables false
set_option linter.unusedSimpArgs false
set_option maxRecDepth 100000 in
theorem tokensBack_lifted (os : Os) (started : os.Started) (H : Type) (enc : TypeId × Value → H) :
    ReturnsInHanded {} Tryz.checked os 6 .any (fun w args => (Rows.tokensBackSpec.pre enc Tryz.prog Tryz.f6 Rows.tokensBackRow.domain false w args ∧ laidMetH Tryz.prog laidL w) ∧ sizedMet enc Tryz.prog Tryz.f6 (OpenSpec.ofChange Rows.tokensBackSpec) false w args)
      (Rows.tokensBackSpec.post enc Tryz.prog Tryz.f6 false true false false) := by
  refine wrap_laid (C := Tryz.checked) (X := fun w _ => laidMetH Tryz.prog laidL w) (fun _ _ _ hh h => h.of_heap hh) own started (by kernel_rfl) Tryz.func6
    (ChangeSpec.witness_shaped (enc := enc) (C := Tryz.checked) (os := os) (X := fun w _ => laidMetH Tryz.prog laidL w) false (World.laidAll Tryz.prog os laidL) #[.slice none 0 0] 8 (World.laidAll_os _ _ _)
      (World.shaped_of_ZipB (by kernel_rfl) (by kernel_rfl)) (by kernel_rfl) (by kernel_rfl) (by kernel_rfl)
      (by rw [MakeChecks.laidMetH_plain _ _ _ (by kernel_rfl)]; exact laidMet_laidAll _ (by kernel_rfl) (by kernel_rfl))) ?_
  intro W base args ds gs before hval0 hW hsz0 hL hsh
  have hE := env_of hL hsh
  have hsz : (DataW.weightsEach Tryz.prog (Tryz.f6.params.toList ++ Rows.tokensBackSpec.plain.varTypes Tryz.prog) (ds ++ gs)).all (· ≤ reachBytes) = true := hsz0
  have hval : ∀ (j : Nat) t v, Tryz.f6.params[j]? = some t → args[j]? = some v → Value.okWide Tryz.prog W .any base t v := hval0
  have hW' := hW
  obtain ⟨p, q, hA0, hV, rfl, hfz, hnd⟩ := hW
  have hA : DataW.TrodAll enc Tryz.prog W 0 (fun _ => true) true Tryz.f6.params.toList args.toList ds p := hA0
  rw [Tryz.params6] at hA hval hsz
  obtain ⟨v0, vs0, d0, ds0, p0, q0, hargs, rfl, rfl, h0, r0⟩ := trodAll_cons hA
  obtain ⟨rfl, rfl, rfl⟩ := trodAll_nil r0
  obtain rfl : args = #[v0] := by cases args; simp_all
  obtain ⟨rfl, rfl⟩ := trodVars_none hV
  have k0 := h0
  have lt0 : ∀ x ∈ p0, x.block < W.heap.size := by obtain ⟨m, hm⟩ := k0; exact DataW.trod_lt m _ _ _ hm
  obtain ⟨A0, c0, xs0, rfl, hC0, hc0, hok0⟩ := open_toks hsz (j := 0) rfl rfl (hval 0 23 v0 rfl rfl) k0
  clear hA0 hval0 hsz0 hsz
  obtain ⟨k, hk⟩ := TokensBack_pure xs0 hok0
  refine (cinnabarlaw01_TokensBack.calls k A0 c0 xs0 true W hC0 hc0 hE hk).mono fun e W' ⟨he, bel⟩ => ?_
  subst he
  exact ⟨_, rfl, _, _, _, [], _, [], hW', trodAll_mk1 (shut_bool Tryz.underlying4 _), (trodAll_cons_mk (Below.trod laidOut (by kernel_rfl) (of_decide_eq_true (by kernel_rfl)) k0 bel lt0) trodAll_mk0), rfl, bel.frame _, fun h => by cases h⟩
theorem tokensBack_over : Rows.tokensBackRow.holds Tryz.pinned (OpenSpec.ofChange Rows.tokensBackSpec) :=
  OpenClaim.holds_of_wide 6 Tryz.f6 rfl rfl rfl rfl rfl rfl rfl ⟨rfl, rfl, rfl, rfl, rfl⟩ rfl rfl rfl rfl rfl (by kernel_rfl) Tryz.func6 (by kernel_rfl)
    (of_decide_eq_true (by kernel_rfl)) (by unfold Func.isWrapper; first | (rw [if_pos (by decide +kernel)]; kernel_rfl) | (rw [if_neg (by decide +kernel)]; exact ⟨rfl, rfl⟩))
    (fun os started H enc _ => tokensBack_lifted os started H enc)
end Go.Proofs.YtgeonilideojnaaGreatDoor.Lw
namespace Go.Proofs.YtgeonilideojnaaGreatDoor
theorem tokensBack_card : Rows.TokensBackCardSaid :=
  Claim7.holds_tied_plain_at .later [] [.data, .data, .data, .data, .sentinel, .sentinel, .pinned] true (true, "665b99ac99360173511c14b8ca128cfc928be2ec3ee8f78b1c704b7227bf8d04") true Lw.tokensBack_over (fun _ h => by cases h) (by kernel_rfl) (fun _ h => by cases h) tokensBack_row_tie rfl ⟨rfl, rfl⟩ (by kernel_rfl) rfl
    (fun f fn hf hfn => by
      obtain rfl : f = 6 := Option.some.inj ((show Tryz.prog.funcNamed "cinnabar/cinnabarlaw01.TokensBack" = some 6 by kernel_rfl).symm.trans hf) |>.symm
      obtain rfl : fn = Tryz.f6 := (Option.some.inj (Tryz.func6.symm.trans hfn)).symm
      exact ⟨by kernel_rfl, fun j t ht => by
        rw [Tryz.params6] at ht
        have hm : t ∈ [23] := by simpa using Array.mem_of_getElem? ht
        have hall : ([23].all fun u => !Tryz.prog.wantsStandIn u) = true := by kernel_rfl
        exact (show Tryz.prog.wantsStandIn t = false by simpa using List.all_eq_true.1 hall t hm)⟩)
    (by kernel_rfl)
#print axioms tokensBack_card
end Go.Proofs.YtgeonilideojnaaGreatDoor
end
