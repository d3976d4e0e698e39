/- The statement TokensRight of the package cinnabarlaw01 holds for every input: its row, and its tied card. It is proved of the translated program; the variables of Go's library that the row lists are laid as its text lays them (the tie is given). -/
import Derived.Laws.StructEq
import Derived.Test.YtgeonilideojnaaGreatDoorTie
import Derived.Test.YtgeonilideojnaaGreatDoorCards
import Derived.SevenTiedAt
import Derived.Test.YtgeonilideojnaaGreatDoorQG1x1
import Derived.Test.YtgeonilideojnaaGreatDoorQG1x2
import Derived.Test.YtgeonilideojnaaGreatDoorQG1x3
import Derived.Test.YtgeonilideojnaaGreatDoorQG1x4
import Derived.Test.YtgeonilideojnaaGreatDoorQG1x5
import Derived.Test.YtgeonilideojnaaGreatDoorQG1x6
import Derived.Test.YtgeonilideojnaaGreatDoorQG1x7
import Derived.Test.YtgeonilideojnaaGreatDoorQG1x8
import Derived.Test.YtgeonilideojnaaGreatDoorQG1x9
import Derived.Test.YtgeonilideojnaaGreatDoorQG2x1
import Derived.Test.YtgeonilideojnaaGreatDoorQG6x1
section
namespace Go.Proofs.YtgeonilideojnaaGreatDoor.Lw
open Go Go.RowKit Tk Go.Proofs.YtgeonilideojnaaGreatDoor.Pr Go.Proofs.YtgeonilideojnaaGreatDoorW.PrintWords
set_option linter.unusedVariables false
set_option linter.unusedSimpArgs false
theorem awake_one {f : Nat → Option Bool} (h : ∀ k, f (k + 1) = (cinnabarlaw01_awake.f k).bind fun t => some t) : Ev f true :=
  Ev.step h (Ev.bind (f := fun _ t => some t) awake_f (Ev.now _))
theorem kind_wf {k : Int} (h0 : 0 ≤ k) (h7 : k ≤ 7) : (Lit.int .i64 k).wf = true := by
  simp only [Lit.wf, IntKind.min, IntKind.max, IntKind.signed, IntKind.bits, Bool.and_eq_true, decide_eq_true_eq, if_true]
  omega
structure Toks (l : Bs) (ts : List Tk.Tok) : Prop where
  ok : ∀ t ∈ ts, (Lit.int .i64 t.kind).wf = true ∧ checkS t.kind t.text = 0 ∧ t.text.length ≤ l.length + 2
  sorted : ts.Pairwise fun a b => a.at_ < b.at_
  ends : ∀ i (h : i < ts.length), ts[i].kind = 0 ↔ i + 1 = ts.length
  last : ∃ h : ts.length - 1 < ts.length, ts[ts.length - 1].at_ = l.length
theorem toks_of {l : Bs} {ts : List Tk.Tok} (h : ResOk l (.toks ts)) : Toks l ts := by
  obtain ⟨body, rfl, ha⟩ := h
  refine ⟨fun t ht => ?_, ?_, fun i hi => ?_, ?_⟩
  · rcases List.mem_append.1 ht with ht | ht
    · have := ha.each t ht
      exact ⟨kind_wf this.2.2.2.2.2.1 this.2.2.2.2.2.2, this.2.1, this.2.2.2.2.1⟩
    · rw [List.mem_singleton.1 ht]
      exact ⟨kind_wf (Int.le_refl 0) (by show (0 : Int) ≤ 7; decide), rfl, Nat.zero_le _⟩
  · rw [List.pairwise_append]
    refine ⟨ha.sorted, by simp, fun a h1 b h2 => ?_⟩
    rw [List.mem_singleton.1 h2]
    exact (ha.each a h1).2.2.2.1
  · rw [List.length_append, List.length_singleton]
    rcases Nat.lt_or_ge i body.length with hb | hb
    · rw [List.getElem_append_left hb]
      have := (ha.each _ (List.getElem_mem hb)).1
      exact ⟨fun h => absurd h this, fun h => by omega⟩
    · have : i = body.length := by simp at hi; omega
      subst this
      simp
  · simp
theorem wrap_pred (n : Nat) (h1 : 1 ≤ n) (h : n ≤ 1000000) : wrap64 ((n : Int) - 1) = ((n - 1 : Nat) : Int) := by
  unfold wrap64
  omega
theorem TokensRight_loop (l : Bs) (hl : l.length ≤ 400) (ts : List Tk.Tok) (hn : ts.length ≤ 500) (hT : Toks l ts) : ∀ (d i : Nat), ts.length - i = d → i ≤ ts.length → Ev (fun k => cinnabarlaw01_TokensRight.l0 k (B l) (ts.map TkC.ofTok) (i : Int)) true := by
  have hL : (ts.map TkC.ofTok).length = ts.length := List.length_map ..
  have hrd : ∀ (i : Nat) (h : i < ts.length), rd_T35 (ts.map TkC.ofTok) (i : Int) = TkC.ofTok ts[i] := by
    intro i h
    unfold rd_T35
    simp [List.getD_eq_getElem?_getD, List.getElem?_eq_getElem h]
  obtain ⟨hpos, hlast⟩ := hT.last
  have w1 := hide (wrap_pred ts.length (by omega) (by omega))
  intro d
  induction d with
  | zero =>
    intro i hd hi
    have hil : i = ts.length := by omega
    refine awake_one fun k => ?_
    simp only [cinnabarlaw01_TokensRight.l0, hL]
    rw [if_neg (by omega), if_pos (by omega), w1.out, if_pos (by omega), if_pos (by omega), hrd _ hpos]
    rw [if_pos (by show ts[ts.length - 1].at_ = _; rw [hlast, size_B])]
  | succ d ih =>
    intro i hd hi
    have hlt : i < ts.length := by omega
    have hok := hT.ok ts[i] (List.getElem_mem hlt)
    have hc : TkC.Check.f (TkC.ofTok ts[i]).f0 (TkC.ofTok ts[i]).f1 (TkC.ofTok ts[i]).f2 = some 0 := by
      have := Check_f (TkC.ofTok ts[i]) ⟨hok.1, by show (B ts[i].text).size ≤ 65536; rw [size_B]; omega⟩
      rw [this, toTok_ofTok, hok.2.1]
      rfl
    have he : (((TkC.ofTok ts[i]).f0 == 0) != ((i : Int) == ((ts.length - 1 : Nat) : Int))) = false := by
      have := hT.ends i hlt
      have e1 : ((TkC.ofTok ts[i]).f0 == 0) = ((i : Int) == ((ts.length - 1 : Nat) : Int)) := by
        rw [Bool.eq_iff_iff, beq_iff_eq, beq_iff_eq]
        exact ⟨fun h => by have := this.1 h; omega, fun h => this.2 (by omega)⟩
      rw [e1]
      simp
    have hnext := ih (i + 1) (by omega) (by omega)
    have wn := hide (wrap_nat i (by omega))
    refine Ev.step (f := fun k => cinnabarlaw01_TokensRight.l0 k (B l) (ts.map TkC.ofTok) ((i + 1 : Nat) : Int)) (fun k => ?_) hnext
    simp only [cinnabarlaw01_TokensRight.l0, hL]
    rw [if_pos (by omega), if_pos (by omega), hrd i hlt, hc]
    simp only [Option.bind_some, w1.out, wn.out, if_true]
    rw [he, if_neg (by decide)]
    by_cases h0 : i = 0
    · rw [if_neg (by omega)]
    · have w2 := hide (wrap_pred i (by omega) (by omega))
      have hs := List.pairwise_iff_getElem.1 hT.sorted (i - 1) i (by omega) hlt (by omega)
      rw [if_pos (by omega), w2.out, if_pos (by omega), if_pos (by omega), hrd (i - 1) (by omega)]
      rw [if_neg (by show ¬ ts[i].at_ ≤ ts[i - 1].at_; omega)]
theorem toks_len {l : Bs} {ts : List Tk.Tok} (h : Toks l ts) (h0 : ∀ t ∈ ts, 0 ≤ t.at_) : ts.length ≤ l.length + 1 := by
  obtain ⟨hp, hlast⟩ := h.last
  have : ∀ i (hi : i < ts.length), (i : Int) ≤ ts[i].at_ := by
    intro i
    induction i with
    | zero => intro hi; exact h0 _ (List.getElem_mem hi)
    | succ i ih =>
      intro hi
      have h1 := ih (by omega)
      have h2 := List.pairwise_iff_getElem.1 h.sorted i (i + 1) (by omega) hi (by omega)
      omega
  have := this _ hp
  omega
theorem toks_pos {l : Bs} {ts : List Tk.Tok} (h : ResOk l (.toks ts)) : ∀ t ∈ ts, 0 ≤ t.at_ := by
  obtain ⟨body, rfl, ha⟩ := h
  intro t ht
  rcases List.mem_append.1 ht with ht | ht
  · exact (ha.each t ht).2.2.1
  · rw [List.mem_singleton.1 ht]
    show (0 : Int) ≤ (l.length : Int)
    omega
theorem TokensRight_pure (s : ByteArray) (hs : s.size ≤ 140737488351232) : ∃ k, cinnabarlaw01_TokensRight.f k s = some true := by
  apply Ev.rounds
  obtain ⟨l, rfl⟩ : ∃ l, s = B l := ⟨s.data.toList, (B_of s).symm⟩
  rw [size_B] at hs
  have hj : ∀ xs, Ev (fun k => cinnabarlaw01_TokensRight.j0 k (B l) xs true) true := fun xs => awake_one fun k => by
    simp only [cinnabarlaw01_TokensRight.j0, if_true]
  have hf : TkC.Tokens.f (B l) = (match tokensS l with
    | .fault i c => some ([], (i : Int), (c : Int))
    | .toks ts => some (ts.map TkC.ofTok, 0, 0)) := by
    unfold TkC.Tokens.f
    rw [if_pos (by rw [size_B]; omega), B_data]
    cases tokensS l <;> rfl
  have hi := tokens_inv l
  unfold cinnabarlaw01_TokensRight.f
  rw [hf]
  by_cases h : ((B l).size : Int) > 400
  · cases hq : tokensS l with
    | fault i c => simp only [Option.bind_some, if_pos h]; exact hj _
    | toks ts => simp only [Option.bind_some, if_pos h]; exact hj _
  · have hl : l.length ≤ 400 := by rw [size_B] at h; omega
    cases hq : tokensS l with
    | fault i c =>
      rw [hq] at hi
      have hc : c ≠ 0 := hi
      simp only [Option.bind_some, if_neg h]
      rw [show ((c : Int) != 0) = true by simp; omega]
      exact hj _
    | toks ts =>
      rw [hq] at hi
      have hT := toks_of hi
      have hn := toks_len hT (toks_pos hi)
      simp only [Option.bind_some, if_neg h]
      refine Ev.step (f := fun k => cinnabarlaw01_TokensRight.l0 k (B l) (ts.map TkC.ofTok) 0) (fun k => ?_) (TokensRight_loop l hl ts (by omega) hT _ 0 rfl (Nat.zero_le _))
      simp only [cinnabarlaw01_TokensRight.j0]
      rfl
end Go.Proofs.YtgeonilideojnaaGreatDoor.Lw
end
section
namespace Go.Proofs.YtgeonilideojnaaGreatDoor.Lw
open Go.ChangeShapes Go.WideShapes Go.ChangeAt Go.RowKit Go.Joins
open Go.ChangeMaps (open_string shut_string)
open Go.Proofs.YtgeonilideojnaaGreatDoor.Pr Go.Proofs.YtgeonilideojnaaGreatDoorW.PrintWords
set_option linter.unusedVariables false
set_option linter.unusedSimpArgs false
set_option maxRecDepth 100000 in
theorem tokensRight_lifted (os : Os) (started : os.Started) (H : Type) (enc : TypeId × Value → H) :
    ReturnsInHanded {} Tryz.checked os 8 .any (fun w args => (Rows.tokensRightSpec.pre enc Tryz.prog Tryz.f8 Rows.tokensRightRow.domain false w args ∧ laidMetH Tryz.prog laidL w) ∧ sizedMet enc Tryz.prog Tryz.f8 (OpenSpec.ofChange Rows.tokensRightSpec) false w args)
      (Rows.tokensRightSpec.post enc Tryz.prog Tryz.f8 false true false false) := by
  refine wrap_laid (C := Tryz.checked) (X := fun w _ => laidMetH Tryz.prog laidL w) (fun _ _ _ hh h => h.of_heap hh) own started (by kernel_rfl) Tryz.func8
    (ChangeSpec.witness_shaped (enc := enc) (C := Tryz.checked) (os := os) (X := fun w _ => laidMetH Tryz.prog laidL w) false (World.laidAll Tryz.prog os laidL) #[.string ByteArray.empty] 8 (World.laidAll_os _ _ _)
      (World.shaped_of_ZipB (by kernel_rfl) (by kernel_rfl)) (by kernel_rfl) (by kernel_rfl) (by kernel_rfl)
      (by rw [MakeChecks.laidMetH_plain _ _ _ (by kernel_rfl)]; exact laidMet_laidAll _ (by kernel_rfl) (by kernel_rfl))) ?_
  intro W base args ds gs before hval0 hW hsz0 hL hsh
  have hE := env_of hL hsh
  have hsz : (DataW.weightsEach Tryz.prog (Tryz.f8.params.toList ++ Rows.tokensRightSpec.plain.varTypes Tryz.prog) (ds ++ gs)).all (· ≤ reachBytes) = true := hsz0
  have hval : ∀ (j : Nat) t v, Tryz.f8.params[j]? = some t → args[j]? = some v → Value.okWide Tryz.prog W .any base t v := hval0
  have hW' := hW
  obtain ⟨p, q, hA0, hV, rfl, hfz, hnd⟩ := hW
  have hA : DataW.TrodAll enc Tryz.prog W 0 (fun _ => true) true Tryz.f8.params.toList args.toList ds p := hA0
  rw [Tryz.params8] at hA hval hsz
  obtain ⟨v0, vs0, d0, ds0, p0, q0, hargs, rfl, rfl, h0, r0⟩ := trodAll_cons hA
  obtain ⟨rfl, rfl, rfl⟩ := trodAll_nil r0
  obtain rfl : args = #[v0] := by cases args; simp_all
  obtain ⟨rfl, rfl⟩ := trodVars_none hV
  have k0 := h0
  have lt0 : ∀ x ∈ p0, x.block < W.heap.size := by obtain ⟨m, hm⟩ := k0; exact DataW.trod_lt m _ _ _ hm
  obtain ⟨a0, rfl, rfl, rfl, y0⟩ := open_string Tryz.underlying9 (hval 0 9 v0 rfl rfl) h0
  have w0 : a0.size ≤ 140737488351232 := by
    have z := sized_string hsz (j := 0) (t := 9) rfl rfl
    rw [Array.length_toList] at z
    exact z
  clear hA0 hval0 hsz0 hsz
  obtain ⟨k, hk⟩ := TokensRight_pure a0 w0
  refine (cinnabarlaw01_TokensRight.calls k a0 true W  hE hk).mono fun e W' ⟨he, bel⟩ => ?_
  subst he
  exact ⟨_, rfl, _, _, _, [], _, [], hW', trodAll_mk1 (shut_bool Tryz.underlying4 _), (trodAll_cons_mk (Below.trod laidOut (by kernel_rfl) (of_decide_eq_true (by kernel_rfl)) k0 bel lt0) trodAll_mk0), rfl, bel.frame _, fun h => by cases h⟩
theorem tokensRight_over : Rows.tokensRightRow.holds Tryz.pinned (OpenSpec.ofChange Rows.tokensRightSpec) :=
  OpenClaim.holds_of_wide 8 Tryz.f8 rfl rfl rfl rfl rfl rfl rfl ⟨rfl, rfl, rfl, rfl, rfl⟩ rfl rfl rfl rfl rfl (by kernel_rfl) Tryz.func8 (by kernel_rfl)
    (of_decide_eq_true (by kernel_rfl)) (by unfold Func.isWrapper; first | (rw [if_pos (by decide +kernel)]; kernel_rfl) | (rw [if_neg (by decide +kernel)]; exact ⟨rfl, rfl⟩))
    (fun os started H enc _ => tokensRight_lifted os started H enc)
end Go.Proofs.YtgeonilideojnaaGreatDoor.Lw
namespace Go.Proofs.YtgeonilideojnaaGreatDoor
theorem tokensRight_card : Rows.TokensRightCardSaid :=
  Claim7.holds_tied_plain_at .later [] [.data, .data, .data, .data, .sentinel, .sentinel, .pinned] true (true, "665b99ac99360173511c14b8ca128cfc928be2ec3ee8f78b1c704b7227bf8d04") true Lw.tokensRight_over (fun _ h => by cases h) (by kernel_rfl) (fun _ h => by cases h) tokensRight_row_tie rfl ⟨rfl, rfl⟩ (by kernel_rfl) rfl
    (fun f fn hf hfn => by
      obtain rfl : f = 8 := Option.some.inj ((show Tryz.prog.funcNamed "cinnabar/cinnabarlaw01.TokensRight" = some 8 by kernel_rfl).symm.trans hf) |>.symm
      obtain rfl : fn = Tryz.f8 := (Option.some.inj (Tryz.func8.symm.trans hfn)).symm
      exact ⟨by kernel_rfl, fun j t ht => by
        rw [Tryz.params8] at ht
        have hm : t ∈ [9] := by simpa using Array.mem_of_getElem? ht
        have hall : ([9].all fun u => !Tryz.prog.wantsStandIn u) = true := by kernel_rfl
        exact (show Tryz.prog.wantsStandIn t = false by simpa using List.all_eq_true.1 hall t hm)⟩)
    (by kernel_rfl)
#print axioms tokensRight_card
end Go.Proofs.YtgeonilideojnaaGreatDoor
end
