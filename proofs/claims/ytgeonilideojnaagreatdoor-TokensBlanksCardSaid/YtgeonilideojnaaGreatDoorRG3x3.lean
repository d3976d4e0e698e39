/- The statement TokensBlanks of the package cinnabarlaw01 holds for every input: its row, and its tied card. It is proved of the translated program; the variables of Go's library that the row lists are laid as its text lays them (the tie is given). -/
import Derived.Test.YtgeonilideojnaaGreatDoorTie
import Derived.Test.YtgeonilideojnaaGreatDoorCards
import Derived.SevenTiedAt
import Derived.Test.YtgeonilideojnaaGreatDoorRG1x1
import Derived.Test.YtgeonilideojnaaGreatDoorRG1x2
import Derived.Test.YtgeonilideojnaaGreatDoorRG1x3
import Derived.Test.YtgeonilideojnaaGreatDoorRG1x4
import Derived.Test.YtgeonilideojnaaGreatDoorRG1x5
import Derived.Test.YtgeonilideojnaaGreatDoorRG1x6
import Derived.Test.YtgeonilideojnaaGreatDoorRG1x7
import Derived.Test.YtgeonilideojnaaGreatDoorRG1x8
import Derived.Test.YtgeonilideojnaaGreatDoorRG1x9
import Derived.Test.YtgeonilideojnaaGreatDoorRG1x10
import Derived.Test.YtgeonilideojnaaGreatDoorRG3x1
import Derived.Test.YtgeonilideojnaaGreatDoorRG3x2
section
namespace Go.Proofs.YtgeonilideojnaaGreatDoor.Lw
open Go Go.RowKit Tk Go.Proofs.YtgeonilideojnaaGreatDoor.Pr Go.Proofs.YtgeonilideojnaaGreatDoorW.PrintWords
set_option linter.unusedVariables false
set_option linter.unusedSimpArgs false
theorem u64_mod (x : Int) (n : Nat) (h0 : 0 < n) (h : n ≤ 1000000) : ∃ i : Nat, wrap64 (Int.tmod (IntKind.u64.wrap x) (IntKind.u64.wrap (n : Int))) = (i : Int) ∧ i < n := by
  have hx : IntKind.u64.wrap x = x % 18446744073709551616 := by simp [IntKind.wrap, IntKind.bits, IntKind.signed]
  have hn : IntKind.u64.wrap (n : Int) = (n : Int) := by
    simp only [IntKind.wrap, IntKind.bits, IntKind.signed]
    simp
    omega
  have h1 : 0 ≤ x % 18446744073709551616 := by omega
  rw [hx, hn, Int.tmod_eq_emod_of_nonneg h1]
  obtain ⟨i, hi⟩ := Int.eq_ofNat_of_zero_le (Int.emod_nonneg (x % 18446744073709551616) (show (n : Int) ≠ 0 by omega))
  have h2 := Int.emod_lt_of_pos (x % 18446744073709551616) (show (0 : Int) < (n : Int) by omega)
  rw [hi] at h2 ⊢
  exact ⟨i, by unfold wrap64; omega, by omega⟩
theorem u64_four (x : Int) : ∃ i : Nat, Int.tmod (IntKind.u64.wrap x) 4 = (i : Int) ∧ i < 4 := by
  have hx : IntKind.u64.wrap x = x % 18446744073709551616 := by simp [IntKind.wrap, IntKind.bits, IntKind.signed]
  have h1 : 0 ≤ x % 18446744073709551616 := by omega
  rw [hx, Int.tmod_eq_emod_of_nonneg h1]
  obtain ⟨i, hi⟩ := Int.eq_ofNat_of_zero_le (Int.emod_nonneg (x % 18446744073709551616) (show (4 : Int) ≠ 0 by omega))
  have h2 := Int.emod_lt_of_pos (x % 18446744073709551616) (show (0 : Int) < 4 by omega)
  rw [hi] at h2 ⊢
  exact ⟨i, rfl, by omega⟩
def gapB : List ByteArray := [(⟨#[32]⟩ : ByteArray), (⟨#[10, 9]⟩ : ByteArray), (⟨#[32, 47, 42, 32, 97, 32, 37, 32, 98, 32, 10, 32, 42, 47, 32]⟩ : ByteArray), (⟨#[32, 37, 32, 99, 32, 39, 100, 32, 10]⟩ : ByteArray)]
theorem gap_at (i : Nat) (h : i < 4) : ∃ g, g ∈ Gp.gapL ∧ g.length ≤ 20 ∧ rdOf ByteArray.empty gapB (i : Int) = B g := by
  match i, h with
  | 0, _ => exact ⟨[32], by decide, by decide, rfl⟩
  | 1, _ => exact ⟨[10, 9], by decide, by decide, rfl⟩
  | 2, _ => exact ⟨[32, 47, 42, 32, 97, 32, 37, 32, 98, 32, 10, 32, 42, 47, 32], by decide, by decide, rfl⟩
  | 3, _ => exact ⟨[32, 37, 32, 99, 32, 39, 100, 32, 10], by decide, by decide, rfl⟩
theorem B_add (a b : Bs) : B a ++ B b = B (a ++ b) := by
  apply ByteArray.ext
  simp [B, ByteArray.data_append]
theorem TokensBlanks_pure (s : ByteArray) (hs : s.size ≤ 140737488351232) (x : Int) (hx : (Lit.int .i64 x).wf = true) (y : Int) (hy : (Lit.int .i64 y).wf = true) : ∃ k, cinnabarlaw01_TokensBlanks.f k s x y = some true := by
  apply Ev.rounds
  obtain ⟨l, rfl⟩ : ∃ l, s = B l := ⟨s.data.toList, (B_of s).symm⟩
  rw [size_B] at hs
  have hj : ∀ xs, Ev (fun k => cinnabarlaw01_TokensBlanks.j0 k (B l) x y xs true) true := fun xs => awake_oneR fun k => by
    simp only [cinnabarlaw01_TokensBlanks.j0, if_true]
  have hj1 : ∀ xs i, Ev (fun k => cinnabarlaw01_TokensBlanks.j1 k (B l) y xs i true) true := fun xs i => awake_oneR fun k => by
    simp only [cinnabarlaw01_TokensBlanks.j1, if_true]
  have hf : TkC.Tokens.f (B l) = (match tokensS l with
    | .fault i c => some ([], (i : Int), (c : Int))
    | .toks ts => some (ts.map TkC.ofTok, 0, 0)) := by
    unfold TkC.Tokens.f
    rw [if_pos (by rw [size_B]; omega), B_data]
    cases tokensS l <;> rfl
  have hi := tokens_inv l
  unfold cinnabarlaw01_TokensBlanks.f
  rw [hf]
  by_cases h : ((B l).size : Int) > 400
  · cases hq : tokensS l with
    | fault i c => simp only [Option.bind_some, if_pos h]; exact hj _
    | toks ts => simp only [Option.bind_some, if_pos h]; exact hj _
  · have hl : l.length ≤ 400 := by rw [size_B] at h; omega
    cases hq : tokensS l with
    | fault i c =>
      rw [hq] at hi
      have hc : c ≠ 0 := hi
      simp only [Option.bind_some, if_neg h]
      simp only [if_neg (show ¬ (c : Int) = 0 by omega)]
      exact hj _
    | toks ts =>
      rw [hq] at hi
      have hT := toks_of hi
      have hn := toks_len hT (toks_pos hi)
      obtain ⟨hpos, -⟩ := hT.last
      simp only [Option.bind_some, if_neg h, if_true]
      have hL : (ts.map TkC.ofTok).length = ts.length := List.length_map ..
      have e0 : (((ts.map TkC.ofTok).length : Int) == 0) = false := by
        rw [hL]
        have : ts.length ≠ 0 := by omega
        simpa using this
      rw [e0]
      obtain ⟨i, hie, hin⟩ := u64_mod x ts.length (by omega) (by omega)
      have hrd : ∀ (i : Nat) (h : i < ts.length), rd_T35 (ts.map TkC.ofTok) (i : Int) = TkC.ofTok ts[i] := by
        intro i h
        unfold rd_T35
        simp [List.getD_eq_getElem?_getD, List.getElem?_eq_getElem h]
      have hne : ¬ IntKind.u64.wrap (ts.length : Int) = 0 := by
        simp only [IntKind.wrap, IntKind.bits, IntKind.signed]
        simp
        omega
      have hsecond : ts[i].kind ≠ 0 → ts[i].text ≠ [40, 40] → (∀ h : i - 1 < ts.length, 0 < i → ts[i - 1].text ≠ [33, 46] ∧ ts[i - 1].text ≠ [33, 58]) → Ev (fun k => cinnabarlaw01_TokensBlanks.j1 k (B l) y (ts.map TkC.ofTok) (i : Int) false) true := by
        intro hk h40 hprev
        obtain ⟨gi, hge, hg4⟩ := u64_four y
        obtain ⟨g, hg, hg20, hgB⟩ := gap_at gi hg4
        obtain ⟨j, hja, hjl, ts', hts', hkt⟩ := Gp.gap_law hq hl hT.sorted hin hk h40 hprev hg hg20
        have e1 : (B l).extract 0 (j : Int).toNat = B (l.take j) := by
          rw [extract_B, Int.toNat_natCast]
          rfl
        have e2 : (B l).extract (j : Int).toNat (B l).size = B (l.drop j) := by
          rw [Int.toNat_natCast, size_B]
          exact extract_drop l j
        have hat : (TkC.ofTok ts[i]).f2 = (j : Int) := hja
        have hlen : (l.take j ++ (g ++ l.drop j)).length = l.length + g.length := by simp; omega
        have hTk : TkC.Tokens.f (B (l.take j) ++ B g ++ B (l.drop j)) = some (ts'.map TkC.ofTok, 0, 0) := by
          rw [B_add, B_add, List.append_assoc]
          unfold TkC.Tokens.f
          rw [if_pos (by rw [size_B]; omega), B_data, hts']
        have hsame : Ev (fun k => cinnabarlaw01_Same.f k (ts.map TkC.ofTok) (ts'.map TkC.ofTok) false) true := by
          refine same_f (by rw [hL]; omega) ?_
          have e : ∀ us : List Tk.Tok, (us.map TkC.ofTok).map see = us.map Gp.kt := by
            intro us
            rw [List.map_map]
            refine List.map_congr_left fun t _ => ?_
            rfl
          rw [e, e, hkt]
        have hfin : Ev (fun k => (cinnabarlaw01_Same.f k (ts.map TkC.ofTok) (ts'.map TkC.ofTok) false).bind fun t => (if t = true then ((cinnabarlaw01_awake.f k).bind fun t => (some t)) else (some false))) true := by
          refine Ev.bind hsame ?_
          simp only [if_true]
          exact awake_some fun k => rfl
        refine Ev.step (fun k => ?_) hfin
        simp only [cinnabarlaw01_TokensBlanks.j1, Bool.false_eq_true, if_false, Option.bind_some, hge, hL, hrd i hin, hat]
        rw [show ([(⟨#[32]⟩ : ByteArray), (⟨#[10, 9]⟩ : ByteArray), (⟨#[32, 47, 42, 32, 97, 32, 37, 32, 98, 32, 10, 32, 42, 47, 32]⟩ : ByteArray), (⟨#[32, 37, 32, 99, 32, 39, 100, 32, 10]⟩ : ByteArray)] : List ByteArray) = gapB from rfl, hgB, e1, e2, hTk]
        rw [if_pos (by omega), if_pos (by show (gi : Int) < ((gapB.length : Nat) : Int); rw [show gapB.length = 4 from rfl]; omega), if_pos (by omega), if_pos (by omega), if_pos (by omega), if_pos (by rw [size_B]; omega)]
        rw [if_pos (by simp [size_B]; omega), if_pos (by rw [B_add]; simp only [size_B, List.length_append, List.length_take, List.length_drop]; omega)]
        simp only [Option.bind_some, if_true]
      by_cases hk : ts[i].kind = 0
      · refine Ev.step (fun k => ?_) (hj1 (ts.map TkC.ofTok) (i : Int))
        simp only [cinnabarlaw01_TokensBlanks.j0, Bool.false_eq_true, if_false, hL]
        rw [if_neg hne]
        simp only [hie, hrd i hin]
        rw [if_pos (by omega), if_pos (by omega), if_pos (by exact hk)]
      by_cases h40 : ts[i].text = [40, 40]
      · refine Ev.step (fun k => ?_) (hj1 (ts.map TkC.ofTok) (i : Int))
        simp only [cinnabarlaw01_TokensBlanks.j0, Bool.false_eq_true, if_false, hL]
        rw [if_neg hne]
        simp only [hie, hrd i hin]
        rw [if_pos (by omega), if_pos (by omega), if_neg (by exact hk), if_pos (by show (B ts[i].text).toList = _; rw [toList_B, h40])]
      have h40' : ¬ (TkC.ofTok ts[i]).f1.toList = [40, 40] := by
        show ¬ (B ts[i].text).toList = _
        rw [toList_B]
        exact h40
      by_cases hi0 : i = 0
      · refine Ev.step (fun k => ?_) (hsecond hk h40 (fun _ h => by omega))
        simp only [cinnabarlaw01_TokensBlanks.j0, Bool.false_eq_true, if_false, hL]
        rw [if_neg hne]
        simp only [hie, hrd i hin]
        rw [if_pos (by omega), if_pos (by omega), if_neg (by exact hk), if_neg h40', if_neg (by omega)]
      have w1 := hide (wrap_pred i (by omega) (by omega))
      have hi1 : i - 1 < ts.length := by omega
      by_cases h46 : ts[i - 1].text = [33, 46]
      · refine Ev.step (fun k => ?_) (hj1 (ts.map TkC.ofTok) (i : Int))
        simp only [cinnabarlaw01_TokensBlanks.j0, Bool.false_eq_true, if_false, hL]
        rw [if_neg hne]
        simp only [hie, hrd i hin, w1.out, hrd (i - 1) hi1]
        rw [if_pos (by omega), if_pos (by omega), if_neg (by exact hk), if_neg h40', if_pos (by omega), if_pos (by omega), if_pos (by omega), if_pos (by show (B ts[i - 1].text).toList = _; rw [toList_B, h46])]
      have h46' : ¬ (TkC.ofTok ts[i - 1]).f1.toList = [33, 46] := by
        show ¬ (B ts[i - 1].text).toList = _
        rw [toList_B]
        exact h46
      by_cases h58 : ts[i - 1].text = [33, 58]
      · refine Ev.step (fun k => ?_) (hj1 (ts.map TkC.ofTok) (i : Int))
        simp only [cinnabarlaw01_TokensBlanks.j0, Bool.false_eq_true, if_false, hL]
        rw [if_neg hne]
        simp only [hie, hrd i hin, w1.out, hrd (i - 1) hi1]
        rw [if_pos (by omega), if_pos (by omega), if_neg (by exact hk), if_neg h40', if_pos (by omega), if_pos (by omega), if_pos (by omega), if_neg h46']
        rw [show ((TkC.ofTok ts[i - 1]).f1.toList == [33, 58]) = true by show ((B ts[i - 1].text).toList == _) = true; rw [toList_B, h58]; rfl]
      · refine Ev.step (fun k => ?_) (hsecond hk h40 (fun _ _ => ⟨h46, h58⟩))
        simp only [cinnabarlaw01_TokensBlanks.j0, Bool.false_eq_true, if_false, hL]
        rw [if_neg hne]
        simp only [hie, hrd i hin, w1.out, hrd (i - 1) hi1]
        rw [if_pos (by omega), if_pos (by omega), if_neg (by exact hk), if_neg h40', if_pos (by omega), if_pos (by omega), if_pos (by omega), if_neg h46']
        rw [show ((TkC.ofTok ts[i - 1]).f1.toList == [33, 58]) = false by show ((B ts[i - 1].text).toList == _) = false; rw [toList_B]; simpa using h58]
end Go.Proofs.YtgeonilideojnaaGreatDoor.Lw
end
section
namespace Go.Proofs.YtgeonilideojnaaGreatDoor.Lw
open Go.ChangeShapes Go.WideShapes Go.ChangeAt Go.RowKit Go.Joins
open Go.ChangeMaps (open_string shut_string)
open Go.Proofs.YtgeonilideojnaaGreatDoor.Pr Go.Proofs.YtgeonilideojnaaGreatDoorW.PrintWords
set_option linter.unusedVariables false
set_option linter.unusedSimpArgs false
set_option maxRecDepth 100000 in
theorem tokensBlanks_lifted (os : Os) (started : os.Started) (H : Type) (enc : TypeId × Value → H) :
    ReturnsInHanded {} Tryz.checked os 7 .any (fun w args => (Rows.tokensBlanksSpec.pre enc Tryz.prog Tryz.f7 Rows.tokensBlanksRow.domain false w args ∧ laidMetH Tryz.prog laidL w) ∧ sizedMet enc Tryz.prog Tryz.f7 (OpenSpec.ofChange Rows.tokensBlanksSpec) false w args)
      (Rows.tokensBlanksSpec.post enc Tryz.prog Tryz.f7 false true false false) := by
  refine wrap_laid (C := Tryz.checked) (X := fun w _ => laidMetH Tryz.prog laidL w) (fun _ _ _ hh h => h.of_heap hh) own started (by kernel_rfl) Tryz.func7
    (ChangeSpec.witness_shaped (enc := enc) (C := Tryz.checked) (os := os) (X := fun w _ => laidMetH Tryz.prog laidL w) false (World.laidAll Tryz.prog os laidL) #[.string ByteArray.empty, .int .i64 0, .int .i64 0] 8 (World.laidAll_os _ _ _)
      (World.shaped_of_ZipB (by kernel_rfl) (by kernel_rfl)) (by kernel_rfl) (by kernel_rfl) (by kernel_rfl)
      (by rw [MakeChecks.laidMetH_plain _ _ _ (by kernel_rfl)]; exact laidMet_laidAll _ (by kernel_rfl) (by kernel_rfl))) ?_
  intro W base args ds gs before hval0 hW hsz0 hL hsh
  have hE := env_of hL hsh
  have hsz : (DataW.weightsEach Tryz.prog (Tryz.f7.params.toList ++ Rows.tokensBlanksSpec.plain.varTypes Tryz.prog) (ds ++ gs)).all (· ≤ reachBytes) = true := hsz0
  have hval : ∀ (j : Nat) t v, Tryz.f7.params[j]? = some t → args[j]? = some v → Value.okWide Tryz.prog W .any base t v := hval0
  have hW' := hW
  obtain ⟨p, q, hA0, hV, rfl, hfz, hnd⟩ := hW
  have hA : DataW.TrodAll enc Tryz.prog W 0 (fun _ => true) true Tryz.f7.params.toList args.toList ds p := hA0
  rw [Tryz.params7] at hA hval hsz
  obtain ⟨v0, vs0, d0, ds0, p0, q0, hargs, rfl, rfl, h0, r0⟩ := trodAll_cons hA
  obtain ⟨v1, vs1, d1, ds1, p1, q1, rfl, rfl, rfl, h1, r1⟩ := trodAll_cons r0
  obtain ⟨v2, vs2, d2, ds2, p2, q2, rfl, rfl, rfl, h2, r2⟩ := trodAll_cons r1
  obtain ⟨rfl, rfl, rfl⟩ := trodAll_nil r2
  obtain rfl : args = #[v0, v1, v2] := by cases args; simp_all
  obtain ⟨rfl, rfl⟩ := trodVars_none hV
  have k0 := h0
  have lt0 : ∀ x ∈ p0, x.block < W.heap.size := by obtain ⟨m, hm⟩ := k0; exact DataW.trod_lt m _ _ _ hm
  obtain ⟨a0, rfl, rfl, rfl, y0⟩ := open_string Tryz.underlying9 (hval 0 9 v0 rfl rfl) h0
  have w0 : a0.size ≤ 140737488351232 := by
    have z := sized_string hsz (j := 0) (t := 9) rfl rfl
    rw [Array.length_toList] at z
    exact z
  have k1 := h1
  have lt1 : ∀ x ∈ p1, x.block < W.heap.size := by obtain ⟨m, hm⟩ := k1; exact DataW.trod_lt m _ _ _ hm
  obtain ⟨a1, rfl, rfl, rfl, w1⟩ := open_int Tryz.underlying3 (hval 1 3 v1 rfl rfl) h1
  have k2 := h2
  have lt2 : ∀ x ∈ p2, x.block < W.heap.size := by obtain ⟨m, hm⟩ := k2; exact DataW.trod_lt m _ _ _ hm
  obtain ⟨a2, rfl, rfl, rfl, w2⟩ := open_int Tryz.underlying3 (hval 2 3 v2 rfl rfl) h2
  clear hA0 hval0 hsz0 hsz
  obtain ⟨k, hk⟩ := TokensBlanks_pure a0 w0 a1 w1 a2 w2
  refine (cinnabarlaw01_TokensBlanks.calls k a0 a1 a2 true W  hE hk).mono fun e W' ⟨he, bel⟩ => ?_
  subst he
  exact ⟨_, rfl, _, _, _, [], _, [], hW', trodAll_mk1 (shut_bool Tryz.underlying4 _), (trodAll_cons_mk (Below.trod laidOut (by kernel_rfl) (of_decide_eq_true (by kernel_rfl)) k0 bel lt0) (trodAll_cons_mk (Below.trod laidOut (by kernel_rfl) (of_decide_eq_true (by kernel_rfl)) k1 bel lt1) (trodAll_cons_mk (Below.trod laidOut (by kernel_rfl) (of_decide_eq_true (by kernel_rfl)) k2 bel lt2) trodAll_mk0))), rfl, bel.frame _, fun h => by cases h⟩
theorem tokensBlanks_over : Rows.tokensBlanksRow.holds Tryz.pinned (OpenSpec.ofChange Rows.tokensBlanksSpec) :=
  OpenClaim.holds_of_wide 7 Tryz.f7 rfl rfl rfl rfl rfl rfl rfl ⟨rfl, rfl, rfl, rfl, rfl⟩ rfl rfl rfl rfl rfl (by kernel_rfl) Tryz.func7 (by kernel_rfl)
    (of_decide_eq_true (by kernel_rfl)) (by unfold Func.isWrapper; first | (rw [if_pos (by decide +kernel)]; kernel_rfl) | (rw [if_neg (by decide +kernel)]; exact ⟨rfl, rfl⟩))
    (fun os started H enc _ => tokensBlanks_lifted os started H enc)
end Go.Proofs.YtgeonilideojnaaGreatDoor.Lw
namespace Go.Proofs.YtgeonilideojnaaGreatDoor
theorem tokensBlanks_card : Rows.TokensBlanksCardSaid :=
  Claim7.holds_tied_plain_at .later [] [.data, .data, .data, .data, .sentinel, .sentinel, .pinned] true (true, "665b99ac99360173511c14b8ca128cfc928be2ec3ee8f78b1c704b7227bf8d04") true Lw.tokensBlanks_over (fun _ h => by cases h) (by kernel_rfl) (fun _ h => by cases h) tokensBlanks_row_tie rfl ⟨rfl, rfl⟩ (by kernel_rfl) rfl
    (fun f fn hf hfn => by
      obtain rfl : f = 7 := Option.some.inj ((show Tryz.prog.funcNamed "cinnabar/cinnabarlaw01.TokensBlanks" = some 7 by kernel_rfl).symm.trans hf) |>.symm
      obtain rfl : fn = Tryz.f7 := (Option.some.inj (Tryz.func7.symm.trans hfn)).symm
      exact ⟨by kernel_rfl, fun j t ht => by
        rw [Tryz.params7] at ht
        have hm : t ∈ [9, 3, 3] := by simpa using Array.mem_of_getElem? ht
        have hall : ([9, 3, 3].all fun u => !Tryz.prog.wantsStandIn u) = true := by kernel_rfl
        exact (show Tryz.prog.wantsStandIn t = false by simpa using List.all_eq_true.1 hall t hm)⟩)
    (by kernel_rfl)
#print axioms tokensBlanks_card
end Go.Proofs.YtgeonilideojnaaGreatDoor
end
