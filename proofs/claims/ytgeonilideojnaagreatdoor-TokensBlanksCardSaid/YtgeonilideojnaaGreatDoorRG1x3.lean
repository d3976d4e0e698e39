/- A part of a proof over the package's statements: contracts of functions and plain facts, merged by a program of this session's. -/
import Derived.Laws.Rows
import Derived.Deep.RegionWith
import Derived.Test.YtgeonilideojnaaGreatDoorRG1x1
import Derived.Test.YtgeonilideojnaaGreatDoorRG1x2
section
namespace Go.Proofs.YtgeonilideojnaaGreatDoor.Tk
open Go Go.RowKit
set_option linter.unusedVariables false
set_option linter.unusedSimpArgs false
theorem pre_yes {p q : UInt8} {s : Bs} (h : ([p, q] : Bs).isPrefixOf s = true) : ∃ t, s = p :: q :: t := by
  match s, h with
  | [], h => simp [List.isPrefixOf] at h
  | [c], h => simp [List.isPrefixOf] at h
  | c :: d :: t, h =>
    simp [List.isPrefixOf] at h
    exact ⟨t, by rw [h.1, h.2]⟩
section
set_option maxHeartbeats 2000000
set_option maxRecDepth 100000
theorem skip_calls (b : Nat) (l : Bs) (i : Nat) (w : World) (hs : l.length ≤ 65536) (hi : i ≤ l.length) (hS : Sc w b l i) :
    Calls Tryz.prog 21 #[.pointer (some ⟨b, 0, none⟩)] w (ScPost w b l (fun _ : Unit => .tuple #[]) (skipS l i)) := by
  have hz := size_B l
  have HS := hide hS
  clear hS
  unfold skipS
  go_enter Tryz.func21, Tryz.ntmps21
  go_wp2_with fail
  go_loopw [] (fun wr => ∃ j, i ≤ j ∧ j ≤ l.length ∧ Sc wr b l j ∧ w.grownBy wr (some b) ∧ Hid (skipR 0 0 i (l.drop i) = skipR 0 0 j (l.drop j))) (fun wr => l.length - atOf wr b)
  case atStart => exact ⟨i, Nat.le_refl _, hi, HS.out, gb_refl _ _, rfl⟩
  case round =>
    clear HS
    obtain ⟨j, hij, hjl, hS, hg, Hq⟩ := hrel
    have h0 := hS.c0
    have h1 := hS.c1
    have h2 := hS.f1
    have HS := hide hS
    have Hg := hide hg
    clear hS hg
    cases hd : l.drop j with
    | nil =>
      rw [hd, skip0_nil] at Hq
      have hn := drop_nil hd
      have hlt : decide (j < l.length) = false := by simp; omega
      clear hd
      go_wp2
      go_quiet (fail)
      go_wp2
      go_end0
      rw [Hq.out]
      exact ⟨rfl, HS.out.drewN _, gb_drewN Hg.out _⟩
    | cons c t =>
      obtain ⟨hl, -, ht⟩ := drop_at hd
      have hb := B_get hd
      have hlt : decide (j < l.length) = true := by simpa using hl
      have hex := extract_drop l j
      rw [hd] at Hq hex
      cases hpre : ([47, 42] : Bs).isPrefixOf (c :: t) with
      | true =>
        obtain ⟨u, hu⟩ := pre_yes hpre
        have hbl : blank c = false := by injection hu with h _; rw [h]; decide
        have t1 : ((c.toNat : Int) == 37) = false := is_no (d := 37) rfl (by injection hu with h _; simp [h])
        have hlen : j + 2 ≤ l.length := by
          have h3 : (l.drop j).length = (47 :: 42 :: u).length := by rw [hd, hu]
          simp at h3
          try omega
        have hd2 : l.drop (j + 2) = u := by
          rw [← List.drop_drop, hd, hu]; rfl
        have Hq2 := hide (Hq.out.trans (show skipR 0 0 j (c :: t) = skipR 2 j (j + 2) u by rw [hu]; exact skip0_pre 0 j u))
        clear Hq
        have Hd2 := hide hd2
        clear hd2
        have hpx := hide (fun W => hpre ▸ HasPrefix_calls (c :: t) [47, 42] W)
        clear hd hpre hu
        go_wp2
        go_quiet (fail)
        go_wp2
        go_quiet (fail)
        go_wp2_with (first | (go_at_call 46; refine (blank_calls _ _).mono ?_; rintro e w' ⟨rfl, rfl⟩))
        go_quiet ((refine (hpx.out _).mono ?_; rintro e w' ⟨rfl, rfl⟩; exact ⟨rfl, _, rfl⟩))
        go_wp2_with fail
        obtain ⟨wo, rfl⟩ : ∃ wo : World, wo = wr := ⟨_, rfl⟩
        go_loopw [] (fun wi => ∃ k, j + 2 ≤ k ∧ k ≤ l.length ∧ Sc wi b l k ∧ w.grownBy wi (some b) ∧ Hid (skipR 0 0 i (l.drop i) = skipR 2 j k (l.drop k))) (fun wi => l.length - atOf wi b)
        case atStart => exact ⟨j + 2, Nat.le_refl _, hlen, (HS.out.drewN _).set (j + 2), gb_set (gb_drewN Hg.out _) (.inl rfl) _, show skipR 0 0 i (l.drop i) = skipR 2 j (j + 2) (l.drop (j + 2)) by rw [Hd2.out]; exact Hq2.out⟩
        case round =>
          clear h0 h1 h2
          obtain ⟨k, hjk, hkl, hS, hg, Hk⟩ := hrel
          have h0 := hS.c0
          have h1 := hS.c1
          have h2 := hS.f1
          have HSk := hide hS
          have Hgk := hide hg
          clear hS hg hb
          have hex := extract_drop l k
          cases hpre : ([42, 47] : Bs).isPrefixOf (l.drop k) with
          | true =>
            obtain ⟨u2, hu2⟩ := pre_yes hpre
            have hlen2 : k + 2 ≤ l.length := by
              have h3 : (l.drop k).length = (42 :: 47 :: u2).length := by rw [hu2]
              simp at h3
              omega
            have hd2 : l.drop (k + 2) = u2 := by rw [← List.drop_drop, hu2]; rfl
            have Hk2 := hide (show skipR 0 0 i (l.drop i) = skipR 0 0 (k + 2) (l.drop (k + 2)) from Hk.out.trans (by rw [hu2, hd2]; exact skip2_pre j k u2))
            have hpx2 := hide (fun W => hpre ▸ HasPrefix_calls (l.drop k) [42, 47] W)
            clear hpre hu2 hd2
            go_wp2
            go_quiet ((refine (hpx2.out _).mono ?_; rintro e w' ⟨rfl, rfl⟩; exact ⟨rfl, _, rfl⟩))
            go_wp2
            refine ⟨⟨k + 2, by omega, by omega, (HSk.out.drewN _).set (k + 2), gb_set (gb_drewN Hgk.out _) (.inl rfl) _, Hk2⟩, ?_⟩
            exact Sc.less HS.out ((HSk.out.drewN _).set (k + 2)) (by omega) hl
          | false =>
            have hpx2 := hide (fun W => hpre ▸ HasPrefix_calls (l.drop k) [42, 47] W)
            cases hdk : l.drop k with
            | nil =>
              have hn := drop_nil hdk
              have Hk2 := hide (Hk.out.trans (show skipR 2 j k (l.drop k) = .bad j 12 by rw [hdk]; exact skip2_nil j k))
              have hc := hide (fun (W : World) (h : Sc W b l k) => byteS_nil (f := j) hdk ▸ byte_calls b l k j W hs hkl (by omega) h)
              clear hpre hdk
              go_wp2
              go_quiet ((refine (hpx2.out _).mono ?_; rintro e w' ⟨rfl, rfl⟩; exact ⟨rfl, _, rfl⟩))
              go_wp2_with (first | (go_at_call 47; refine (hc.out _ (by exact HSk.out)).mono ?_; rintro e w1 ⟨rfl, hg1⟩))
              rw [Hk2.out]
              exact ⟨rfl, rfl, gb_trans (gb_drewN Hgk.out _) hg1⟩
            | cons x v =>
              obtain ⟨hlk, -, htk⟩ := drop_at hdk
              have Hk1 := hide (Hk.out.trans (show skipR 2 j k (l.drop k) = if permitted x then skipR 2 j (k + 1) v else .bad k 2 by rw [hdk]; exact skip2_cons j k x v (by rw [← hdk]; exact hpre)))
              cases hpx : permitted x with
              | false =>
                have Hk2 := hide (show skipR 0 0 i (l.drop i) = .bad k 2 from Hk1.out.trans (by simp [hpx]))
                have hc := hide (fun (W : World) (h : Sc W b l k) => byteS_bad (f := j) hdk hpx ▸ byte_calls b l k j W hs hkl (by omega) h)
                clear hpre hdk
                go_wp2
                go_quiet ((refine (hpx2.out _).mono ?_; rintro e w' ⟨rfl, rfl⟩; exact ⟨rfl, _, rfl⟩))
                go_wp2_with (first | (go_at_call 47; refine (hc.out _ (by exact HSk.out)).mono ?_; rintro e w1 ⟨rfl, hg1⟩))
                rw [Hk2.out]
                exact ⟨rfl, rfl, gb_trans (gb_drewN Hgk.out _) hg1⟩
              | true =>
                have Hk2 := hide (show skipR 0 0 i (l.drop i) = skipR 2 j (k + 1) (l.drop (k + 1)) from Hk1.out.trans (by simp [hpx, htk]))
                have hc := hide (fun (W : World) (h : Sc W b l k) => byteS_good (f := j) hdk hpx ▸ byte_calls b l k j W hs hkl (by omega) h)
                clear hpre hdk
                go_wp2
                go_quiet ((refine (hpx2.out _).mono ?_; rintro e w' ⟨rfl, rfl⟩; exact ⟨rfl, _, rfl⟩))
                go_wp2_with (first | (go_at_call 47; refine (hc.out _ (by exact HSk.out)).mono ?_; rintro e w1 ⟨rfl, hS1, hg1⟩))
                refine ⟨⟨k + 1, by omega, by omega, hS1, gb_trans (gb_drewN Hgk.out _) hg1, Hk2⟩, ?_⟩
                exact Sc.less HSk.out hS1 (by omega) hlk
      | false =>
        have Hq2 := hide (Hq.out.trans (skip0_cons 0 j c t hpre))
        clear Hq
        cases hbl : blank c with
        | true =>
          rw [hbl] at Hq2
          go_wp2
          go_quiet (fail)
          go_wp2
          go_quiet (fail)
          go_wp2_with (first | (go_at_call 46; refine (blank_calls _ _).mono ?_; rintro e w' ⟨rfl, rfl⟩))
          refine ⟨⟨j + 1, by omega, by omega, (HS.out.drewN _).set (j + 1), gb_set (gb_drewN Hg.out _) (.inl rfl) _, by rw [ht]; exact Hq2⟩, ?_⟩
          exact Sc.less HS.out ((HS.out.drewN _).set (j + 1)) (by omega) hl
        | false =>
          rw [hbl] at Hq2
          by_cases h37 : c = 37
          · have t1 : ((c.toNat : Int) == 37) = true := is_yes rfl h37
            have Hl := hide (show skipR 0 0 i (l.drop i) = skipR 1 0 j (l.drop j) from Hq2.out.trans (by rw [hd, skip1_cons, h37]; simp [permitted]))
            have Hd := hide hd
            have Hc := hide h37
            clear Hq2 hd hpre h37
            go_wp2
            go_quiet (fail)
            go_wp2
            go_quiet (fail)
            go_wp2_with (first | (go_at_call 46; refine (blank_calls _ _).mono ?_; rintro e w' ⟨rfl, rfl⟩))
            obtain ⟨wo, rfl⟩ : ∃ wo : World, wo = wr := ⟨_, rfl⟩
            go_loopw [] (fun wi => ∃ k, j ≤ k ∧ k ≤ l.length ∧ Sc wi b l k ∧ w.grownBy wi (some b) ∧ Hid (skipR 0 0 i (l.drop i) = skipR 1 0 k (l.drop k))) (fun wi => l.length - atOf wi b)
            case atStart => exact ⟨j, Nat.le_refl _, hjl, HS.out.drewN _, gb_drewN Hg.out _, Hl.out⟩
            case round =>
              clear h0 h1 h2
              obtain ⟨k, hjk, hkl, hS, hg, Hk⟩ := hrel
              have h0 := hS.c0
              have h1 := hS.c1
              have h2 := hS.f1
              have HSk := hide hS
              have Hgk := hide hg
              clear hS hg hb hex hlt
              cases hdk : l.drop k with
              | nil =>
                have hn := drop_nil hdk
                have hlt : decide ((k : Int) < (l.length : Int)) = false := by simp; omega
                have hlt2 : decide (k < l.length) = false := by simp; omega
                have Hk2 := hide (show skipR 0 0 i (l.drop i) = skipR 0 0 k (l.drop k) from Hk.out.trans (by rw [hdk, skip1_nil, skip0_nil]))
                clear hdk
                go_wp2
                go_quiet (fail)
                go_wp2
                refine ⟨⟨k, by omega, hkl, HSk.out.drewN _, gb_drewN Hgk.out _, Hk2⟩, ?_⟩
                exact Sc.less HS.out (HSk.out.drewN _) (by omega) hl
              | cons x v =>
                obtain ⟨hlk, -, htk⟩ := drop_at hdk
                have hbk := B_get hdk
                have hlt : decide ((k : Int) < (l.length : Int)) = true := by simp; omega
                have e2 : (0 : Int) ≤ (k : Int) := by omega
                by_cases h10 : x = 10
                · have hne : j ≠ k := by
                    rintro rfl
                    rw [Hd.out] at hdk
                    injection hdk with h3 _
                    rw [← h3, Hc.out] at h10
                    revert h10
                    decide
                  have t2 : ((x.toNat : Int) != 10) = false := isnt_no rfl h10
                  have Hk2 := hide (show skipR 0 0 i (l.drop i) = skipR 0 0 k (l.drop k) from Hk.out.trans (by
                    rw [hdk, skip1_cons, skip0_cons 0 k x v (by rw [h10]; simp [List.isPrefixOf]), if_pos h10, if_pos (by rw [h10]; rfl)]))
                  clear hdk h10
                  go_wp2
                  go_quiet (fail)
                  go_wp2
                  refine ⟨⟨k, by omega, hkl, HSk.out.drewN _, gb_drewN Hgk.out _, Hk2⟩, ?_⟩
                  exact Sc.less HS.out (HSk.out.drewN _) (by omega) hl
                · have t2 : ((x.toNat : Int) != 10) = true := isnt_yes rfl h10
                  have Hk1 := hide (Hk.out.trans (show skipR 1 0 k (l.drop k) = if permitted x then skipR 1 0 (k + 1) v else .bad k 2 by rw [hdk, skip1_cons, if_neg h10]))
                  cases hpx : permitted x with
                  | false =>
                    have Hk2 := hide (show skipR 0 0 i (l.drop i) = .bad k 2 from Hk1.out.trans (by simp [hpx]))
                    have hc := hide (fun (W : World) (h : Sc W b l k) => byteS_bad (f := k) hdk hpx ▸ byte_calls b l k k W hs hkl (by omega) h)
                    clear hdk h10
                    go_wp2
                    go_quiet (fail)
                    go_wp2_with (first | (go_at_call 47; refine (hc.out _ (by exact HSk.out)).mono ?_; rintro e w1 ⟨rfl, hg1⟩))
                    rw [Hk2.out]
                    exact ⟨rfl, rfl, gb_trans (gb_drewN Hgk.out _) hg1⟩
                  | true =>
                    have Hk2 := hide (show skipR 0 0 i (l.drop i) = skipR 1 0 (k + 1) (l.drop (k + 1)) from Hk1.out.trans (by simp [hpx, htk]))
                    have hc := hide (fun (W : World) (h : Sc W b l k) => byteS_good (f := k) hdk hpx ▸ byte_calls b l k k W hs hkl (by omega) h)
                    clear hdk h10
                    go_wp2
                    go_quiet (fail)
                    go_wp2_with (first | (go_at_call 47; refine (hc.out _ (by exact HSk.out)).mono ?_; rintro e w1 ⟨rfl, hS1, hg1⟩))
                    refine ⟨⟨k + 1, by omega, by omega, hS1, gb_trans (gb_drewN Hgk.out _) hg1, Hk2⟩, ?_⟩
                    exact Sc.less HSk.out hS1 (by omega) hlk
          · have t1 : ((c.toNat : Int) == 37) = false := is_no rfl h37
            have Hl := hide (show skipR 0 0 i (l.drop i) = .ok () j from Hq2.out.trans (by simp [h37]))
            have hpx := hide (fun W => hpre ▸ HasPrefix_calls (c :: t) [47, 42] W)
            clear Hq2 hd h37 hpre
            go_wp2
            go_quiet (fail)
            go_wp2
            go_quiet (fail)
            go_wp2_with (first | (go_at_call 46; refine (blank_calls _ _).mono ?_; rintro e w' ⟨rfl, rfl⟩))
            go_quiet ((refine (hpx.out _).mono ?_; rintro e w' ⟨rfl, rfl⟩; exact ⟨rfl, _, rfl⟩))
            go_wp2
            refine bodyPost_ret (results_none rfl _ _ _) rfl ?_
            rw [Hl.out]
            exact ⟨rfl, (HS.out.drewN _).drewN _, gb_drewN (gb_drewN Hg.out _) _⟩
end
end Go.Proofs.YtgeonilideojnaaGreatDoor.Tk
end
section
namespace Go.Proofs.YtgeonilideojnaaGreatDoor.Tk
open Go Go.RowKit
set_option linter.unusedVariables false
set_option linter.unusedSimpArgs false
theorem code_forget {P : Program} {c : Code} {Q : Exit → Act → World → Prop} {a : Act} {w : World} (F : World → Prop) (h0 : F w) (h : ∀ w, F w → Code.wp P c Q a w) : Code.wp P c Q a w := h w h0
def tokV (t : Tok) : Value := .agg #[.int .i64 t.kind, .string (B t.text), .int .i64 t.at_]
def tokC (k : Int) (s : Bs) (i : Int) : Array Value := #[.int .i64 k, .string (B s), .int .i64 i]
structure TkSt (w W : World) (b R T : Nat) (l : Bs) (i j : Nat) (k : Int) (s : Bs) : Prop where
  r : Blk W R 35 (tokC 0 [] 0)
  t : Blk W T 35 (tokC k s i)
  sc : Sc W b l j
  g : w.grownBy W (some b)
  hR : w.heap.size = R
  hT : w.heap.size + 1 = T
  hb : b < R
section
variable {w W W1 : World} {b R T : Nat} {l : Bs} {i j : Nat} {k : Int} {s : Bs}
theorem TkSt.c0 (h : TkSt w W b R T l i j k s) : W.cell? ⟨T, 0, none⟩ = some (.int .i64 k) := h.t.cell 0
theorem TkSt.c1 (h : TkSt w W b R T l i j k s) : W.cell? ⟨T, 1, none⟩ = some (.string (B s)) := h.t.cell 1
theorem TkSt.c2 (h : TkSt w W b R T l i j k s) : W.cell? ⟨T, 2, none⟩ = some (.int .i64 (i : Int)) := h.t.cell 2
theorem TkSt.r0 (h : TkSt w W b R T l i j k s) : W.cell? ⟨R, 0, none⟩ = some (.int .i64 0) := h.r.cell 0
theorem TkSt.r1 (h : TkSt w W b R T l i j k s) : W.cell? ⟨R, 1, none⟩ = some (.string (B [])) := h.r.cell 1
theorem TkSt.r2 (h : TkSt w W b R T l i j k s) : W.cell? ⟨R, 2, none⟩ = some (.int .i64 0) := h.r.cell 2
theorem TkSt.fT (h : TkSt w W b R T l i j k s) (n : Nat) : W.frozen? ⟨T, n, none⟩ = false := h.t.frozen n
theorem TkSt.fR (h : TkSt w W b R T l i j k s) (n : Nat) : W.frozen? ⟨R, n, none⟩ = false := h.r.frozen n
theorem TkSt.bT (h : TkSt w W b R T l i j k s) : b ≠ T := by have := h.hb; have := h.hR; have := h.hT; omega
theorem TkSt.Tb (h : TkSt w W b R T l i j k s) : T ≠ b := h.bT.symm
theorem TkSt.bR (h : TkSt w W b R T l i j k s) : b ≠ R := by have := h.hb; omega
theorem TkSt.Rb (h : TkSt w W b R T l i j k s) : R ≠ b := h.bR.symm
theorem TkSt.RT (h : TkSt w W b R T l i j k s) : R ≠ T := by have := h.hR; have := h.hT; omega
theorem TkSt.TR (h : TkSt w W b R T l i j k s) : T ≠ R := h.RT.symm
theorem TkSt.drewN (h : TkSt w W b R T l i j k s) (n : Nat) : TkSt w (W.drewN n) b R T l i j k s := ⟨h.r.drewN n, h.t.drewN n, h.sc.drewN n, gb_drewN h.g n, h.hR, h.hT, h.hb⟩
theorem TkSt.step (h : TkSt w W b R T l i j k s) {m : Nat} (hS : Sc W1 b l m) (hg : W.grownBy W1 (some b)) : TkSt w W1 b R T l i m k s :=
  ⟨h.r.grown hg (by have := h.Rb; simpa using this), h.t.grown hg (by have := h.Tb; simpa using this), hS, gb_trans h.g hg, h.hR, h.hT, h.hb⟩
theorem TkSt.kept (h : TkSt w W b R T l i j k s) (hg : W.grownBy W1 none) : TkSt w W1 b R T l i j k s := h.step (h.sc.kept hg) (gb_any hg _)
theorem TkSt.set0 (h : TkSt w W b R T l i j k s) (k1 : Int) : TkSt w (W.setCell ⟨T, 0, none⟩ (.int .i64 k1)) b R T l i j k1 s :=
  ⟨h.r.far h.RT _, h.t.put 0 _, h.sc.far h.bT _, gb_set h.g (.inr (by have := h.hT; simp; omega)) _, h.hR, h.hT, h.hb⟩
theorem TkSt.set1 (h : TkSt w W b R T l i j k s) (s1 : Bs) : TkSt w (W.setCell ⟨T, 1, none⟩ (.string (B s1))) b R T l i j k s1 :=
  ⟨h.r.far h.RT _, h.t.put 1 _, h.sc.far h.bT _, gb_set h.g (.inr (by have := h.hT; simp; omega)) _, h.hR, h.hT, h.hb⟩
theorem TkSt.at1 (h : TkSt w W b R T l i j k s) (m : Nat) : TkSt w (W.setCell ⟨b, 1, none⟩ (.int .i64 (m : Int))) b R T l i m k s :=
  ⟨h.r.far h.Rb _, h.t.far h.Tb _, h.sc.set m, gb_set h.g (.inl rfl) _, h.hR, h.hT, h.hb⟩
theorem TkSt.out (h : TkSt w W b R T l i j k s) : ∃ W2, W2 = ((W.setCell ⟨R, 0, none⟩ (.int .i64 k)).setCell ⟨R, 1, none⟩ (.string (B s))).setCell ⟨R, 2, none⟩ (.int .i64 (i : Int)) ∧ Blk W2 R 35 (tokC k s i) ∧ Sc W2 b l j ∧ w.grownBy W2 (some b) := by
  refine ⟨_, rfl, ((h.r.put 0 _).put 1 _).put 2 _, ((h.sc.far h.bR _).far h.bR _).far h.bR _, ?_⟩
  have hp : w.heap.size ≤ R := by have := h.hR; omega
  exact gb_set (gb_set (gb_set h.g (.inr hp) _) (.inr hp) _) (.inr hp) _
theorem TkSt.init (hS : Sc w b l i) : TkSt w ((w.alloc (.cells (tokC 0 [] 0) 35)).alloc (.cells (tokC 0 [] i) 35)) b w.heap.size (w.heap.size + 1) l i i 0 [] := by
  have e : (w.alloc (.cells (tokC 0 [] 0) 35)).heap.size = w.heap.size + 1 := Array.size_push ..
  refine ⟨(Blk.new w _ _).alloc _, ?_, (hS.alloc _).alloc _, gb_alloc (gb_alloc (gb_refl _ _) _) _, rfl, rfl, hS.lt⟩
  have := Blk.new (w.alloc (.cells (tokC 0 [] 0) 35)) 35 (tokC 0 [] i)
  rwa [e] at this
end
theorem tok_result {fn : Func} (h : fn.results = #[.cell 2 35]) (tmps : Array Value) (W : World) (R : Nat) (k : Int) (s : Bs) (i : Int) (hp : tmps.getD 2 undef = .pointer (some ⟨R, 0, none⟩)) (hB : Blk W R 35 (tokC k s i)) :
    (results fn tmps).run Tryz.prog W = .ok (tokV ⟨k, s, i⟩) W :=
  results_cell_row h tmps W R 35 (tokC k s i) (0, 0) _ hp hB Tryz.underlying35 rfl (by kernel_rfl)
theorem TkSt.done {w W : World} {b R T : Nat} {l : Bs} {i j : Nat} {k : Int} {s : Bs} (h : TkSt w W b R T l i j k s) {Rs : Tk.R Tok} (hq : Rs = .ok ⟨k, s, i⟩ j) (a : Act) (hd : a.defers = []) (hp : a.tmps.getD 2 undef = .pointer (some ⟨R, 0, none⟩)) :
    bodyPost Tryz.prog Tryz.f22 (ScPost w b l tokV Rs) .ret a (((W.setCell ⟨R, 0, none⟩ (.int .i64 k)).setCell ⟨R, 1, none⟩ (.string (B s))).setCell ⟨R, 2, none⟩ (.int .i64 (i : Int))) := by
  subst hq
  obtain ⟨W2, rfl, hB, hS, hg⟩ := h.out
  exact bodyPost_ret (tok_result rfl a.tmps _ R k s i hp hB) hd ⟨rfl, hS, hg⟩
theorem TkSt.env {w W : World} {b R T : Nat} {l : Bs} {i j : Nat} {k : Int} {s : Bs} (h : TkSt w W b R T l i j k s) (hE : Env w) (hsz : 8 ≤ w.heap.size) : Env W :=
  hE.grown h.g hsz (by intro k hk; cases hk; exact h.sc.ge)
theorem TkSt.size {w W : World} {b R T : Nat} {l : Bs} {i j : Nat} {k : Int} {s : Bs} (h : TkSt w W b R T l i j k s) (hsz : 8 ≤ w.heap.size) : 8 ≤ W.heap.size := Nat.le_trans hsz h.g.size
theorem err_two (r : Nat) : r = 0 ∨ ((r : Int) != 0) = true := by
  rcases Nat.eq_zero_or_pos r with h | h
  · exact .inl h
  · right; simp; omega
theorem cut_le (l : Bs) (i j : Nat) : (cut l i j).length ≤ l.length := by
  unfold cut; simp; omega
def fin (i : Nat) : Tk.R Tok → Tk.R Tok
  | .bad a e => .bad a e
  | .ok t j => if checkS t.kind t.text = 0 then .ok t j else .bad i (checkS t.kind t.text)
theorem tokenS_cons {l : Bs} {i : Nat} {c : UInt8} {t : Bs} (hd : l.drop i = c :: t) : tokenS l i = fin i (tokenRaw l i c) := by
  unfold tokenS
  rw [hd]
  show (match tokenRaw l i c with | .bad a e => Tk.R.bad a e | .ok t j => if checkS t.kind t.text = 0 then .ok t j else .bad i (checkS t.kind t.text)) = _
  cases tokenRaw l i c <;> rfl
def fin0 (r : Nat) (t : Tok) (j i : Nat) : Tk.R Tok := if r = 0 then .ok t j else .bad i r
theorem fin0_zero (t : Tok) (j i : Nat) : fin0 0 t j i = .ok t j := rfl
theorem fin0_pos {r : Nat} (t : Tok) (j i : Nat) (h : ((r : Int) != 0) = true) : fin0 r t j i = .bad i r := by
  unfold fin0
  rw [if_neg (by rintro rfl; simp at h)]
theorem conv1_at (c : UInt8) (W : World) (g : Nat) (h : Blk W g 5 #[.int .u8 (c.toNat : Int)]) : (convert 53 9 (.slice (some ⟨g, 0, none⟩) 1 1)).run Tryz.prog W = .ok (.string (B [c])) W := by
  rw [← strOfNums_B]
  refine run_convert_bytes_arg _ 53 5 Tryz.underlying53 Tryz.underlying5 g 0 1 1 [(c.toNat : Int)] rfl (fun i hi => ?_) 9 Tryz.underlying9
  obtain rfl : i = 0 := by omega
  exact Blk.cell h 0
theorem conv1_drew (c : UInt8) (W : World) : (convert 53 9 (.slice (some ⟨W.heap.size, 0, none⟩) 1 1)).run Tryz.prog (W.alloc (.cells #[.int .u8 (c.toNat : Int)] 5)).drew = .ok (.string (B [c])) (W.alloc (.cells #[.int .u8 (c.toNat : Int)] 5)).drew :=
  conv1_at c _ _ (Blk.new W 5 #[.int .u8 (c.toNat : Int)])
theorem conv1_set (c : UInt8) (W : World) (T : Nat) (v : Value) (hT : T ≠ W.heap.size) : (convert 53 9 (.slice (some ⟨W.heap.size, 0, none⟩) 1 1)).run Tryz.prog ((W.alloc (.cells #[.int .u8 (c.toNat : Int)] 5)).setCell ⟨T, 0, none⟩ v).drew = .ok (.string (B [c])) ((W.alloc (.cells #[.int .u8 (c.toNat : Int)] 5)).setCell ⟨T, 0, none⟩ v).drew :=
  conv1_at c _ _ ((Blk.new W 5 #[.int .u8 (c.toNat : Int)]).far (Ne.symm hT) v)
theorem conv1_pre (c : UInt8) (W : World) (p : Addr) (v : Value) : (convert 53 9 (.slice (some ⟨W.heap.size, 0, none⟩) 1 1)).run Tryz.prog ((W.setCell p v).alloc (.cells #[.int .u8 (c.toNat : Int)] 5)).drew = .ok (.string (B [c])) ((W.setCell p v).alloc (.cells #[.int .u8 (c.toNat : Int)] 5)).drew := by
  have h := conv1_drew c (W.setCell p v)
  rwa [show (W.setCell p v).heap.size = W.heap.size by simp [World.setCell]] at h
section
set_option maxHeartbeats 2000000
set_option maxRecDepth 100000
theorem token_end (b : Nat) (l : Bs) (i : Nat) (w : World) (hs : l.length ≤ 65536) (hi : i ≤ l.length) (hS : Sc w b l i) (hd : l.drop i = []) :
    Calls Tryz.prog 22 #[.pointer (some ⟨b, 0, none⟩)] w (ScPost w b l tokV (.ok ⟨0, [], i⟩ i)) := by
  have hz := size_B l
  have h0 := hS.c0
  have h1 := hS.c1
  have h2 := hS.f1
  have hlt := hS.lt
  have HS := hide (TkSt.init hS)
  clear hS
  have hn := drop_nil hd
  have hge : decide (l.length ≤ i) = true := by simpa using hn
  clear hd
  go_enter Tryz.func22, Tryz.ntmps22
  go_wp2_with fail
  refine code_forget (fun W => TkSt w W b w.heap.size (w.heap.size + 1) l i i 0 []) HS.out ?_
  generalize hR : w.heap.size = R
  generalize hT : R + 1 = T
  clear HS h0 h1 h2
  intro W HS
  have h0 := HS.sc.c0
  have h1 := HS.sc.c1
  have t0 := HS.c0
  have t1 := HS.c1
  have t2 := HS.c2
  have r0 := HS.r0
  have r1 := HS.r1
  have r2 := HS.r2
  have fR := HS.fR
  have n1 := HS.RT
  replace HS := hide HS
  go_quiet (fail)
  go_wp2_with fail
  exact (HS.out.drewN nq).done rfl _ rfl rfl
end
end Go.Proofs.YtgeonilideojnaaGreatDoor.Tk
end
section
namespace Go.Proofs.YtgeonilideojnaaGreatDoor.Tk
open Go Go.RowKit
set_option linter.unusedVariables false
set_option linter.unusedSimpArgs false
section
set_option maxHeartbeats 4000000
set_option maxRecDepth 100000
theorem token_var (b : Nat) (l : Bs) (i : Nat) (c : UInt8) (t : Bs) (w : World) (hs : l.length ≤ 65536) (hS : Sc w b l i) (hE : Env w) (hsz : 8 ≤ w.heap.size) (hd : l.drop i = c :: t) (k1 : small c = false) (k2 : capital c = true)  :
    Calls Tryz.prog 22 #[.pointer (some ⟨b, 0, none⟩)] w (ScPost w b l tokV (fin i (.ok ⟨2, cut l i (i + spanLen letter (l.drop i)), i⟩ (i + spanLen letter (l.drop i))))) := by
  have hz := size_B l
  have h0 := hS.c0
  have h1 := hS.c1
  have h2 := hS.f1
  have hlt := hS.lt
  have HS := hide (TkSt.init hS)
  have HE := hide hE
  have hg := B_get hd
  obtain ⟨hl, -, ht⟩ := drop_at hd
  have hge : decide (l.length ≤ i) = false := by simp; omega
  obtain ⟨Rs, hRs⟩ : ∃ Rs : Tk.R Tok, Rs = (fin i (.ok ⟨2, cut l i (i + spanLen letter (l.drop i)), i⟩ (i + spanLen letter (l.drop i)))) := ⟨_, rfl⟩
  rw [← hRs]
  obtain ⟨r, hr⟩ : ∃ r, r = checkS 2 (cut l i (i + spanLen letter (l.drop i))) := ⟨_, rfl⟩
  have hq := hide (show Rs = fin0 r ⟨2, cut l i (i + spanLen letter (l.drop i)), i⟩ (i + spanLen letter (l.drop i)) i by rw [hRs, hr]; rfl)
  have hls : (cut l i (i + spanLen letter (l.drop i))).length ≤ 65536 := Nat.le_trans (cut_le ..) hs
  replace hr := hide hr
  have hrun := hide (fun W hW => run_letter b l i W hs (Nat.le_of_lt hl) hW)
  have a0 := hide (fun W => k1 ▸ small_calls c W)
  have a1 := hide (fun W => k2 ▸ capital_calls c W)
  clear hRs
  generalize hss : cut l i (i + spanLen letter (l.drop i)) = s at hq hr hls hrun
  generalize hjj : i + spanLen letter (l.drop i) = j at hq hrun
  have HD := hide hd
  clear hS hE hd ht
  go_enter Tryz.func22, Tryz.ntmps22
  go_wp2_with fail
  refine code_forget (fun W => TkSt w W b w.heap.size (w.heap.size + 1) l i i 0 []) HS.out ?_
  generalize hR : w.heap.size = R
  generalize hT : R + 1 = T
  clear HS h0 h1 h2
  intro W HS
  have t0 := HS.c0; have t1 := HS.c1; have t2 := HS.c2; have t3 := HS.r0; have t4 := HS.r1; have t5 := HS.r2; have t6 := HS.sc.c0; have t7 := HS.sc.c1; have t8 := HS.sc.f1; have t9 := HS.fR; have t10 := HS.fT
  have n1 := HS.RT
  have n2 := HS.bT
  have n3 := HS.bR
  have n4 := HS.TR
  have n5 := HS.Tb
  have n6 := HS.Rb
  replace HS := hide HS
  go_quiet (fail)
  go_wp2_with fail
  go_quiet (fail)
  go_wp2_with (first | (go_at_call 49; refine (a0.out _).mono ?_; rintro e w' ⟨rfl, rfl⟩) | (go_at_call 53; refine (a1.out _).mono ?_; rintro e w' ⟨rfl, rfl⟩) | (go_at_call 50; refine (hrun.out _ (by exact HS.out.sc)).mono ?_; rintro e W1 ⟨rfl, hS1, hg1⟩; have HS1 := ((HS.out.drewN _).step hS1 hg1); have x0 := HS1.c0; have x1 := HS1.c1; have x2 := HS1.c2; have x3 := HS1.r0; have x4 := HS1.r1; have x5 := HS1.r2; have x6 := HS1.sc.c0; have x7 := HS1.sc.c1; have x8 := HS1.sc.f1; have x9 := HS1.fR; have x10 := HS1.fT; replace HS1 := hide HS1) | (go_at_call 16; refine (Check_calls 2 s i _ rfl hls (by exact ((HS1.out.set0 2).set1 s).env HE.out hsz) (by exact ((HS1.out.set0 2).set1 s).size hsz)).mono ?_; rintro e W3 ⟨he, hg3⟩; rw [← hr.out] at he; subst he; have HS3 := (((HS1.out.set0 2).set1 s).kept hg3); have y0 := HS3.c0; have y1 := HS3.c1; have y2 := HS3.c2; have y3 := HS3.r0; have y4 := HS3.r1; have y5 := HS3.r2; have y6 := HS3.sc.c0; have y7 := HS3.sc.c1; have y8 := HS3.sc.f1; have y9 := HS3.fR; have y10 := HS3.fT; replace HS3 := hide HS3; rcases err_two r with rfl | hr1) | (go_at_call 58; refine (stop_calls b _ _ _).mono ?_; rintro e w' ⟨rfl, rfl⟩))
  · exact HS3.out.done (by rw [hq.out, fin0_zero]) _ rfl rfl
  · rw [show Rs = .bad i r by rw [hq.out, fin0_pos _ _ _ hr1]]
    exact ⟨rfl, rfl, HS3.out.g⟩
theorem token_int (b : Nat) (l : Bs) (i : Nat) (c : UInt8) (t : Bs) (w : World) (hs : l.length ≤ 65536) (hS : Sc w b l i) (hE : Env w) (hsz : 8 ≤ w.heap.size) (hd : l.drop i = c :: t) (k1 : small c = false) (k2 : capital c = false) (e48 : ((c.toNat : Int) == 48) = false) (k3 : digit c = true)  :
    Calls Tryz.prog 22 #[.pointer (some ⟨b, 0, none⟩)] w (ScPost w b l tokV (fin i (.ok ⟨3, cut l i (i + spanLen digit (l.drop i)), i⟩ (i + spanLen digit (l.drop i))))) := by
  have hz := size_B l
  have h0 := hS.c0
  have h1 := hS.c1
  have h2 := hS.f1
  have hlt := hS.lt
  have HS := hide (TkSt.init hS)
  have HE := hide hE
  have hg := B_get hd
  obtain ⟨hl, -, ht⟩ := drop_at hd
  have hge : decide (l.length ≤ i) = false := by simp; omega
  obtain ⟨Rs, hRs⟩ : ∃ Rs : Tk.R Tok, Rs = (fin i (.ok ⟨3, cut l i (i + spanLen digit (l.drop i)), i⟩ (i + spanLen digit (l.drop i)))) := ⟨_, rfl⟩
  rw [← hRs]
  obtain ⟨r, hr⟩ : ∃ r, r = checkS 3 (cut l i (i + spanLen digit (l.drop i))) := ⟨_, rfl⟩
  have hq := hide (show Rs = fin0 r ⟨3, cut l i (i + spanLen digit (l.drop i)), i⟩ (i + spanLen digit (l.drop i)) i by rw [hRs, hr]; rfl)
  have hls : (cut l i (i + spanLen digit (l.drop i))).length ≤ 65536 := Nat.le_trans (cut_le ..) hs
  replace hr := hide hr
  have hrun := hide (fun W hW => run_digit b l i W hs (Nat.le_of_lt hl) hW)
  have a0 := hide (fun W => k1 ▸ small_calls c W)
  have a1 := hide (fun W => k2 ▸ capital_calls c W)
  have a3 := hide (fun W => k3 ▸ digit_calls c W)
  clear hRs
  generalize hss : cut l i (i + spanLen digit (l.drop i)) = s at hq hr hls hrun
  generalize hjj : i + spanLen digit (l.drop i) = j at hq hrun
  have HD := hide hd
  clear hS hE hd ht
  go_enter Tryz.func22, Tryz.ntmps22
  go_wp2_with fail
  refine code_forget (fun W => TkSt w W b w.heap.size (w.heap.size + 1) l i i 0 []) HS.out ?_
  generalize hR : w.heap.size = R
  generalize hT : R + 1 = T
  clear HS h0 h1 h2
  intro W HS
  have t0 := HS.c0; have t1 := HS.c1; have t2 := HS.c2; have t3 := HS.r0; have t4 := HS.r1; have t5 := HS.r2; have t6 := HS.sc.c0; have t7 := HS.sc.c1; have t8 := HS.sc.f1; have t9 := HS.fR; have t10 := HS.fT
  have n1 := HS.RT
  have n2 := HS.bT
  have n3 := HS.bR
  have n4 := HS.TR
  have n5 := HS.Tb
  have n6 := HS.Rb
  replace HS := hide HS
  go_quiet (fail)
  go_wp2_with fail
  go_quiet (fail)
  go_wp2_with (first | (go_at_call 49; refine (a0.out _).mono ?_; rintro e w' ⟨rfl, rfl⟩) | (go_at_call 53; refine (a1.out _).mono ?_; rintro e w' ⟨rfl, rfl⟩) | (go_at_call 55; refine (a3.out _).mono ?_; rintro e w' ⟨rfl, rfl⟩) | (go_at_call 50; refine (hrun.out _ (by exact HS.out.sc)).mono ?_; rintro e W1 ⟨rfl, hS1, hg1⟩; have HS1 := ((HS.out.drewN _).step hS1 hg1); have x0 := HS1.c0; have x1 := HS1.c1; have x2 := HS1.c2; have x3 := HS1.r0; have x4 := HS1.r1; have x5 := HS1.r2; have x6 := HS1.sc.c0; have x7 := HS1.sc.c1; have x8 := HS1.sc.f1; have x9 := HS1.fR; have x10 := HS1.fT; replace HS1 := hide HS1) | (go_at_call 16; refine (Check_calls 3 s i _ rfl hls (by exact ((HS1.out.set0 3).set1 s).env HE.out hsz) (by exact ((HS1.out.set0 3).set1 s).size hsz)).mono ?_; rintro e W3 ⟨he, hg3⟩; rw [← hr.out] at he; subst he; have HS3 := (((HS1.out.set0 3).set1 s).kept hg3); have y0 := HS3.c0; have y1 := HS3.c1; have y2 := HS3.c2; have y3 := HS3.r0; have y4 := HS3.r1; have y5 := HS3.r2; have y6 := HS3.sc.c0; have y7 := HS3.sc.c1; have y8 := HS3.sc.f1; have y9 := HS3.fR; have y10 := HS3.fT; replace HS3 := hide HS3; rcases err_two r with rfl | hr1) | (go_at_call 58; refine (stop_calls b _ _ _).mono ?_; rintro e w' ⟨rfl, rfl⟩))
  · exact HS3.out.done (by rw [hq.out, fin0_zero]) _ rfl rfl
  · rw [show Rs = .bad i r by rw [hq.out, fin0_pos _ _ _ hr1]]
    exact ⟨rfl, rfl, HS3.out.g⟩
theorem token_int0 (b : Nat) (l : Bs) (i : Nat) (c : UInt8) (t : Bs) (w : World) (hs : l.length ≤ 65536) (hS : Sc w b l i) (hE : Env w) (hsz : 8 ≤ w.heap.size) (hd : l.drop i = c :: t) (k1 : small c = false) (k2 : capital c = false) (e48 : ((c.toNat : Int) == 48) = true) (ep : (((pk l (i + 1)).toNat : Int) == 39) = false) (k3 : digit c = true)  :
    Calls Tryz.prog 22 #[.pointer (some ⟨b, 0, none⟩)] w (ScPost w b l tokV (fin i (.ok ⟨3, cut l i (i + spanLen digit (l.drop i)), i⟩ (i + spanLen digit (l.drop i))))) := by
  have hz := size_B l
  have h0 := hS.c0
  have h1 := hS.c1
  have h2 := hS.f1
  have hlt := hS.lt
  have HS := hide (TkSt.init hS)
  have HE := hide hE
  have hg := B_get hd
  obtain ⟨hl, -, ht⟩ := drop_at hd
  have hge : decide (l.length ≤ i) = false := by simp; omega
  obtain ⟨Rs, hRs⟩ : ∃ Rs : Tk.R Tok, Rs = (fin i (.ok ⟨3, cut l i (i + spanLen digit (l.drop i)), i⟩ (i + spanLen digit (l.drop i)))) := ⟨_, rfl⟩
  rw [← hRs]
  obtain ⟨r, hr⟩ : ∃ r, r = checkS 3 (cut l i (i + spanLen digit (l.drop i))) := ⟨_, rfl⟩
  have hq := hide (show Rs = fin0 r ⟨3, cut l i (i + spanLen digit (l.drop i)), i⟩ (i + spanLen digit (l.drop i)) i by rw [hRs, hr]; rfl)
  have hls : (cut l i (i + spanLen digit (l.drop i))).length ≤ 65536 := Nat.le_trans (cut_le ..) hs
  replace hr := hide hr
  have hrun := hide (fun W hW => run_digit b l i W hs (Nat.le_of_lt hl) hW)
  have a0 := hide (fun W => k1 ▸ small_calls c W)
  have a1 := hide (fun W => k2 ▸ capital_calls c W)
  obtain ⟨q, hqq⟩ : ∃ q, q = pk l (i + 1) := ⟨_, rfl⟩
  have ap : ∀ W, Sc W b l i → Calls Tryz.prog 52 #[.pointer (some ⟨b, 0, none⟩), .int .i64 1] W fun r w' => r = .returned (.int .u8 (q.toNat : Int)) ∧ ∃ n, w' = W.drewN n := by
    intro W hW
    rw [hqq]
    exact peek_any b l i 1 W hs (Nat.le_of_lt hl) (by decide) (by decide) hW
  rw [← hqq] at ep
  clear hqq
  replace ap := hide ap
  have a4 := hide (fun W => k3 ▸ digit_calls c W)
  clear hRs
  generalize hss : cut l i (i + spanLen digit (l.drop i)) = s at hq hr hls hrun
  generalize hjj : i + spanLen digit (l.drop i) = j at hq hrun
  have HD := hide hd
  clear hS hE hd ht
  go_enter Tryz.func22, Tryz.ntmps22
  go_wp2_with fail
  refine code_forget (fun W => TkSt w W b w.heap.size (w.heap.size + 1) l i i 0 []) HS.out ?_
  generalize hR : w.heap.size = R
  generalize hT : R + 1 = T
  clear HS h0 h1 h2
  intro W HS
  have t0 := HS.c0; have t1 := HS.c1; have t2 := HS.c2; have t3 := HS.r0; have t4 := HS.r1; have t5 := HS.r2; have t6 := HS.sc.c0; have t7 := HS.sc.c1; have t8 := HS.sc.f1; have t9 := HS.fR; have t10 := HS.fT
  have n1 := HS.RT
  have n2 := HS.bT
  have n3 := HS.bR
  have n4 := HS.TR
  have n5 := HS.Tb
  have n6 := HS.Rb
  replace HS := hide HS
  go_quiet (fail)
  go_wp2_with fail
  go_quiet (fail)
  go_wp2_with (first | (go_at_call 49; refine (a0.out _).mono ?_; rintro e w' ⟨rfl, rfl⟩) | (go_at_call 53; refine (a1.out _).mono ?_; rintro e w' ⟨rfl, rfl⟩) | (go_at_call 52; refine (ap.out _ (by exact HS.out.sc)).mono ?_; rintro e w' ⟨rfl, nd, rfl⟩) | (go_at_call 55; refine (a4.out _).mono ?_; rintro e w' ⟨rfl, rfl⟩) | (go_at_call 50; refine (hrun.out _ (by exact HS.out.sc)).mono ?_; rintro e W1 ⟨rfl, hS1, hg1⟩; have HS1 := ((HS.out.drewN _).step hS1 hg1); have x0 := HS1.c0; have x1 := HS1.c1; have x2 := HS1.c2; have x3 := HS1.r0; have x4 := HS1.r1; have x5 := HS1.r2; have x6 := HS1.sc.c0; have x7 := HS1.sc.c1; have x8 := HS1.sc.f1; have x9 := HS1.fR; have x10 := HS1.fT; replace HS1 := hide HS1) | (go_at_call 16; refine (Check_calls 3 s i _ rfl hls (by exact ((HS1.out.set0 3).set1 s).env HE.out hsz) (by exact ((HS1.out.set0 3).set1 s).size hsz)).mono ?_; rintro e W3 ⟨he, hg3⟩; rw [← hr.out] at he; subst he; have HS3 := (((HS1.out.set0 3).set1 s).kept hg3); have y0 := HS3.c0; have y1 := HS3.c1; have y2 := HS3.c2; have y3 := HS3.r0; have y4 := HS3.r1; have y5 := HS3.r2; have y6 := HS3.sc.c0; have y7 := HS3.sc.c1; have y8 := HS3.sc.f1; have y9 := HS3.fR; have y10 := HS3.fT; replace HS3 := hide HS3; rcases err_two r with rfl | hr1) | (go_at_call 58; refine (stop_calls b _ _ _).mono ?_; rintro e w' ⟨rfl, rfl⟩))
  · exact HS3.out.done (by rw [hq.out, fin0_zero]) _ rfl rfl
  · rw [show Rs = .bad i r by rw [hq.out, fin0_pos _ _ _ hr1]]
    exact ⟨rfl, rfl, HS3.out.g⟩
theorem token_char (b : Nat) (l : Bs) (i : Nat) (c : UInt8) (t : Bs) (w : World) (hs : l.length ≤ 65536) (hS : Sc w b l i) (hE : Env w) (hsz : 8 ≤ w.heap.size) (hd : l.drop i = c :: t) (k1 : small c = false) (k2 : capital c = false) (e48 : ((c.toNat : Int) == 48) = true) (ep : (((pk l (i + 1)).toNat : Int) == 39) = true) (s : Bs) (j : Nat) (hx : charS l i = .ok s j) (hls0 : s.length ≤ 65536) (h2l : i + 2 ≤ l.length) :
    Calls Tryz.prog 22 #[.pointer (some ⟨b, 0, none⟩)] w (ScPost w b l tokV (fin i (.ok ⟨4, s, i⟩ (j)))) := by
  have hz := size_B l
  have h0 := hS.c0
  have h1 := hS.c1
  have h2 := hS.f1
  have hlt := hS.lt
  have HS := hide (TkSt.init hS)
  have HE := hide hE
  have hg := B_get hd
  obtain ⟨hl, -, ht⟩ := drop_at hd
  have hge : decide (l.length ≤ i) = false := by simp; omega
  obtain ⟨Rs, hRs⟩ : ∃ Rs : Tk.R Tok, Rs = (fin i (.ok ⟨4, s, i⟩ (j))) := ⟨_, rfl⟩
  rw [← hRs]
  obtain ⟨r, hr⟩ : ∃ r, r = checkS 4 (s) := ⟨_, rfl⟩
  have hq := hide (show Rs = fin0 r ⟨4, s, i⟩ (j) i by rw [hRs, hr]; rfl)
  have hls : (s).length ≤ 65536 := hls0
  replace hr := hide hr
  have hrun := hide (fun W hW => hx ▸ char_calls b l i W hs h2l hW)
  have a0 := hide (fun W => k1 ▸ small_calls c W)
  have a1 := hide (fun W => k2 ▸ capital_calls c W)
  obtain ⟨q, hqq⟩ : ∃ q, q = pk l (i + 1) := ⟨_, rfl⟩
  have ap : ∀ W, Sc W b l i → Calls Tryz.prog 52 #[.pointer (some ⟨b, 0, none⟩), .int .i64 1] W fun r w' => r = .returned (.int .u8 (q.toNat : Int)) ∧ ∃ n, w' = W.drewN n := by
    intro W hW
    rw [hqq]
    exact peek_any b l i 1 W hs (Nat.le_of_lt hl) (by decide) (by decide) hW
  rw [← hqq] at ep
  clear hqq
  replace ap := hide ap
  clear hRs
  have HD := hide hd
  clear hS hE hd ht
  go_enter Tryz.func22, Tryz.ntmps22
  go_wp2_with fail
  refine code_forget (fun W => TkSt w W b w.heap.size (w.heap.size + 1) l i i 0 []) HS.out ?_
  generalize hR : w.heap.size = R
  generalize hT : R + 1 = T
  clear HS h0 h1 h2
  intro W HS
  have t0 := HS.c0; have t1 := HS.c1; have t2 := HS.c2; have t3 := HS.r0; have t4 := HS.r1; have t5 := HS.r2; have t6 := HS.sc.c0; have t7 := HS.sc.c1; have t8 := HS.sc.f1; have t9 := HS.fR; have t10 := HS.fT
  have n1 := HS.RT
  have n2 := HS.bT
  have n3 := HS.bR
  have n4 := HS.TR
  have n5 := HS.Tb
  have n6 := HS.Rb
  replace HS := hide HS
  go_quiet (fail)
  go_wp2_with fail
  go_quiet (fail)
  go_wp2_with (first | (go_at_call 49; refine (a0.out _).mono ?_; rintro e w' ⟨rfl, rfl⟩) | (go_at_call 53; refine (a1.out _).mono ?_; rintro e w' ⟨rfl, rfl⟩) | (go_at_call 52; refine (ap.out _ (by exact HS.out.sc)).mono ?_; rintro e w' ⟨rfl, nd, rfl⟩) | (go_at_call 54; refine (hrun.out _ (by exact HS.out.sc)).mono ?_; rintro e W1 ⟨rfl, hS1, hg1⟩; have HS1 := ((HS.out.drewN _).step hS1 hg1); have x0 := HS1.c0; have x1 := HS1.c1; have x2 := HS1.c2; have x3 := HS1.r0; have x4 := HS1.r1; have x5 := HS1.r2; have x6 := HS1.sc.c0; have x7 := HS1.sc.c1; have x8 := HS1.sc.f1; have x9 := HS1.fR; have x10 := HS1.fT; replace HS1 := hide HS1) | (go_at_call 16; refine (Check_calls 4 s i _ rfl hls (by exact ((HS1.out.set0 4).set1 s).env HE.out hsz) (by exact ((HS1.out.set0 4).set1 s).size hsz)).mono ?_; rintro e W3 ⟨he, hg3⟩; rw [← hr.out] at he; subst he; have HS3 := (((HS1.out.set0 4).set1 s).kept hg3); have y0 := HS3.c0; have y1 := HS3.c1; have y2 := HS3.c2; have y3 := HS3.r0; have y4 := HS3.r1; have y5 := HS3.r2; have y6 := HS3.sc.c0; have y7 := HS3.sc.c1; have y8 := HS3.sc.f1; have y9 := HS3.fR; have y10 := HS3.fT; replace HS3 := hide HS3; rcases err_two r with rfl | hr1) | (go_at_call 58; refine (stop_calls b _ _ _).mono ?_; rintro e w' ⟨rfl, rfl⟩))
  · exact HS3.out.done (by rw [hq.out, fin0_zero]) _ rfl rfl
  · rw [show Rs = .bad i r by rw [hq.out, fin0_pos _ _ _ hr1]]
    exact ⟨rfl, rfl, HS3.out.g⟩
theorem token_char_bad (b : Nat) (l : Bs) (i : Nat) (c : UInt8) (t : Bs) (w : World) (hs : l.length ≤ 65536) (hS : Sc w b l i) (hE : Env w) (hsz : 8 ≤ w.heap.size) (hd : l.drop i = c :: t) (k1 : small c = false) (k2 : capital c = false) (e48 : ((c.toNat : Int) == 48) = true) (ep : (((pk l (i + 1)).toNat : Int) == 39) = true) (a e : Nat) (hx : charS l i = .bad a e) (h2l : i + 2 ≤ l.length) :
    Calls Tryz.prog 22 #[.pointer (some ⟨b, 0, none⟩)] w (ScPost w b l tokV (fin i (.bad a e))) := by
  have hz := size_B l
  have h0 := hS.c0
  have h1 := hS.c1
  have h2 := hS.f1
  have hlt := hS.lt
  have HS := hide (TkSt.init hS)
  have HE := hide hE
  have hg := B_get hd
  obtain ⟨hl, -, ht⟩ := drop_at hd
  have hge : decide (l.length ≤ i) = false := by simp; omega
  obtain ⟨Rs, hRs⟩ : ∃ Rs : Tk.R Tok, Rs = (fin i (.bad a e)) := ⟨_, rfl⟩
  rw [← hRs]
  have hrun := hide (fun W hW => hx ▸ char_calls b l i W hs h2l hW)
  have hq := hide hRs
  have a0 := hide (fun W => k1 ▸ small_calls c W)
  have a1 := hide (fun W => k2 ▸ capital_calls c W)
  obtain ⟨q, hqq⟩ : ∃ q, q = pk l (i + 1) := ⟨_, rfl⟩
  have ap : ∀ W, Sc W b l i → Calls Tryz.prog 52 #[.pointer (some ⟨b, 0, none⟩), .int .i64 1] W fun r w' => r = .returned (.int .u8 (q.toNat : Int)) ∧ ∃ n, w' = W.drewN n := by
    intro W hW
    rw [hqq]
    exact peek_any b l i 1 W hs (Nat.le_of_lt hl) (by decide) (by decide) hW
  rw [← hqq] at ep
  clear hqq
  replace ap := hide ap
  clear hRs
  have HD := hide hd
  clear hS hE hd ht
  go_enter Tryz.func22, Tryz.ntmps22
  go_wp2_with fail
  refine code_forget (fun W => TkSt w W b w.heap.size (w.heap.size + 1) l i i 0 []) HS.out ?_
  generalize hR : w.heap.size = R
  generalize hT : R + 1 = T
  clear HS h0 h1 h2
  intro W HS
  have t0 := HS.c0; have t1 := HS.c1; have t2 := HS.c2; have t3 := HS.r0; have t4 := HS.r1; have t5 := HS.r2; have t6 := HS.sc.c0; have t7 := HS.sc.c1; have t8 := HS.sc.f1; have t9 := HS.fR; have t10 := HS.fT
  have n1 := HS.RT
  have n2 := HS.bT
  have n3 := HS.bR
  have n4 := HS.TR
  have n5 := HS.Tb
  have n6 := HS.Rb
  replace HS := hide HS
  go_quiet (fail)
  go_wp2_with fail
  go_quiet (fail)
  go_wp2_with (first | (go_at_call 49; refine (a0.out _).mono ?_; rintro e w' ⟨rfl, rfl⟩) | (go_at_call 53; refine (a1.out _).mono ?_; rintro e w' ⟨rfl, rfl⟩) | (go_at_call 52; refine (ap.out _ (by exact HS.out.sc)).mono ?_; rintro e w' ⟨rfl, nd, rfl⟩) | (go_at_call 54; refine (hrun.out _ (by exact HS.out.sc)).mono ?_; rintro e W1 ⟨rfl, hg1⟩))
  rw [hq.out]
  exact ⟨rfl, rfl, gb_trans (HS.out.drewN _).g hg1⟩
end
end Go.Proofs.YtgeonilideojnaaGreatDoor.Tk
end
section
namespace Go.Proofs.YtgeonilideojnaaGreatDoor.Tk
open Go Go.RowKit
set_option linter.unusedVariables false
set_option linter.unusedSimpArgs false
section
set_option maxHeartbeats 4000000
set_option maxRecDepth 100000
theorem token_text (b : Nat) (l : Bs) (i : Nat) (c : UInt8) (t : Bs) (w : World) (hs : l.length ≤ 65536) (hS : Sc w b l i) (hE : Env w) (hsz : 8 ≤ w.heap.size) (hd : l.drop i = c :: t) (k1 : small c = false) (k2 : capital c = false) (e48 : ((c.toNat : Int) == 48) = false) (k3 : digit c = false) (e34 : ((c.toNat : Int) == 34) = true) (s : Bs) (j : Nat) (hx : quotedS 34 [110, 116, 92, 34] l i = .ok s j) (hls0 : s.length ≤ 65536) :
    Calls Tryz.prog 22 #[.pointer (some ⟨b, 0, none⟩)] w (ScPost w b l tokV (fin i (.ok ⟨5, s, i⟩ (j)))) := by
  have hz := size_B l
  have h0 := hS.c0
  have h1 := hS.c1
  have h2 := hS.f1
  have hlt := hS.lt
  have HS := hide (TkSt.init hS)
  have HE := hide hE
  have hg := B_get hd
  obtain ⟨hl, -, ht⟩ := drop_at hd
  have hge : decide (l.length ≤ i) = false := by simp; omega
  obtain ⟨Rs, hRs⟩ : ∃ Rs : Tk.R Tok, Rs = (fin i (.ok ⟨5, s, i⟩ (j))) := ⟨_, rfl⟩
  rw [← hRs]
  obtain ⟨r, hr⟩ : ∃ r, r = checkS 5 (s) := ⟨_, rfl⟩
  have hq := hide (show Rs = fin0 r ⟨5, s, i⟩ (j) i by rw [hRs, hr]; rfl)
  have hls : (s).length ≤ 65536 := hls0
  replace hr := hide hr
  have hrun := hide (fun W hW => hx ▸ quoted_calls b l [110, 116, 92, 34] 34 i W hs hl hW)
  have a0 := hide (fun W => k1 ▸ small_calls c W)
  have a1 := hide (fun W => k2 ▸ capital_calls c W)
  have a3 := hide (fun W => k3 ▸ digit_calls c W)
  clear hRs
  have HD := hide hd
  clear hS hE hd ht
  go_enter Tryz.func22, Tryz.ntmps22
  go_wp2_with fail
  refine code_forget (fun W => TkSt w W b w.heap.size (w.heap.size + 1) l i i 0 []) HS.out ?_
  generalize hR : w.heap.size = R
  generalize hT : R + 1 = T
  clear HS h0 h1 h2
  intro W HS
  have t0 := HS.c0; have t1 := HS.c1; have t2 := HS.c2; have t3 := HS.r0; have t4 := HS.r1; have t5 := HS.r2; have t6 := HS.sc.c0; have t7 := HS.sc.c1; have t8 := HS.sc.f1; have t9 := HS.fR; have t10 := HS.fT
  have n1 := HS.RT
  have n2 := HS.bT
  have n3 := HS.bR
  have n4 := HS.TR
  have n5 := HS.Tb
  have n6 := HS.Rb
  replace HS := hide HS
  go_quiet (fail)
  go_wp2_with fail
  go_quiet (fail)
  go_wp2_with (first | (go_at_call 49; refine (a0.out _).mono ?_; rintro e w' ⟨rfl, rfl⟩) | (go_at_call 53; refine (a1.out _).mono ?_; rintro e w' ⟨rfl, rfl⟩) | (go_at_call 55; refine (a3.out _).mono ?_; rintro e w' ⟨rfl, rfl⟩) | (go_at_call 56; refine (hrun.out _ (by exact HS.out.sc)).mono ?_; rintro e W1 ⟨rfl, hS1, hg1⟩; have HS1 := ((HS.out.drewN _).step hS1 hg1); have x0 := HS1.c0; have x1 := HS1.c1; have x2 := HS1.c2; have x3 := HS1.r0; have x4 := HS1.r1; have x5 := HS1.r2; have x6 := HS1.sc.c0; have x7 := HS1.sc.c1; have x8 := HS1.sc.f1; have x9 := HS1.fR; have x10 := HS1.fT; replace HS1 := hide HS1) | (go_at_call 16; refine (Check_calls 5 s i _ rfl hls (by exact ((HS1.out.set0 5).set1 s).env HE.out hsz) (by exact ((HS1.out.set0 5).set1 s).size hsz)).mono ?_; rintro e W3 ⟨he, hg3⟩; rw [← hr.out] at he; subst he; have HS3 := (((HS1.out.set0 5).set1 s).kept hg3); have y0 := HS3.c0; have y1 := HS3.c1; have y2 := HS3.c2; have y3 := HS3.r0; have y4 := HS3.r1; have y5 := HS3.r2; have y6 := HS3.sc.c0; have y7 := HS3.sc.c1; have y8 := HS3.sc.f1; have y9 := HS3.fR; have y10 := HS3.fT; replace HS3 := hide HS3; rcases err_two r with rfl | hr1) | (go_at_call 58; refine (stop_calls b _ _ _).mono ?_; rintro e w' ⟨rfl, rfl⟩))
  · exact HS3.out.done (by rw [hq.out, fin0_zero]) _ rfl rfl
  · rw [show Rs = .bad i r by rw [hq.out, fin0_pos _ _ _ hr1]]
    exact ⟨rfl, rfl, HS3.out.g⟩
theorem token_text_bad (b : Nat) (l : Bs) (i : Nat) (c : UInt8) (t : Bs) (w : World) (hs : l.length ≤ 65536) (hS : Sc w b l i) (hE : Env w) (hsz : 8 ≤ w.heap.size) (hd : l.drop i = c :: t) (k1 : small c = false) (k2 : capital c = false) (e48 : ((c.toNat : Int) == 48) = false) (k3 : digit c = false) (e34 : ((c.toNat : Int) == 34) = true) (a e : Nat) (hx : quotedS 34 [110, 116, 92, 34] l i = .bad a e) :
    Calls Tryz.prog 22 #[.pointer (some ⟨b, 0, none⟩)] w (ScPost w b l tokV (fin i (.bad a e))) := by
  have hz := size_B l
  have h0 := hS.c0
  have h1 := hS.c1
  have h2 := hS.f1
  have hlt := hS.lt
  have HS := hide (TkSt.init hS)
  have HE := hide hE
  have hg := B_get hd
  obtain ⟨hl, -, ht⟩ := drop_at hd
  have hge : decide (l.length ≤ i) = false := by simp; omega
  obtain ⟨Rs, hRs⟩ : ∃ Rs : Tk.R Tok, Rs = (fin i (.bad a e)) := ⟨_, rfl⟩
  rw [← hRs]
  have hrun := hide (fun W hW => hx ▸ quoted_calls b l [110, 116, 92, 34] 34 i W hs hl hW)
  have hq := hide hRs
  have a0 := hide (fun W => k1 ▸ small_calls c W)
  have a1 := hide (fun W => k2 ▸ capital_calls c W)
  have a3 := hide (fun W => k3 ▸ digit_calls c W)
  clear hRs
  have HD := hide hd
  clear hS hE hd ht
  go_enter Tryz.func22, Tryz.ntmps22
  go_wp2_with fail
  refine code_forget (fun W => TkSt w W b w.heap.size (w.heap.size + 1) l i i 0 []) HS.out ?_
  generalize hR : w.heap.size = R
  generalize hT : R + 1 = T
  clear HS h0 h1 h2
  intro W HS
  have t0 := HS.c0; have t1 := HS.c1; have t2 := HS.c2; have t3 := HS.r0; have t4 := HS.r1; have t5 := HS.r2; have t6 := HS.sc.c0; have t7 := HS.sc.c1; have t8 := HS.sc.f1; have t9 := HS.fR; have t10 := HS.fT
  have n1 := HS.RT
  have n2 := HS.bT
  have n3 := HS.bR
  have n4 := HS.TR
  have n5 := HS.Tb
  have n6 := HS.Rb
  replace HS := hide HS
  go_quiet (fail)
  go_wp2_with fail
  go_quiet (fail)
  go_wp2_with (first | (go_at_call 49; refine (a0.out _).mono ?_; rintro e w' ⟨rfl, rfl⟩) | (go_at_call 53; refine (a1.out _).mono ?_; rintro e w' ⟨rfl, rfl⟩) | (go_at_call 55; refine (a3.out _).mono ?_; rintro e w' ⟨rfl, rfl⟩) | (go_at_call 56; refine (hrun.out _ (by exact HS.out.sc)).mono ?_; rintro e W1 ⟨rfl, hg1⟩))
  rw [hq.out]
  exact ⟨rfl, rfl, gb_trans (HS.out.drewN _).g hg1⟩
end
end Go.Proofs.YtgeonilideojnaaGreatDoor.Tk
end
section
namespace Go.Proofs.YtgeonilideojnaaGreatDoor.Tk
open Go Go.RowKit
set_option linter.unusedVariables false
set_option linter.unusedSimpArgs false
section
set_option maxHeartbeats 4000000
set_option maxRecDepth 100000
theorem token_quoted (b : Nat) (l : Bs) (i : Nat) (c : UInt8) (t : Bs) (w : World) (hs : l.length ≤ 65536) (hS : Sc w b l i) (hE : Env w) (hsz : 8 ≤ w.heap.size) (hd : l.drop i = c :: t) (k1 : small c = false) (k2 : capital c = false) (e48 : ((c.toNat : Int) == 48) = false) (k3 : digit c = false) (e34 : ((c.toNat : Int) == 34) = false) (e39 : ((c.toNat : Int) == 39) = true) (s : Bs) (j : Nat) (hx : quotedS 39 [92, 39] l i = .ok s j) (hls0 : s.length ≤ 65536) (ke : s.isEmpty = false) (kd : s.contains 46 = false) :
    Calls Tryz.prog 22 #[.pointer (some ⟨b, 0, none⟩)] w (ScPost w b l tokV (fin i (.ok ⟨1, s, i⟩ (j)))) := by
  have hz := size_B l
  have h0 := hS.c0
  have h1 := hS.c1
  have h2 := hS.f1
  have hlt := hS.lt
  have HS := hide (TkSt.init hS)
  have HE := hide hE
  have hg := B_get hd
  obtain ⟨hl, -, ht⟩ := drop_at hd
  have hge : decide (l.length ≤ i) = false := by simp; omega
  obtain ⟨Rs, hRs⟩ : ∃ Rs : Tk.R Tok, Rs = (fin i (.ok ⟨1, s, i⟩ (j))) := ⟨_, rfl⟩
  rw [← hRs]
  obtain ⟨r, hr⟩ : ∃ r, r = checkS 1 (s) := ⟨_, rfl⟩
  have hq := hide (show Rs = fin0 r ⟨1, s, i⟩ (j) i by rw [hRs, hr]; rfl)
  have hls : (s).length ≤ 65536 := hls0
  replace hr := hide hr
  have htl := toList_B s
  have act := hide (fun W => kd ▸ Contains_calls s 46 W)
  have hrun := hide (fun W hW => hx ▸ quoted_calls b l [92, 39] 39 i W hs hl hW)
  have a0 := hide (fun W => k1 ▸ small_calls c W)
  have a1 := hide (fun W => k2 ▸ capital_calls c W)
  have a3 := hide (fun W => k3 ▸ digit_calls c W)
  clear hRs
  have HD := hide hd
  clear hS hE hd ht
  go_enter Tryz.func22, Tryz.ntmps22
  go_wp2_with fail
  refine code_forget (fun W => TkSt w W b w.heap.size (w.heap.size + 1) l i i 0 []) HS.out ?_
  generalize hR : w.heap.size = R
  generalize hT : R + 1 = T
  clear HS h0 h1 h2
  intro W HS
  have t0 := HS.c0; have t1 := HS.c1; have t2 := HS.c2; have t3 := HS.r0; have t4 := HS.r1; have t5 := HS.r2; have t6 := HS.sc.c0; have t7 := HS.sc.c1; have t8 := HS.sc.f1; have t9 := HS.fR; have t10 := HS.fT
  have n1 := HS.RT
  have n2 := HS.bT
  have n3 := HS.bR
  have n4 := HS.TR
  have n5 := HS.Tb
  have n6 := HS.Rb
  replace HS := hide HS
  go_quiet (fail)
  go_wp2_with fail
  go_quiet (fail)
  go_wp2_with (first | (go_at_call 49; refine (a0.out _).mono ?_; rintro e w' ⟨rfl, rfl⟩) | (go_at_call 53; refine (a1.out _).mono ?_; rintro e w' ⟨rfl, rfl⟩) | (go_at_call 55; refine (a3.out _).mono ?_; rintro e w' ⟨rfl, rfl⟩) | (go_at_call 56; refine (hrun.out _ (by exact HS.out.sc)).mono ?_; rintro e W1 ⟨rfl, hS1, hg1⟩; have HS1 := ((HS.out.drewN _).step hS1 hg1); have x0 := HS1.c0; have x1 := HS1.c1; have x2 := HS1.c2; have x3 := HS1.r0; have x4 := HS1.r1; have x5 := HS1.r2; have x6 := HS1.sc.c0; have x7 := HS1.sc.c1; have x8 := HS1.sc.f1; have x9 := HS1.fR; have x10 := HS1.fT; replace HS1 := hide HS1) | (go_at_call 57; refine (act.out _).mono ?_; rintro e w' ⟨rfl, rfl⟩) | (go_at_call 16; refine (Check_calls 1 s i _ rfl hls (by exact ((HS1.out.set0 1).set1 s).env HE.out hsz) (by exact ((HS1.out.set0 1).set1 s).size hsz)).mono ?_; rintro e W3 ⟨he, hg3⟩; rw [← hr.out] at he; subst he; have HS3 := (((HS1.out.set0 1).set1 s).kept hg3); have y0 := HS3.c0; have y1 := HS3.c1; have y2 := HS3.c2; have y3 := HS3.r0; have y4 := HS3.r1; have y5 := HS3.r2; have y6 := HS3.sc.c0; have y7 := HS3.sc.c1; have y8 := HS3.sc.f1; have y9 := HS3.fR; have y10 := HS3.fT; replace HS3 := hide HS3; rcases err_two r with rfl | hr1) | (go_at_call 58; refine (stop_calls b _ _ _).mono ?_; rintro e w' ⟨rfl, rfl⟩))
  · exact HS3.out.done (by rw [hq.out, fin0_zero]) _ rfl rfl
  · rw [show Rs = .bad i r by rw [hq.out, fin0_pos _ _ _ hr1]]
    exact ⟨rfl, rfl, HS3.out.g⟩
theorem token_quoted_empty (b : Nat) (l : Bs) (i : Nat) (c : UInt8) (t : Bs) (w : World) (hs : l.length ≤ 65536) (hS : Sc w b l i) (hE : Env w) (hsz : 8 ≤ w.heap.size) (hd : l.drop i = c :: t) (k1 : small c = false) (k2 : capital c = false) (e48 : ((c.toNat : Int) == 48) = false) (k3 : digit c = false) (e34 : ((c.toNat : Int) == 34) = false) (e39 : ((c.toNat : Int) == 39) = true) (s : Bs) (j : Nat) (hx : quotedS 39 [92, 39] l i = .ok s j) (hls0 : s.length ≤ 65536) (ke : s.isEmpty = true) :
    Calls Tryz.prog 22 #[.pointer (some ⟨b, 0, none⟩)] w (ScPost w b l tokV (fin i (.bad i 11))) := by
  have hz := size_B l
  have h0 := hS.c0
  have h1 := hS.c1
  have h2 := hS.f1
  have hlt := hS.lt
  have HS := hide (TkSt.init hS)
  have HE := hide hE
  have hg := B_get hd
  obtain ⟨hl, -, ht⟩ := drop_at hd
  have hge : decide (l.length ≤ i) = false := by simp; omega
  obtain ⟨Rs, hRs⟩ : ∃ Rs : Tk.R Tok, Rs = (fin i (.bad i 11)) := ⟨_, rfl⟩
  rw [← hRs]
  have hq := hide hRs
  have htl := toList_B s
  have hrun := hide (fun W hW => hx ▸ quoted_calls b l [92, 39] 39 i W hs hl hW)
  have a0 := hide (fun W => k1 ▸ small_calls c W)
  have a1 := hide (fun W => k2 ▸ capital_calls c W)
  have a3 := hide (fun W => k3 ▸ digit_calls c W)
  clear hRs
  have HD := hide hd
  clear hS hE hd ht
  go_enter Tryz.func22, Tryz.ntmps22
  go_wp2_with fail
  refine code_forget (fun W => TkSt w W b w.heap.size (w.heap.size + 1) l i i 0 []) HS.out ?_
  generalize hR : w.heap.size = R
  generalize hT : R + 1 = T
  clear HS h0 h1 h2
  intro W HS
  have t0 := HS.c0; have t1 := HS.c1; have t2 := HS.c2; have t3 := HS.r0; have t4 := HS.r1; have t5 := HS.r2; have t6 := HS.sc.c0; have t7 := HS.sc.c1; have t8 := HS.sc.f1; have t9 := HS.fR; have t10 := HS.fT
  have n1 := HS.RT
  have n2 := HS.bT
  have n3 := HS.bR
  have n4 := HS.TR
  have n5 := HS.Tb
  have n6 := HS.Rb
  replace HS := hide HS
  go_quiet (fail)
  go_wp2_with fail
  go_quiet (fail)
  go_wp2_with (first | (go_at_call 49; refine (a0.out _).mono ?_; rintro e w' ⟨rfl, rfl⟩) | (go_at_call 53; refine (a1.out _).mono ?_; rintro e w' ⟨rfl, rfl⟩) | (go_at_call 55; refine (a3.out _).mono ?_; rintro e w' ⟨rfl, rfl⟩) | (go_at_call 56; refine (hrun.out _ (by exact HS.out.sc)).mono ?_; rintro e W1 ⟨rfl, hS1, hg1⟩; have HS1 := ((HS.out.drewN _).step hS1 hg1); have x0 := HS1.c0; have x1 := HS1.c1; have x2 := HS1.c2; have x3 := HS1.r0; have x4 := HS1.r1; have x5 := HS1.r2; have x6 := HS1.sc.c0; have x7 := HS1.sc.c1; have x8 := HS1.sc.f1; have x9 := HS1.fR; have x10 := HS1.fT; replace HS1 := hide HS1) | (go_at_call 58; refine (stop_calls b _ _ _).mono ?_; rintro e w' ⟨rfl, rfl⟩))
  rw [hq.out]
  exact ⟨rfl, rfl, ((HS1.out.set0 1).set1 s).g⟩
theorem token_quoted_dot (b : Nat) (l : Bs) (i : Nat) (c : UInt8) (t : Bs) (w : World) (hs : l.length ≤ 65536) (hS : Sc w b l i) (hE : Env w) (hsz : 8 ≤ w.heap.size) (hd : l.drop i = c :: t) (k1 : small c = false) (k2 : capital c = false) (e48 : ((c.toNat : Int) == 48) = false) (k3 : digit c = false) (e34 : ((c.toNat : Int) == 34) = false) (e39 : ((c.toNat : Int) == 39) = true) (s : Bs) (j : Nat) (hx : quotedS 39 [92, 39] l i = .ok s j) (hls0 : s.length ≤ 65536) (ke : s.isEmpty = false) (kd : s.contains 46 = true) :
    Calls Tryz.prog 22 #[.pointer (some ⟨b, 0, none⟩)] w (ScPost w b l tokV (fin i (.bad i 11))) := by
  have hz := size_B l
  have h0 := hS.c0
  have h1 := hS.c1
  have h2 := hS.f1
  have hlt := hS.lt
  have HS := hide (TkSt.init hS)
  have HE := hide hE
  have hg := B_get hd
  obtain ⟨hl, -, ht⟩ := drop_at hd
  have hge : decide (l.length ≤ i) = false := by simp; omega
  obtain ⟨Rs, hRs⟩ : ∃ Rs : Tk.R Tok, Rs = (fin i (.bad i 11)) := ⟨_, rfl⟩
  rw [← hRs]
  have hq := hide hRs
  have htl := toList_B s
  have act := hide (fun W => kd ▸ Contains_calls s 46 W)
  have hrun := hide (fun W hW => hx ▸ quoted_calls b l [92, 39] 39 i W hs hl hW)
  have a0 := hide (fun W => k1 ▸ small_calls c W)
  have a1 := hide (fun W => k2 ▸ capital_calls c W)
  have a3 := hide (fun W => k3 ▸ digit_calls c W)
  clear hRs
  have HD := hide hd
  clear hS hE hd ht
  go_enter Tryz.func22, Tryz.ntmps22
  go_wp2_with fail
  refine code_forget (fun W => TkSt w W b w.heap.size (w.heap.size + 1) l i i 0 []) HS.out ?_
  generalize hR : w.heap.size = R
  generalize hT : R + 1 = T
  clear HS h0 h1 h2
  intro W HS
  have t0 := HS.c0; have t1 := HS.c1; have t2 := HS.c2; have t3 := HS.r0; have t4 := HS.r1; have t5 := HS.r2; have t6 := HS.sc.c0; have t7 := HS.sc.c1; have t8 := HS.sc.f1; have t9 := HS.fR; have t10 := HS.fT
  have n1 := HS.RT
  have n2 := HS.bT
  have n3 := HS.bR
  have n4 := HS.TR
  have n5 := HS.Tb
  have n6 := HS.Rb
  replace HS := hide HS
  go_quiet (fail)
  go_wp2_with fail
  go_quiet (fail)
  go_wp2_with (first | (go_at_call 49; refine (a0.out _).mono ?_; rintro e w' ⟨rfl, rfl⟩) | (go_at_call 53; refine (a1.out _).mono ?_; rintro e w' ⟨rfl, rfl⟩) | (go_at_call 55; refine (a3.out _).mono ?_; rintro e w' ⟨rfl, rfl⟩) | (go_at_call 56; refine (hrun.out _ (by exact HS.out.sc)).mono ?_; rintro e W1 ⟨rfl, hS1, hg1⟩; have HS1 := ((HS.out.drewN _).step hS1 hg1); have x0 := HS1.c0; have x1 := HS1.c1; have x2 := HS1.c2; have x3 := HS1.r0; have x4 := HS1.r1; have x5 := HS1.r2; have x6 := HS1.sc.c0; have x7 := HS1.sc.c1; have x8 := HS1.sc.f1; have x9 := HS1.fR; have x10 := HS1.fT; replace HS1 := hide HS1) | (go_at_call 57; refine (act.out _).mono ?_; rintro e w' ⟨rfl, rfl⟩) | (go_at_call 58; refine (stop_calls b _ _ _).mono ?_; rintro e w' ⟨rfl, rfl⟩))
  rw [hq.out]
  exact ⟨rfl, rfl, ((HS1.out.set0 1).set1 s).g⟩
theorem token_quoted_bad (b : Nat) (l : Bs) (i : Nat) (c : UInt8) (t : Bs) (w : World) (hs : l.length ≤ 65536) (hS : Sc w b l i) (hE : Env w) (hsz : 8 ≤ w.heap.size) (hd : l.drop i = c :: t) (k1 : small c = false) (k2 : capital c = false) (e48 : ((c.toNat : Int) == 48) = false) (k3 : digit c = false) (e34 : ((c.toNat : Int) == 34) = false) (e39 : ((c.toNat : Int) == 39) = true) (a e : Nat) (hx : quotedS 39 [92, 39] l i = .bad a e) :
    Calls Tryz.prog 22 #[.pointer (some ⟨b, 0, none⟩)] w (ScPost w b l tokV (fin i (.bad a e))) := by
  have hz := size_B l
  have h0 := hS.c0
  have h1 := hS.c1
  have h2 := hS.f1
  have hlt := hS.lt
  have HS := hide (TkSt.init hS)
  have HE := hide hE
  have hg := B_get hd
  obtain ⟨hl, -, ht⟩ := drop_at hd
  have hge : decide (l.length ≤ i) = false := by simp; omega
  obtain ⟨Rs, hRs⟩ : ∃ Rs : Tk.R Tok, Rs = (fin i (.bad a e)) := ⟨_, rfl⟩
  rw [← hRs]
  have hrun := hide (fun W hW => hx ▸ quoted_calls b l [92, 39] 39 i W hs hl hW)
  have hq := hide hRs
  have a0 := hide (fun W => k1 ▸ small_calls c W)
  have a1 := hide (fun W => k2 ▸ capital_calls c W)
  have a3 := hide (fun W => k3 ▸ digit_calls c W)
  clear hRs
  have HD := hide hd
  clear hS hE hd ht
  go_enter Tryz.func22, Tryz.ntmps22
  go_wp2_with fail
  refine code_forget (fun W => TkSt w W b w.heap.size (w.heap.size + 1) l i i 0 []) HS.out ?_
  generalize hR : w.heap.size = R
  generalize hT : R + 1 = T
  clear HS h0 h1 h2
  intro W HS
  have t0 := HS.c0; have t1 := HS.c1; have t2 := HS.c2; have t3 := HS.r0; have t4 := HS.r1; have t5 := HS.r2; have t6 := HS.sc.c0; have t7 := HS.sc.c1; have t8 := HS.sc.f1; have t9 := HS.fR; have t10 := HS.fT
  have n1 := HS.RT
  have n2 := HS.bT
  have n3 := HS.bR
  have n4 := HS.TR
  have n5 := HS.Tb
  have n6 := HS.Rb
  replace HS := hide HS
  go_quiet (fail)
  go_wp2_with fail
  go_quiet (fail)
  go_wp2_with (first | (go_at_call 49; refine (a0.out _).mono ?_; rintro e w' ⟨rfl, rfl⟩) | (go_at_call 53; refine (a1.out _).mono ?_; rintro e w' ⟨rfl, rfl⟩) | (go_at_call 55; refine (a3.out _).mono ?_; rintro e w' ⟨rfl, rfl⟩) | (go_at_call 56; refine (hrun.out _ (by exact HS.out.sc)).mono ?_; rintro e W1 ⟨rfl, hg1⟩))
  rw [hq.out]
  exact ⟨rfl, rfl, gb_trans (HS.out.drewN _).g hg1⟩
theorem token_none (b : Nat) (l : Bs) (i : Nat) (c : UInt8) (t : Bs) (w : World) (hs : l.length ≤ 65536) (hS : Sc w b l i) (hE : Env w) (hsz : 8 ≤ w.heap.size) (hd : l.drop i = c :: t) (k1 : small c = false) (k2 : capital c = false) (e48 : ((c.toNat : Int) == 48) = false) (k3 : digit c = false) (e34 : ((c.toNat : Int) == 34) = false) (e39 : ((c.toNat : Int) == 39) = false) (ki : ([40, 41, 91, 93, 123, 125, 44, 124] : Bs).contains c = false) (e59 : ((c.toNat : Int) == 59) = false) (e33 : ((c.toNat : Int) == 33) = false) (k4 : sign c = false)  :
    Calls Tryz.prog 22 #[.pointer (some ⟨b, 0, none⟩)] w (ScPost w b l tokV (fin i (.bad i 2))) := by
  have hz := size_B l
  have h0 := hS.c0
  have h1 := hS.c1
  have h2 := hS.f1
  have hlt := hS.lt
  have HS := hide (TkSt.init hS)
  have HE := hide hE
  have hg := B_get hd
  obtain ⟨hl, -, ht⟩ := drop_at hd
  have hge : decide (l.length ≤ i) = false := by simp; omega
  obtain ⟨Rs, hRs⟩ : ∃ Rs : Tk.R Tok, Rs = (fin i (.bad i 2)) := ⟨_, rfl⟩
  rw [← hRs]
  have hq := hide hRs
  have a0 := hide (fun W => k1 ▸ small_calls c W)
  have a1 := hide (fun W => k2 ▸ capital_calls c W)
  have a3 := hide (fun W => k3 ▸ digit_calls c W)
  obtain ⟨ix, hix⟩ : ∃ ix, ix = Lib.indexByte [40, 41, 91, 93, 123, 125, 44, 124] c := ⟨_, rfl⟩
  have aix : ∀ W, Calls Tryz.prog 59 #[.string (B [40, 41, 91, 93, 123, 125, 44, 124]), .int .u8 (c.toNat : Int)] W fun e w' => e = .returned (.int .i64 ix) ∧ W = w' := by
    intro W
    rw [hix]
    exact IndexByte_calls _ c W
  rw [← index_has, ← hix] at ki
  clear hix
  replace aix := hide aix
  have a9 := hide (fun W => k4 ▸ sign_calls c W)
  clear hRs
  have HD := hide hd
  clear hS hE hd ht
  go_enter Tryz.func22, Tryz.ntmps22
  go_wp2_with fail
  refine code_forget (fun W => TkSt w W b w.heap.size (w.heap.size + 1) l i i 0 []) HS.out ?_
  generalize hR : w.heap.size = R
  generalize hT : R + 1 = T
  clear HS h0 h1 h2
  intro W HS
  have t0 := HS.c0; have t1 := HS.c1; have t2 := HS.c2; have t3 := HS.r0; have t4 := HS.r1; have t5 := HS.r2; have t6 := HS.sc.c0; have t7 := HS.sc.c1; have t8 := HS.sc.f1; have t9 := HS.fR; have t10 := HS.fT
  have n1 := HS.RT
  have n2 := HS.bT
  have n3 := HS.bR
  have n4 := HS.TR
  have n5 := HS.Tb
  have n6 := HS.Rb
  replace HS := hide HS
  go_quiet (fail)
  go_wp2_with fail
  go_quiet (fail)
  go_wp2_with (first | (go_at_call 49; refine (a0.out _).mono ?_; rintro e w' ⟨rfl, rfl⟩) | (go_at_call 53; refine (a1.out _).mono ?_; rintro e w' ⟨rfl, rfl⟩) | (go_at_call 55; refine (a3.out _).mono ?_; rintro e w' ⟨rfl, rfl⟩) | (go_at_call 59; refine (aix.out _).mono ?_; rintro e w' ⟨rfl, rfl⟩) | (go_at_call 60; refine (a9.out _).mono ?_; rintro e w' ⟨rfl, rfl⟩) | (go_at_call 58; refine (stop_calls b _ _ _).mono ?_; rintro e w' ⟨rfl, rfl⟩))
  rw [hq.out]
  exact ⟨rfl, rfl, (HS.out.drewN _).g⟩
end
end Go.Proofs.YtgeonilideojnaaGreatDoor.Tk
end
section
namespace Go.Proofs.YtgeonilideojnaaGreatDoor.Tk
open Go Go.RowKit
set_option linter.unusedVariables false
set_option linter.unusedSimpArgs false
section
set_option maxHeartbeats 4000000
set_option maxRecDepth 100000
theorem token_semi (b : Nat) (l : Bs) (i : Nat) (c : UInt8) (t : Bs) (w : World) (hs : l.length ≤ 65536) (hS : Sc w b l i) (hE : Env w) (hsz : 8 ≤ w.heap.size) (hd : l.drop i = c :: t) (k1 : small c = false) (k2 : capital c = false) (e48 : ((c.toNat : Int) == 48) = false) (k3 : digit c = false) (e34 : ((c.toNat : Int) == 34) = false) (e39 : ((c.toNat : Int) == 39) = false) (ki : ([40, 41, 91, 93, 123, 125, 44, 124] : Bs).contains c = false) (e59 : ((c.toNat : Int) == 59) = true) (kp : (cut l i (namedEnd l i c) == [46]) = false) :
    Calls Tryz.prog 22 #[.pointer (some ⟨b, 0, none⟩)] w (ScPost w b l tokV (fin i (.ok ⟨1, cut l i (namedEnd l i c), i⟩ (namedEnd l i c)))) := by
  have hz := size_B l
  have h0 := hS.c0
  have h1 := hS.c1
  have h2 := hS.f1
  have hlt := hS.lt
  have HS := hide (TkSt.init hS)
  have HE := hide hE
  have hg := B_get hd
  obtain ⟨hl, -, ht⟩ := drop_at hd
  have hge : decide (l.length ≤ i) = false := by simp; omega
  obtain ⟨Rs, hRs⟩ : ∃ Rs : Tk.R Tok, Rs = (fin i (.ok ⟨1, cut l i (namedEnd l i c), i⟩ (namedEnd l i c))) := ⟨_, rfl⟩
  rw [← hRs]
  obtain ⟨r, hr⟩ : ∃ r, r = checkS 1 (cut l i (namedEnd l i c)) := ⟨_, rfl⟩
  have hq := hide (show Rs = fin0 r ⟨1, cut l i (namedEnd l i c), i⟩ (namedEnd l i c) i by rw [hRs, hr]; rfl)
  have hls : (cut l i (namedEnd l i c)).length ≤ 65536 := Nat.le_trans (cut_le ..) hs
  replace hr := hide hr
  have hrun := hide (fun W hW => named_calls b l i c t W hs hd hW)
  have a0 := hide (fun W => k1 ▸ small_calls c W)
  have a1 := hide (fun W => k2 ▸ capital_calls c W)
  have a3 := hide (fun W => k3 ▸ digit_calls c W)
  obtain ⟨ix, hix⟩ : ∃ ix, ix = Lib.indexByte [40, 41, 91, 93, 123, 125, 44, 124] c := ⟨_, rfl⟩
  have aix : ∀ W, Calls Tryz.prog 59 #[.string (B [40, 41, 91, 93, 123, 125, 44, 124]), .int .u8 (c.toNat : Int)] W fun e w' => e = .returned (.int .i64 ix) ∧ W = w' := by
    intro W
    rw [hix]
    exact IndexByte_calls _ c W
  rw [← index_has, ← hix] at ki
  clear hix
  replace aix := hide aix
  clear hRs
  have htl := toList_B (cut l i (namedEnd l i c))
  generalize cut l i (namedEnd l i c) = s at *
  generalize namedEnd l i c = j at *
  have HD := hide hd
  clear hS hE hd ht
  go_enter Tryz.func22, Tryz.ntmps22
  go_wp2_with fail
  refine code_forget (fun W => TkSt w W b w.heap.size (w.heap.size + 1) l i i 0 []) HS.out ?_
  generalize hR : w.heap.size = R
  generalize hT : R + 1 = T
  clear HS h0 h1 h2
  intro W HS
  have t0 := HS.c0; have t1 := HS.c1; have t2 := HS.c2; have t3 := HS.r0; have t4 := HS.r1; have t5 := HS.r2; have t6 := HS.sc.c0; have t7 := HS.sc.c1; have t8 := HS.sc.f1; have t9 := HS.fR; have t10 := HS.fT
  have n1 := HS.RT
  have n2 := HS.bT
  have n3 := HS.bR
  have n4 := HS.TR
  have n5 := HS.Tb
  have n6 := HS.Rb
  replace HS := hide HS
  go_quiet (fail)
  go_wp2_with fail
  go_quiet (fail)
  go_wp2_with (first | (go_at_call 49; refine (a0.out _).mono ?_; rintro e w' ⟨rfl, rfl⟩) | (go_at_call 53; refine (a1.out _).mono ?_; rintro e w' ⟨rfl, rfl⟩) | (go_at_call 55; refine (a3.out _).mono ?_; rintro e w' ⟨rfl, rfl⟩) | (go_at_call 59; refine (aix.out _).mono ?_; rintro e w' ⟨rfl, rfl⟩) | (go_at_call 61; refine (hrun.out _ (by exact HS.out.sc)).mono ?_; rintro e W1 ⟨rfl, hS1, hg1⟩; have HS1 := ((HS.out.drewN _).step hS1 hg1); have x0 := HS1.c0; have x1 := HS1.c1; have x2 := HS1.c2; have x3 := HS1.r0; have x4 := HS1.r1; have x5 := HS1.r2; have x6 := HS1.sc.c0; have x7 := HS1.sc.c1; have x8 := HS1.sc.f1; have x9 := HS1.fR; have x10 := HS1.fT; replace HS1 := hide HS1) | (go_at_call 46; refine (abl.out _).mono ?_; rintro e w' ⟨rfl, rfl⟩) | (go_at_call 16; refine (Check_calls 1 s i _ rfl hls (by exact ((HS1.out.set0 1).set1 s).env HE.out hsz) (by exact ((HS1.out.set0 1).set1 s).size hsz)).mono ?_; rintro e W3 ⟨he, hg3⟩; rw [← hr.out] at he; subst he; have HS3 := (((HS1.out.set0 1).set1 s).kept hg3); have y0 := HS3.c0; have y1 := HS3.c1; have y2 := HS3.c2; have y3 := HS3.r0; have y4 := HS3.r1; have y5 := HS3.r2; have y6 := HS3.sc.c0; have y7 := HS3.sc.c1; have y8 := HS3.sc.f1; have y9 := HS3.fR; have y10 := HS3.fT; replace HS3 := hide HS3; rcases err_two r with rfl | hr1) | (go_at_call 58; refine (stop_calls b _ _ _).mono ?_; rintro e w' ⟨rfl, rfl⟩))
  · exact HS3.out.done (by rw [hq.out, fin0_zero]) _ rfl rfl
  · rw [show Rs = .bad i r by rw [hq.out, fin0_pos _ _ _ hr1]]
    exact ⟨rfl, rfl, HS3.out.g⟩
theorem token_mark (b : Nat) (l : Bs) (i : Nat) (c : UInt8) (t : Bs) (w : World) (hs : l.length ≤ 65536) (hS : Sc w b l i) (hE : Env w) (hsz : 8 ≤ w.heap.size) (hd : l.drop i = c :: t) (k1 : small c = false) (k2 : capital c = false) (e48 : ((c.toNat : Int) == 48) = false) (k3 : digit c = false) (e34 : ((c.toNat : Int) == 34) = false) (e39 : ((c.toNat : Int) == 39) = false) (ki : ([40, 41, 91, 93, 123, 125, 44, 124] : Bs).contains c = false) (e59 : ((c.toNat : Int) == 59) = false) (e33 : ((c.toNat : Int) == 33) = true) (kp : (cut l i (namedEnd l i c) == [46]) = false) :
    Calls Tryz.prog 22 #[.pointer (some ⟨b, 0, none⟩)] w (ScPost w b l tokV (fin i (.ok ⟨1, cut l i (namedEnd l i c), i⟩ (namedEnd l i c)))) := by
  have hz := size_B l
  have h0 := hS.c0
  have h1 := hS.c1
  have h2 := hS.f1
  have hlt := hS.lt
  have HS := hide (TkSt.init hS)
  have HE := hide hE
  have hg := B_get hd
  obtain ⟨hl, -, ht⟩ := drop_at hd
  have hge : decide (l.length ≤ i) = false := by simp; omega
  obtain ⟨Rs, hRs⟩ : ∃ Rs : Tk.R Tok, Rs = (fin i (.ok ⟨1, cut l i (namedEnd l i c), i⟩ (namedEnd l i c))) := ⟨_, rfl⟩
  rw [← hRs]
  obtain ⟨r, hr⟩ : ∃ r, r = checkS 1 (cut l i (namedEnd l i c)) := ⟨_, rfl⟩
  have hq := hide (show Rs = fin0 r ⟨1, cut l i (namedEnd l i c), i⟩ (namedEnd l i c) i by rw [hRs, hr]; rfl)
  have hls : (cut l i (namedEnd l i c)).length ≤ 65536 := Nat.le_trans (cut_le ..) hs
  replace hr := hide hr
  have hrun := hide (fun W hW => named_calls b l i c t W hs hd hW)
  have a0 := hide (fun W => k1 ▸ small_calls c W)
  have a1 := hide (fun W => k2 ▸ capital_calls c W)
  have a3 := hide (fun W => k3 ▸ digit_calls c W)
  obtain ⟨ix, hix⟩ : ∃ ix, ix = Lib.indexByte [40, 41, 91, 93, 123, 125, 44, 124] c := ⟨_, rfl⟩
  have aix : ∀ W, Calls Tryz.prog 59 #[.string (B [40, 41, 91, 93, 123, 125, 44, 124]), .int .u8 (c.toNat : Int)] W fun e w' => e = .returned (.int .i64 ix) ∧ W = w' := by
    intro W
    rw [hix]
    exact IndexByte_calls _ c W
  rw [← index_has, ← hix] at ki
  clear hix
  replace aix := hide aix
  clear hRs
  have htl := toList_B (cut l i (namedEnd l i c))
  generalize cut l i (namedEnd l i c) = s at *
  generalize namedEnd l i c = j at *
  have HD := hide hd
  clear hS hE hd ht
  go_enter Tryz.func22, Tryz.ntmps22
  go_wp2_with fail
  refine code_forget (fun W => TkSt w W b w.heap.size (w.heap.size + 1) l i i 0 []) HS.out ?_
  generalize hR : w.heap.size = R
  generalize hT : R + 1 = T
  clear HS h0 h1 h2
  intro W HS
  have t0 := HS.c0; have t1 := HS.c1; have t2 := HS.c2; have t3 := HS.r0; have t4 := HS.r1; have t5 := HS.r2; have t6 := HS.sc.c0; have t7 := HS.sc.c1; have t8 := HS.sc.f1; have t9 := HS.fR; have t10 := HS.fT
  have n1 := HS.RT
  have n2 := HS.bT
  have n3 := HS.bR
  have n4 := HS.TR
  have n5 := HS.Tb
  have n6 := HS.Rb
  replace HS := hide HS
  go_quiet (fail)
  go_wp2_with fail
  go_quiet (fail)
  go_wp2_with (first | (go_at_call 49; refine (a0.out _).mono ?_; rintro e w' ⟨rfl, rfl⟩) | (go_at_call 53; refine (a1.out _).mono ?_; rintro e w' ⟨rfl, rfl⟩) | (go_at_call 55; refine (a3.out _).mono ?_; rintro e w' ⟨rfl, rfl⟩) | (go_at_call 59; refine (aix.out _).mono ?_; rintro e w' ⟨rfl, rfl⟩) | (go_at_call 61; refine (hrun.out _ (by exact HS.out.sc)).mono ?_; rintro e W1 ⟨rfl, hS1, hg1⟩; have HS1 := ((HS.out.drewN _).step hS1 hg1); have x0 := HS1.c0; have x1 := HS1.c1; have x2 := HS1.c2; have x3 := HS1.r0; have x4 := HS1.r1; have x5 := HS1.r2; have x6 := HS1.sc.c0; have x7 := HS1.sc.c1; have x8 := HS1.sc.f1; have x9 := HS1.fR; have x10 := HS1.fT; replace HS1 := hide HS1) | (go_at_call 46; refine (abl.out _).mono ?_; rintro e w' ⟨rfl, rfl⟩) | (go_at_call 16; refine (Check_calls 1 s i _ rfl hls (by exact ((HS1.out.set0 1).set1 s).env HE.out hsz) (by exact ((HS1.out.set0 1).set1 s).size hsz)).mono ?_; rintro e W3 ⟨he, hg3⟩; rw [← hr.out] at he; subst he; have HS3 := (((HS1.out.set0 1).set1 s).kept hg3); have y0 := HS3.c0; have y1 := HS3.c1; have y2 := HS3.c2; have y3 := HS3.r0; have y4 := HS3.r1; have y5 := HS3.r2; have y6 := HS3.sc.c0; have y7 := HS3.sc.c1; have y8 := HS3.sc.f1; have y9 := HS3.fR; have y10 := HS3.fT; replace HS3 := hide HS3; rcases err_two r with rfl | hr1) | (go_at_call 58; refine (stop_calls b _ _ _).mono ?_; rintro e w' ⟨rfl, rfl⟩))
  · exact HS3.out.done (by rw [hq.out, fin0_zero]) _ rfl rfl
  · rw [show Rs = .bad i r by rw [hq.out, fin0_pos _ _ _ hr1]]
    exact ⟨rfl, rfl, HS3.out.g⟩
theorem token_sign (b : Nat) (l : Bs) (i : Nat) (c : UInt8) (t : Bs) (w : World) (hs : l.length ≤ 65536) (hS : Sc w b l i) (hE : Env w) (hsz : 8 ≤ w.heap.size) (hd : l.drop i = c :: t) (k1 : small c = false) (k2 : capital c = false) (e48 : ((c.toNat : Int) == 48) = false) (k3 : digit c = false) (e34 : ((c.toNat : Int) == 34) = false) (e39 : ((c.toNat : Int) == 39) = false) (ki : ([40, 41, 91, 93, 123, 125, 44, 124] : Bs).contains c = false) (e59 : ((c.toNat : Int) == 59) = false) (e33 : ((c.toNat : Int) == 33) = false) (k4 : sign c = true) (kp : (cut l i (namedEnd l i c) == [46]) = false) :
    Calls Tryz.prog 22 #[.pointer (some ⟨b, 0, none⟩)] w (ScPost w b l tokV (fin i (.ok ⟨1, cut l i (namedEnd l i c), i⟩ (namedEnd l i c)))) := by
  have hz := size_B l
  have h0 := hS.c0
  have h1 := hS.c1
  have h2 := hS.f1
  have hlt := hS.lt
  have HS := hide (TkSt.init hS)
  have HE := hide hE
  have hg := B_get hd
  obtain ⟨hl, -, ht⟩ := drop_at hd
  have hge : decide (l.length ≤ i) = false := by simp; omega
  obtain ⟨Rs, hRs⟩ : ∃ Rs : Tk.R Tok, Rs = (fin i (.ok ⟨1, cut l i (namedEnd l i c), i⟩ (namedEnd l i c))) := ⟨_, rfl⟩
  rw [← hRs]
  obtain ⟨r, hr⟩ : ∃ r, r = checkS 1 (cut l i (namedEnd l i c)) := ⟨_, rfl⟩
  have hq := hide (show Rs = fin0 r ⟨1, cut l i (namedEnd l i c), i⟩ (namedEnd l i c) i by rw [hRs, hr]; rfl)
  have hls : (cut l i (namedEnd l i c)).length ≤ 65536 := Nat.le_trans (cut_le ..) hs
  replace hr := hide hr
  have hrun := hide (fun W hW => named_calls b l i c t W hs hd hW)
  have a0 := hide (fun W => k1 ▸ small_calls c W)
  have a1 := hide (fun W => k2 ▸ capital_calls c W)
  have a3 := hide (fun W => k3 ▸ digit_calls c W)
  obtain ⟨ix, hix⟩ : ∃ ix, ix = Lib.indexByte [40, 41, 91, 93, 123, 125, 44, 124] c := ⟨_, rfl⟩
  have aix : ∀ W, Calls Tryz.prog 59 #[.string (B [40, 41, 91, 93, 123, 125, 44, 124]), .int .u8 (c.toNat : Int)] W fun e w' => e = .returned (.int .i64 ix) ∧ W = w' := by
    intro W
    rw [hix]
    exact IndexByte_calls _ c W
  rw [← index_has, ← hix] at ki
  clear hix
  replace aix := hide aix
  have a9 := hide (fun W => k4 ▸ sign_calls c W)
  clear hRs
  have htl := toList_B (cut l i (namedEnd l i c))
  generalize cut l i (namedEnd l i c) = s at *
  generalize namedEnd l i c = j at *
  have HD := hide hd
  clear hS hE hd ht
  go_enter Tryz.func22, Tryz.ntmps22
  go_wp2_with fail
  refine code_forget (fun W => TkSt w W b w.heap.size (w.heap.size + 1) l i i 0 []) HS.out ?_
  generalize hR : w.heap.size = R
  generalize hT : R + 1 = T
  clear HS h0 h1 h2
  intro W HS
  have t0 := HS.c0; have t1 := HS.c1; have t2 := HS.c2; have t3 := HS.r0; have t4 := HS.r1; have t5 := HS.r2; have t6 := HS.sc.c0; have t7 := HS.sc.c1; have t8 := HS.sc.f1; have t9 := HS.fR; have t10 := HS.fT
  have n1 := HS.RT
  have n2 := HS.bT
  have n3 := HS.bR
  have n4 := HS.TR
  have n5 := HS.Tb
  have n6 := HS.Rb
  replace HS := hide HS
  go_quiet (fail)
  go_wp2_with fail
  go_quiet (fail)
  go_wp2_with (first | (go_at_call 49; refine (a0.out _).mono ?_; rintro e w' ⟨rfl, rfl⟩) | (go_at_call 53; refine (a1.out _).mono ?_; rintro e w' ⟨rfl, rfl⟩) | (go_at_call 55; refine (a3.out _).mono ?_; rintro e w' ⟨rfl, rfl⟩) | (go_at_call 59; refine (aix.out _).mono ?_; rintro e w' ⟨rfl, rfl⟩) | (go_at_call 60; refine (a9.out _).mono ?_; rintro e w' ⟨rfl, rfl⟩) | (go_at_call 61; refine (hrun.out _ (by exact HS.out.sc)).mono ?_; rintro e W1 ⟨rfl, hS1, hg1⟩; have HS1 := ((HS.out.drewN _).step hS1 hg1); have x0 := HS1.c0; have x1 := HS1.c1; have x2 := HS1.c2; have x3 := HS1.r0; have x4 := HS1.r1; have x5 := HS1.r2; have x6 := HS1.sc.c0; have x7 := HS1.sc.c1; have x8 := HS1.sc.f1; have x9 := HS1.fR; have x10 := HS1.fT; replace HS1 := hide HS1) | (go_at_call 46; refine (abl.out _).mono ?_; rintro e w' ⟨rfl, rfl⟩) | (go_at_call 16; refine (Check_calls 1 s i _ rfl hls (by exact ((HS1.out.set0 1).set1 s).env HE.out hsz) (by exact ((HS1.out.set0 1).set1 s).size hsz)).mono ?_; rintro e W3 ⟨he, hg3⟩; rw [← hr.out] at he; subst he; have HS3 := (((HS1.out.set0 1).set1 s).kept hg3); have y0 := HS3.c0; have y1 := HS3.c1; have y2 := HS3.c2; have y3 := HS3.r0; have y4 := HS3.r1; have y5 := HS3.r2; have y6 := HS3.sc.c0; have y7 := HS3.sc.c1; have y8 := HS3.sc.f1; have y9 := HS3.fR; have y10 := HS3.fT; replace HS3 := hide HS3; rcases err_two r with rfl | hr1) | (go_at_call 58; refine (stop_calls b _ _ _).mono ?_; rintro e w' ⟨rfl, rfl⟩))
  · exact HS3.out.done (by rw [hq.out, fin0_zero]) _ rfl rfl
  · rw [show Rs = .bad i r by rw [hq.out, fin0_pos _ _ _ hr1]]
    exact ⟨rfl, rfl, HS3.out.g⟩
end
end Go.Proofs.YtgeonilideojnaaGreatDoor.Tk
end
section
namespace Go.Proofs.YtgeonilideojnaaGreatDoor.Tk
open Go Go.RowKit
set_option linter.unusedVariables false
set_option linter.unusedSimpArgs false
section
set_option maxHeartbeats 4000000
set_option maxRecDepth 100000
theorem token_stop_end (b : Nat) (l : Bs) (i : Nat) (c : UInt8) (t : Bs) (w : World) (hs : l.length ≤ 65536) (hS : Sc w b l i) (hE : Env w) (hsz : 8 ≤ w.heap.size) (hd : l.drop i = c :: t) (k1 : small c = false) (k2 : capital c = false) (e48 : ((c.toNat : Int) == 48) = false) (k3 : digit c = false) (e34 : ((c.toNat : Int) == 34) = false) (e39 : ((c.toNat : Int) == 39) = false) (ki : ([40, 41, 91, 93, 123, 125, 44, 124] : Bs).contains c = false) (e59 : ((c.toNat : Int) == 59) = false) (e33 : ((c.toNat : Int) == 33) = false) (k4 : sign c = true) (kp : (cut l i (namedEnd l i c) == [46]) = true) (hd2 : l.drop (namedEnd l i c) = []) :
    Calls Tryz.prog 22 #[.pointer (some ⟨b, 0, none⟩)] w (ScPost w b l tokV (fin i (.ok ⟨7, cut l i (namedEnd l i c), i⟩ (namedEnd l i c)))) := by
  have hz := size_B l
  have h0 := hS.c0
  have h1 := hS.c1
  have h2 := hS.f1
  have hlt := hS.lt
  have HS := hide (TkSt.init hS)
  have HE := hide hE
  have hg := B_get hd
  obtain ⟨hl, -, ht⟩ := drop_at hd
  have hge : decide (l.length ≤ i) = false := by simp; omega
  obtain ⟨Rs, hRs⟩ : ∃ Rs : Tk.R Tok, Rs = (fin i (.ok ⟨7, cut l i (namedEnd l i c), i⟩ (namedEnd l i c))) := ⟨_, rfl⟩
  rw [← hRs]
  obtain ⟨r, hr⟩ : ∃ r, r = checkS 7 (cut l i (namedEnd l i c)) := ⟨_, rfl⟩
  have hq := hide (show Rs = fin0 r ⟨7, cut l i (namedEnd l i c), i⟩ (namedEnd l i c) i by rw [hRs, hr]; rfl)
  have hls : (cut l i (namedEnd l i c)).length ≤ 65536 := Nat.le_trans (cut_le ..) hs
  replace hr := hide hr
  have hrun := hide (fun W hW => named_calls b l i c t W hs hd hW)
  have hn2 := drop_nil hd2
  have hlt2 : decide (namedEnd l i c < l.length) = false := by simp; omega
  clear hd2
  have a0 := hide (fun W => k1 ▸ small_calls c W)
  have a1 := hide (fun W => k2 ▸ capital_calls c W)
  have a3 := hide (fun W => k3 ▸ digit_calls c W)
  obtain ⟨ix, hix⟩ : ∃ ix, ix = Lib.indexByte [40, 41, 91, 93, 123, 125, 44, 124] c := ⟨_, rfl⟩
  have aix : ∀ W, Calls Tryz.prog 59 #[.string (B [40, 41, 91, 93, 123, 125, 44, 124]), .int .u8 (c.toNat : Int)] W fun e w' => e = .returned (.int .i64 ix) ∧ W = w' := by
    intro W
    rw [hix]
    exact IndexByte_calls _ c W
  rw [← index_has, ← hix] at ki
  clear hix
  replace aix := hide aix
  have a9 := hide (fun W => k4 ▸ sign_calls c W)
  clear hRs
  have htl := toList_B (cut l i (namedEnd l i c))
  generalize cut l i (namedEnd l i c) = s at *
  generalize namedEnd l i c = j at *
  have HD := hide hd
  clear hS hE hd ht
  go_enter Tryz.func22, Tryz.ntmps22
  go_wp2_with fail
  refine code_forget (fun W => TkSt w W b w.heap.size (w.heap.size + 1) l i i 0 []) HS.out ?_
  generalize hR : w.heap.size = R
  generalize hT : R + 1 = T
  clear HS h0 h1 h2
  intro W HS
  have t0 := HS.c0; have t1 := HS.c1; have t2 := HS.c2; have t3 := HS.r0; have t4 := HS.r1; have t5 := HS.r2; have t6 := HS.sc.c0; have t7 := HS.sc.c1; have t8 := HS.sc.f1; have t9 := HS.fR; have t10 := HS.fT
  have n1 := HS.RT
  have n2 := HS.bT
  have n3 := HS.bR
  have n4 := HS.TR
  have n5 := HS.Tb
  have n6 := HS.Rb
  replace HS := hide HS
  go_quiet (fail)
  go_wp2_with fail
  go_quiet (fail)
  go_wp2_with (first | (go_at_call 49; refine (a0.out _).mono ?_; rintro e w' ⟨rfl, rfl⟩) | (go_at_call 53; refine (a1.out _).mono ?_; rintro e w' ⟨rfl, rfl⟩) | (go_at_call 55; refine (a3.out _).mono ?_; rintro e w' ⟨rfl, rfl⟩) | (go_at_call 59; refine (aix.out _).mono ?_; rintro e w' ⟨rfl, rfl⟩) | (go_at_call 60; refine (a9.out _).mono ?_; rintro e w' ⟨rfl, rfl⟩) | (go_at_call 61; refine (hrun.out _ (by exact HS.out.sc)).mono ?_; rintro e W1 ⟨rfl, hS1, hg1⟩; have HS1 := ((HS.out.drewN _).step hS1 hg1); have x0 := HS1.c0; have x1 := HS1.c1; have x2 := HS1.c2; have x3 := HS1.r0; have x4 := HS1.r1; have x5 := HS1.r2; have x6 := HS1.sc.c0; have x7 := HS1.sc.c1; have x8 := HS1.sc.f1; have x9 := HS1.fR; have x10 := HS1.fT; replace HS1 := hide HS1) | (go_at_call 46; refine (abl.out _).mono ?_; rintro e w' ⟨rfl, rfl⟩))
  go_quiet (fail)
  go_wp2_with (first | (go_at_call 16; refine (Check_calls 7 s i _ rfl hls (by exact ((((HS1.out.set0 1).set1 s).drewN _).set0 7).env HE.out hsz) (by exact ((((HS1.out.set0 1).set1 s).drewN _).set0 7).size hsz)).mono ?_; rintro e W3 ⟨he, hg3⟩; rw [← hr.out] at he; subst he; have HS3 := (((((HS1.out.set0 1).set1 s).drewN _).set0 7).kept hg3); have y0 := HS3.c0; have y1 := HS3.c1; have y2 := HS3.c2; have y3 := HS3.r0; have y4 := HS3.r1; have y5 := HS3.r2; have y6 := HS3.sc.c0; have y7 := HS3.sc.c1; have y8 := HS3.sc.f1; have y9 := HS3.fR; have y10 := HS3.fT; replace HS3 := hide HS3; rcases err_two r with rfl | hr1) | (go_at_call 58; refine (stop_calls b _ _ _).mono ?_; rintro e w' ⟨rfl, rfl⟩))
  · exact HS3.out.done (by rw [hq.out, fin0_zero]) _ rfl rfl
  · rw [show Rs = .bad i r by rw [hq.out, fin0_pos _ _ _ hr1]]
    exact ⟨rfl, rfl, HS3.out.g⟩
theorem token_stop_bad (b : Nat) (l : Bs) (i : Nat) (c : UInt8) (t : Bs) (w : World) (hs : l.length ≤ 65536) (hS : Sc w b l i) (hE : Env w) (hsz : 8 ≤ w.heap.size) (hd : l.drop i = c :: t) (k1 : small c = false) (k2 : capital c = false) (e48 : ((c.toNat : Int) == 48) = false) (k3 : digit c = false) (e34 : ((c.toNat : Int) == 34) = false) (e39 : ((c.toNat : Int) == 39) = false) (ki : ([40, 41, 91, 93, 123, 125, 44, 124] : Bs).contains c = false) (e59 : ((c.toNat : Int) == 59) = false) (e33 : ((c.toNat : Int) == 33) = false) (k4 : sign c = true) (kp : (cut l i (namedEnd l i c) == [46]) = true) (d : UInt8) (u : Bs) (hd2 : l.drop (namedEnd l i c) = d :: u) (kb : blank d = false) (k37 : ((d.toNat : Int) != 37) = true) :
    Calls Tryz.prog 22 #[.pointer (some ⟨b, 0, none⟩)] w (ScPost w b l tokV (fin i (.bad i 11))) := by
  have hz := size_B l
  have h0 := hS.c0
  have h1 := hS.c1
  have h2 := hS.f1
  have hlt := hS.lt
  have HS := hide (TkSt.init hS)
  have HE := hide hE
  have hg := B_get hd
  obtain ⟨hl, -, ht⟩ := drop_at hd
  have hge : decide (l.length ≤ i) = false := by simp; omega
  obtain ⟨Rs, hRs⟩ : ∃ Rs : Tk.R Tok, Rs = (fin i (.bad i 11)) := ⟨_, rfl⟩
  rw [← hRs]
  have hq := hide hRs
  have hrun := hide (fun W hW => named_calls b l i c t W hs hd hW)
  obtain ⟨hl2, -, -⟩ := drop_at hd2
  have hg2 := B_get hd2
  have hlt2 : decide (namedEnd l i c < l.length) = true := by simpa using hl2
  clear hd2
  have abl := hide (fun W => kb ▸ blank_calls d W)
  have a0 := hide (fun W => k1 ▸ small_calls c W)
  have a1 := hide (fun W => k2 ▸ capital_calls c W)
  have a3 := hide (fun W => k3 ▸ digit_calls c W)
  obtain ⟨ix, hix⟩ : ∃ ix, ix = Lib.indexByte [40, 41, 91, 93, 123, 125, 44, 124] c := ⟨_, rfl⟩
  have aix : ∀ W, Calls Tryz.prog 59 #[.string (B [40, 41, 91, 93, 123, 125, 44, 124]), .int .u8 (c.toNat : Int)] W fun e w' => e = .returned (.int .i64 ix) ∧ W = w' := by
    intro W
    rw [hix]
    exact IndexByte_calls _ c W
  rw [← index_has, ← hix] at ki
  clear hix
  replace aix := hide aix
  have a9 := hide (fun W => k4 ▸ sign_calls c W)
  clear hRs
  have htl := toList_B (cut l i (namedEnd l i c))
  generalize cut l i (namedEnd l i c) = s at *
  generalize namedEnd l i c = j at *
  have HD := hide hd
  clear hS hE hd ht
  go_enter Tryz.func22, Tryz.ntmps22
  go_wp2_with fail
  refine code_forget (fun W => TkSt w W b w.heap.size (w.heap.size + 1) l i i 0 []) HS.out ?_
  generalize hR : w.heap.size = R
  generalize hT : R + 1 = T
  clear HS h0 h1 h2
  intro W HS
  have t0 := HS.c0; have t1 := HS.c1; have t2 := HS.c2; have t3 := HS.r0; have t4 := HS.r1; have t5 := HS.r2; have t6 := HS.sc.c0; have t7 := HS.sc.c1; have t8 := HS.sc.f1; have t9 := HS.fR; have t10 := HS.fT
  have n1 := HS.RT
  have n2 := HS.bT
  have n3 := HS.bR
  have n4 := HS.TR
  have n5 := HS.Tb
  have n6 := HS.Rb
  replace HS := hide HS
  go_quiet (fail)
  go_wp2_with fail
  go_quiet (fail)
  go_wp2_with (first | (go_at_call 49; refine (a0.out _).mono ?_; rintro e w' ⟨rfl, rfl⟩) | (go_at_call 53; refine (a1.out _).mono ?_; rintro e w' ⟨rfl, rfl⟩) | (go_at_call 55; refine (a3.out _).mono ?_; rintro e w' ⟨rfl, rfl⟩) | (go_at_call 59; refine (aix.out _).mono ?_; rintro e w' ⟨rfl, rfl⟩) | (go_at_call 60; refine (a9.out _).mono ?_; rintro e w' ⟨rfl, rfl⟩) | (go_at_call 61; refine (hrun.out _ (by exact HS.out.sc)).mono ?_; rintro e W1 ⟨rfl, hS1, hg1⟩; have HS1 := ((HS.out.drewN _).step hS1 hg1); have x0 := HS1.c0; have x1 := HS1.c1; have x2 := HS1.c2; have x3 := HS1.r0; have x4 := HS1.r1; have x5 := HS1.r2; have x6 := HS1.sc.c0; have x7 := HS1.sc.c1; have x8 := HS1.sc.f1; have x9 := HS1.fR; have x10 := HS1.fT; replace HS1 := hide HS1) | (go_at_call 46; refine (abl.out _).mono ?_; rintro e w' ⟨rfl, rfl⟩))
  go_quiet ((refine Calls.quiet_of_same ((abl.out _).mono fun _ _ h => ⟨h.1, h.2.symm⟩)))
  go_wp2_with (first | (go_at_call 58; refine (stop_calls b _ _ _).mono ?_; rintro e w' ⟨rfl, rfl⟩))
  rw [hq.out]
  exact ⟨rfl, rfl, (((HS1.out.set0 1).set1 s).drewN _).g⟩
theorem token_stop_blank (b : Nat) (l : Bs) (i : Nat) (c : UInt8) (t : Bs) (w : World) (hs : l.length ≤ 65536) (hS : Sc w b l i) (hE : Env w) (hsz : 8 ≤ w.heap.size) (hd : l.drop i = c :: t) (k1 : small c = false) (k2 : capital c = false) (e48 : ((c.toNat : Int) == 48) = false) (k3 : digit c = false) (e34 : ((c.toNat : Int) == 34) = false) (e39 : ((c.toNat : Int) == 39) = false) (ki : ([40, 41, 91, 93, 123, 125, 44, 124] : Bs).contains c = false) (e59 : ((c.toNat : Int) == 59) = false) (e33 : ((c.toNat : Int) == 33) = false) (k4 : sign c = true) (kp : (cut l i (namedEnd l i c) == [46]) = true) (d : UInt8) (u : Bs) (hd2 : l.drop (namedEnd l i c) = d :: u) (kb : blank d = true) :
    Calls Tryz.prog 22 #[.pointer (some ⟨b, 0, none⟩)] w (ScPost w b l tokV (fin i (.ok ⟨7, cut l i (namedEnd l i c), i⟩ (namedEnd l i c)))) := by
  have hz := size_B l
  have h0 := hS.c0
  have h1 := hS.c1
  have h2 := hS.f1
  have hlt := hS.lt
  have HS := hide (TkSt.init hS)
  have HE := hide hE
  have hg := B_get hd
  obtain ⟨hl, -, ht⟩ := drop_at hd
  have hge : decide (l.length ≤ i) = false := by simp; omega
  obtain ⟨Rs, hRs⟩ : ∃ Rs : Tk.R Tok, Rs = (fin i (.ok ⟨7, cut l i (namedEnd l i c), i⟩ (namedEnd l i c))) := ⟨_, rfl⟩
  rw [← hRs]
  obtain ⟨r, hr⟩ : ∃ r, r = checkS 7 (cut l i (namedEnd l i c)) := ⟨_, rfl⟩
  have hq := hide (show Rs = fin0 r ⟨7, cut l i (namedEnd l i c), i⟩ (namedEnd l i c) i by rw [hRs, hr]; rfl)
  have hls : (cut l i (namedEnd l i c)).length ≤ 65536 := Nat.le_trans (cut_le ..) hs
  replace hr := hide hr
  have hrun := hide (fun W hW => named_calls b l i c t W hs hd hW)
  obtain ⟨hl2, -, -⟩ := drop_at hd2
  have hg2 := B_get hd2
  have hlt2 : decide (namedEnd l i c < l.length) = true := by simpa using hl2
  clear hd2
  have abl := hide (fun W => kb ▸ blank_calls d W)
  have a0 := hide (fun W => k1 ▸ small_calls c W)
  have a1 := hide (fun W => k2 ▸ capital_calls c W)
  have a3 := hide (fun W => k3 ▸ digit_calls c W)
  obtain ⟨ix, hix⟩ : ∃ ix, ix = Lib.indexByte [40, 41, 91, 93, 123, 125, 44, 124] c := ⟨_, rfl⟩
  have aix : ∀ W, Calls Tryz.prog 59 #[.string (B [40, 41, 91, 93, 123, 125, 44, 124]), .int .u8 (c.toNat : Int)] W fun e w' => e = .returned (.int .i64 ix) ∧ W = w' := by
    intro W
    rw [hix]
    exact IndexByte_calls _ c W
  rw [← index_has, ← hix] at ki
  clear hix
  replace aix := hide aix
  have a9 := hide (fun W => k4 ▸ sign_calls c W)
  clear hRs
  have htl := toList_B (cut l i (namedEnd l i c))
  generalize cut l i (namedEnd l i c) = s at *
  generalize namedEnd l i c = j at *
  have HD := hide hd
  clear hS hE hd ht
  go_enter Tryz.func22, Tryz.ntmps22
  go_wp2_with fail
  refine code_forget (fun W => TkSt w W b w.heap.size (w.heap.size + 1) l i i 0 []) HS.out ?_
  generalize hR : w.heap.size = R
  generalize hT : R + 1 = T
  clear HS h0 h1 h2
  intro W HS
  have t0 := HS.c0; have t1 := HS.c1; have t2 := HS.c2; have t3 := HS.r0; have t4 := HS.r1; have t5 := HS.r2; have t6 := HS.sc.c0; have t7 := HS.sc.c1; have t8 := HS.sc.f1; have t9 := HS.fR; have t10 := HS.fT
  have n1 := HS.RT
  have n2 := HS.bT
  have n3 := HS.bR
  have n4 := HS.TR
  have n5 := HS.Tb
  have n6 := HS.Rb
  replace HS := hide HS
  go_quiet (fail)
  go_wp2_with fail
  go_quiet (fail)
  go_wp2_with (first | (go_at_call 49; refine (a0.out _).mono ?_; rintro e w' ⟨rfl, rfl⟩) | (go_at_call 53; refine (a1.out _).mono ?_; rintro e w' ⟨rfl, rfl⟩) | (go_at_call 55; refine (a3.out _).mono ?_; rintro e w' ⟨rfl, rfl⟩) | (go_at_call 59; refine (aix.out _).mono ?_; rintro e w' ⟨rfl, rfl⟩) | (go_at_call 60; refine (a9.out _).mono ?_; rintro e w' ⟨rfl, rfl⟩) | (go_at_call 61; refine (hrun.out _ (by exact HS.out.sc)).mono ?_; rintro e W1 ⟨rfl, hS1, hg1⟩; have HS1 := ((HS.out.drewN _).step hS1 hg1); have x0 := HS1.c0; have x1 := HS1.c1; have x2 := HS1.c2; have x3 := HS1.r0; have x4 := HS1.r1; have x5 := HS1.r2; have x6 := HS1.sc.c0; have x7 := HS1.sc.c1; have x8 := HS1.sc.f1; have x9 := HS1.fR; have x10 := HS1.fT; replace HS1 := hide HS1) | (go_at_call 46; refine (abl.out _).mono ?_; rintro e w' ⟨rfl, rfl⟩))
  go_quiet ((refine Calls.quiet_of_same ((abl.out _).mono fun _ _ h => ⟨h.1, h.2.symm⟩)))
  go_wp2_with (first | (go_at_call 16; refine (Check_calls 7 s i _ rfl hls (by exact ((((HS1.out.set0 1).set1 s).drewN _).set0 7).env HE.out hsz) (by exact ((((HS1.out.set0 1).set1 s).drewN _).set0 7).size hsz)).mono ?_; rintro e W3 ⟨he, hg3⟩; rw [← hr.out] at he; subst he; have HS3 := (((((HS1.out.set0 1).set1 s).drewN _).set0 7).kept hg3); have y0 := HS3.c0; have y1 := HS3.c1; have y2 := HS3.c2; have y3 := HS3.r0; have y4 := HS3.r1; have y5 := HS3.r2; have y6 := HS3.sc.c0; have y7 := HS3.sc.c1; have y8 := HS3.sc.f1; have y9 := HS3.fR; have y10 := HS3.fT; replace HS3 := hide HS3; rcases err_two r with rfl | hr1) | (go_at_call 58; refine (stop_calls b _ _ _).mono ?_; rintro e w' ⟨rfl, rfl⟩))
  · exact HS3.out.done (by rw [hq.out, fin0_zero]) _ rfl rfl
  · rw [show Rs = .bad i r by rw [hq.out, fin0_pos _ _ _ hr1]]
    exact ⟨rfl, rfl, HS3.out.g⟩
theorem token_stop_percent (b : Nat) (l : Bs) (i : Nat) (c : UInt8) (t : Bs) (w : World) (hs : l.length ≤ 65536) (hS : Sc w b l i) (hE : Env w) (hsz : 8 ≤ w.heap.size) (hd : l.drop i = c :: t) (k1 : small c = false) (k2 : capital c = false) (e48 : ((c.toNat : Int) == 48) = false) (k3 : digit c = false) (e34 : ((c.toNat : Int) == 34) = false) (e39 : ((c.toNat : Int) == 39) = false) (ki : ([40, 41, 91, 93, 123, 125, 44, 124] : Bs).contains c = false) (e59 : ((c.toNat : Int) == 59) = false) (e33 : ((c.toNat : Int) == 33) = false) (k4 : sign c = true) (kp : (cut l i (namedEnd l i c) == [46]) = true) (d : UInt8) (u : Bs) (hd2 : l.drop (namedEnd l i c) = d :: u) (kb : blank d = false) (k37 : ((d.toNat : Int) != 37) = false) :
    Calls Tryz.prog 22 #[.pointer (some ⟨b, 0, none⟩)] w (ScPost w b l tokV (fin i (.ok ⟨7, cut l i (namedEnd l i c), i⟩ (namedEnd l i c)))) := by
  have hz := size_B l
  have h0 := hS.c0
  have h1 := hS.c1
  have h2 := hS.f1
  have hlt := hS.lt
  have HS := hide (TkSt.init hS)
  have HE := hide hE
  have hg := B_get hd
  obtain ⟨hl, -, ht⟩ := drop_at hd
  have hge : decide (l.length ≤ i) = false := by simp; omega
  obtain ⟨Rs, hRs⟩ : ∃ Rs : Tk.R Tok, Rs = (fin i (.ok ⟨7, cut l i (namedEnd l i c), i⟩ (namedEnd l i c))) := ⟨_, rfl⟩
  rw [← hRs]
  obtain ⟨r, hr⟩ : ∃ r, r = checkS 7 (cut l i (namedEnd l i c)) := ⟨_, rfl⟩
  have hq := hide (show Rs = fin0 r ⟨7, cut l i (namedEnd l i c), i⟩ (namedEnd l i c) i by rw [hRs, hr]; rfl)
  have hls : (cut l i (namedEnd l i c)).length ≤ 65536 := Nat.le_trans (cut_le ..) hs
  replace hr := hide hr
  have hrun := hide (fun W hW => named_calls b l i c t W hs hd hW)
  obtain ⟨hl2, -, -⟩ := drop_at hd2
  have hg2 := B_get hd2
  have hlt2 : decide (namedEnd l i c < l.length) = true := by simpa using hl2
  clear hd2
  have abl := hide (fun W => kb ▸ blank_calls d W)
  have a0 := hide (fun W => k1 ▸ small_calls c W)
  have a1 := hide (fun W => k2 ▸ capital_calls c W)
  have a3 := hide (fun W => k3 ▸ digit_calls c W)
  obtain ⟨ix, hix⟩ : ∃ ix, ix = Lib.indexByte [40, 41, 91, 93, 123, 125, 44, 124] c := ⟨_, rfl⟩
  have aix : ∀ W, Calls Tryz.prog 59 #[.string (B [40, 41, 91, 93, 123, 125, 44, 124]), .int .u8 (c.toNat : Int)] W fun e w' => e = .returned (.int .i64 ix) ∧ W = w' := by
    intro W
    rw [hix]
    exact IndexByte_calls _ c W
  rw [← index_has, ← hix] at ki
  clear hix
  replace aix := hide aix
  have a9 := hide (fun W => k4 ▸ sign_calls c W)
  clear hRs
  have htl := toList_B (cut l i (namedEnd l i c))
  generalize cut l i (namedEnd l i c) = s at *
  generalize namedEnd l i c = j at *
  have HD := hide hd
  clear hS hE hd ht
  go_enter Tryz.func22, Tryz.ntmps22
  go_wp2_with fail
  refine code_forget (fun W => TkSt w W b w.heap.size (w.heap.size + 1) l i i 0 []) HS.out ?_
  generalize hR : w.heap.size = R
  generalize hT : R + 1 = T
  clear HS h0 h1 h2
  intro W HS
  have t0 := HS.c0; have t1 := HS.c1; have t2 := HS.c2; have t3 := HS.r0; have t4 := HS.r1; have t5 := HS.r2; have t6 := HS.sc.c0; have t7 := HS.sc.c1; have t8 := HS.sc.f1; have t9 := HS.fR; have t10 := HS.fT
  have n1 := HS.RT
  have n2 := HS.bT
  have n3 := HS.bR
  have n4 := HS.TR
  have n5 := HS.Tb
  have n6 := HS.Rb
  replace HS := hide HS
  go_quiet (fail)
  go_wp2_with fail
  go_quiet (fail)
  go_wp2_with (first | (go_at_call 49; refine (a0.out _).mono ?_; rintro e w' ⟨rfl, rfl⟩) | (go_at_call 53; refine (a1.out _).mono ?_; rintro e w' ⟨rfl, rfl⟩) | (go_at_call 55; refine (a3.out _).mono ?_; rintro e w' ⟨rfl, rfl⟩) | (go_at_call 59; refine (aix.out _).mono ?_; rintro e w' ⟨rfl, rfl⟩) | (go_at_call 60; refine (a9.out _).mono ?_; rintro e w' ⟨rfl, rfl⟩) | (go_at_call 61; refine (hrun.out _ (by exact HS.out.sc)).mono ?_; rintro e W1 ⟨rfl, hS1, hg1⟩; have HS1 := ((HS.out.drewN _).step hS1 hg1); have x0 := HS1.c0; have x1 := HS1.c1; have x2 := HS1.c2; have x3 := HS1.r0; have x4 := HS1.r1; have x5 := HS1.r2; have x6 := HS1.sc.c0; have x7 := HS1.sc.c1; have x8 := HS1.sc.f1; have x9 := HS1.fR; have x10 := HS1.fT; replace HS1 := hide HS1) | (go_at_call 46; refine (abl.out _).mono ?_; rintro e w' ⟨rfl, rfl⟩))
  go_quiet ((refine Calls.quiet_of_same ((abl.out _).mono fun _ _ h => ⟨h.1, h.2.symm⟩)))
  go_wp2_with (first | (go_at_call 16; refine (Check_calls 7 s i _ rfl hls (by exact ((((HS1.out.set0 1).set1 s).drewN _).set0 7).env HE.out hsz) (by exact ((((HS1.out.set0 1).set1 s).drewN _).set0 7).size hsz)).mono ?_; rintro e W3 ⟨he, hg3⟩; rw [← hr.out] at he; subst he; have HS3 := (((((HS1.out.set0 1).set1 s).drewN _).set0 7).kept hg3); have y0 := HS3.c0; have y1 := HS3.c1; have y2 := HS3.c2; have y3 := HS3.r0; have y4 := HS3.r1; have y5 := HS3.r2; have y6 := HS3.sc.c0; have y7 := HS3.sc.c1; have y8 := HS3.sc.f1; have y9 := HS3.fR; have y10 := HS3.fT; replace HS3 := hide HS3; rcases err_two r with rfl | hr1) | (go_at_call 58; refine (stop_calls b _ _ _).mono ?_; rintro e w' ⟨rfl, rfl⟩))
  · exact HS3.out.done (by rw [hq.out, fin0_zero]) _ rfl rfl
  · rw [show Rs = .bad i r by rw [hq.out, fin0_pos _ _ _ hr1]]
    exact ⟨rfl, rfl, HS3.out.g⟩
end
end Go.Proofs.YtgeonilideojnaaGreatDoor.Tk
end
