/- A part of a proof over the package's statements: contracts of functions and plain facts, merged by a program of this session's. -/
import Derived.Tactics
import Derived.Tactics2
import Derived.Defers
import Derived.Recover
import Derived.Laws.Pointers
import Derived.Test.YtgeonilideojnaaGreatDoorRG1x1
import Derived.Test.YtgeonilideojnaaGreatDoorRG1x2
import Derived.Test.YtgeonilideojnaaGreatDoorRG1x3
section
namespace Go.Proofs.YtgeonilideojnaaGreatDoor.Tk
open Go Go.RowKit
set_option linter.unusedVariables false
set_option linter.unusedSimpArgs false
section
set_option maxHeartbeats 4000000
set_option maxRecDepth 100000
theorem token_punct (b : Nat) (l : Bs) (i : Nat) (c : UInt8) (t : Bs) (w : World) (hs : l.length ≤ 65536) (hS : Sc w b l i) (hE : Env w) (hsz : 8 ≤ w.heap.size) (hd : l.drop i = c :: t) (k1 : small c = false) (k2 : capital c = false) (e48 : ((c.toNat : Int) == 48) = false) (k3 : digit c = false) (e34 : ((c.toNat : Int) == 34) = false) (e39 : ((c.toNat : Int) == 39) = false) (ki : ([40, 41, 91, 93, 123, 125, 44, 124] : Bs).contains c = true) :
    Calls Tryz.prog 22 #[.pointer (some ⟨b, 0, none⟩)] w (ScPost w b l tokV (fin i (.ok ⟨6, [c], i⟩ (i + 1)))) := by
  have hz := size_B l
  have h0 := hS.c0
  have h1 := hS.c1
  have h2 := hS.f1
  have hlt := hS.lt
  have HS := hide (TkSt.init hS)
  have HE := hide hE
  have hg := B_get hd
  obtain ⟨hl, -, ht⟩ := drop_at hd
  have hge : decide (l.length ≤ i) = false := by simp; omega
  obtain ⟨Rs, hRs⟩ : ∃ Rs : Tk.R Tok, Rs = (fin i (.ok ⟨6, [c], i⟩ (i + 1))) := ⟨_, rfl⟩
  rw [← hRs]
  obtain ⟨r, hr⟩ : ∃ r, r = checkS 6 ([c]) := ⟨_, rfl⟩
  have hq := hide (show Rs = fin0 r ⟨6, [c], i⟩ (i + 1) i by rw [hRs, hr]; rfl)
  have hls : ([c]).length ≤ 65536 := by simp
  replace hr := hide hr
  have a0 := hide (fun W => k1 ▸ small_calls c W)
  have a1 := hide (fun W => k2 ▸ capital_calls c W)
  have a3 := hide (fun W => k3 ▸ digit_calls c W)
  obtain ⟨ix, hix⟩ : ∃ ix, ix = Lib.indexByte [40, 41, 91, 93, 123, 125, 44, 124] c := ⟨_, rfl⟩
  have aix : ∀ W, Calls Tryz.prog 59 #[.string (B [40, 41, 91, 93, 123, 125, 44, 124]), .int .u8 (c.toNat : Int)] W fun e w' => e = .returned (.int .i64 ix) ∧ W = w' := by
    intro W
    rw [hix]
    exact IndexByte_calls _ c W
  rw [← index_has, ← hix] at ki
  clear hix
  replace aix := hide aix
  clear hRs
  have HD := hide hd
  clear hS hE hd ht
  go_enter Tryz.func22, Tryz.ntmps22
  go_wp2_with fail
  refine code_forget (fun W => TkSt w W b w.heap.size (w.heap.size + 1) l i i 0 []) HS.out ?_
  generalize hR : w.heap.size = R
  generalize hT : R + 1 = T
  clear HS h0 h1 h2
  intro W HS
  have t0 := HS.c0; have t1 := HS.c1; have t2 := HS.c2; have t3 := HS.r0; have t4 := HS.r1; have t5 := HS.r2; have t6 := HS.sc.c0; have t7 := HS.sc.c1; have t8 := HS.sc.f1; have t9 := HS.fR; have t10 := HS.fT
  have n1 := HS.RT
  have n2 := HS.bT
  have n3 := HS.bR
  have n4 := HS.TR
  have n5 := HS.Tb
  have n6 := HS.Rb
  replace HS := hide HS
  go_quiet (fail)
  go_wp2_with fail
  go_quiet (fail)
  go_wp2_with (first | (go_at_call 49; refine (a0.out _).mono ?_; rintro e w' ⟨rfl, rfl⟩) | (go_at_call 53; refine (a1.out _).mono ?_; rintro e w' ⟨rfl, rfl⟩) | (go_at_call 55; refine (a3.out _).mono ?_; rintro e w' ⟨rfl, rfl⟩) | (go_at_call 59; refine (aix.out _).mono ?_; rintro e w' ⟨rfl, rfl⟩))
  refine code_forget (fun V => TkSt w V b R T l i (i + 1) 0 []) ((HS.out.drewN _).at1 (i + 1)) ?_
  clear HS t0 t1 t2 t3 t4 t5 t6 t7 t8 t9 t10
  intro V HS
  have t0 := HS.c0; have t1 := HS.c1; have t2 := HS.c2; have t3 := HS.r0; have t4 := HS.r1; have t5 := HS.r2; have t6 := HS.sc.c0; have t7 := HS.sc.c1; have t8 := HS.sc.f1; have t9 := HS.fR; have t10 := HS.fT
  have hTV : T ≠ V.heap.size := by have := HS.t.lt; omega
  have hVT := Ne.symm hTV
  have hcv := conv1_drew c
  have hcB := conv1_set c V T (.int .i64 6) hTV
  have hcC := conv1_pre c
  have HA := HS.kept (World.grownBy_alloc V (.cells #[.int .u8 (c.toNat : Int)] 5) none)
  have HC := (HS.set0 6).kept (World.grownBy_alloc _ (.cells #[.int .u8 (c.toNat : Int)] 5) none)
  have f0 := HA.c0
  have f1 := HA.c1
  have f2 := HA.fT
  have f3 := HC.c0
  have f4 := HC.c1
  have f5 := HC.fT
  have f6 := HA.c2
  have f7 := HC.c2
  have HD2 := hide ((HA.set0 6).set1 [c])
  have HD3 := hide (HC.set1 [c])
  replace HS := hide HS
  clear HA HC
  go_region
  · go_wp2_with (first | (go_at_call 16; refine (Check_calls 6 [c] i _ rfl hls (by exact (HD2.out.drewN 1).env HE.out hsz) (by exact (HD2.out.drewN 1).size hsz)).mono ?_; rintro e W3 ⟨he, hg3⟩; rw [← hr.out] at he; subst he; have HS3 := ((HD2.out.drewN 1).kept hg3); have y0 := HS3.c0; have y1 := HS3.c1; have y2 := HS3.c2; have y3 := HS3.r0; have y4 := HS3.r1; have y5 := HS3.r2; have y6 := HS3.sc.c0; have y7 := HS3.sc.c1; have y8 := HS3.sc.f1; have y9 := HS3.fR; have y10 := HS3.fT; replace HS3 := hide HS3; rcases err_two r with rfl | hr1) | (go_at_call 58; refine (stop_calls b _ _ _).mono ?_; rintro e w' ⟨rfl, rfl⟩))
    · exact HS3.out.done (by rw [hq.out, fin0_zero]) _ rfl rfl
    · rw [show Rs = .bad i r by rw [hq.out, fin0_pos _ _ _ hr1]]
      exact ⟨rfl, rfl, HS3.out.g⟩
  · go_wp2_with (first | (go_at_call 16; refine (Check_calls 6 [c] i _ rfl hls (by exact (HD3.out.drewN 1).env HE.out hsz) (by exact (HD3.out.drewN 1).size hsz)).mono ?_; rintro e W3 ⟨he, hg3⟩; rw [← hr.out] at he; subst he; have HS3 := ((HD3.out.drewN 1).kept hg3); have y0 := HS3.c0; have y1 := HS3.c1; have y2 := HS3.c2; have y3 := HS3.r0; have y4 := HS3.r1; have y5 := HS3.r2; have y6 := HS3.sc.c0; have y7 := HS3.sc.c1; have y8 := HS3.sc.f1; have y9 := HS3.fR; have y10 := HS3.fT; replace HS3 := hide HS3; rcases err_two r with rfl | hr1) | (go_at_call 58; refine (stop_calls b _ _ _).mono ?_; rintro e w' ⟨rfl, rfl⟩))
    · exact HS3.out.done (by rw [hq.out, fin0_zero]) _ rfl rfl
    · rw [show Rs = .bad i r by rw [hq.out, fin0_pos _ _ _ hr1]]
      exact ⟨rfl, rfl, HS3.out.g⟩
end
end Go.Proofs.YtgeonilideojnaaGreatDoor.Tk
end
section
namespace Go.Proofs.YtgeonilideojnaaGreatDoor.Tk
open Go Go.RowKit
set_option linter.unusedVariables false
set_option linter.unusedSimpArgs false
section
set_option maxHeartbeats 4000000
set_option maxRecDepth 100000
theorem nameLen_span : ∀ s : Bs, nameLen s = spanLen letter s + nameLen (s.drop (spanLen letter s))
  | [] => rfl
  | [c] => by
    unfold nameLen spanLen
    cases h : letter c <;> simp [nameLen, spanLen, h]
  | c :: d :: t => by
    have ih := nameLen_span (d :: t)
    cases h : letter c with
    | true =>
      have e1 : nameLen (c :: d :: t) = nameLen (d :: t) + 1 := by rw [nameLen]; simp [h]
      have e2 : spanLen letter (c :: d :: t) = spanLen letter (d :: t) + 1 := by rw [spanLen]; simp [h]
      rw [e1, e2, List.drop_succ_cons, ih]
      omega
    | false =>
      have e2 : spanLen letter (c :: d :: t) = 0 := by rw [spanLen]; simp [h]
      rw [e2]
      simp
theorem span_head : ∀ s : Bs, letter ((s.drop (spanLen letter s)).headD 0) = false
  | [] => by decide
  | c :: t => by
    cases h : letter c with
    | true =>
      have e2 : spanLen letter (c :: t) = spanLen letter t + 1 := by rw [spanLen]; simp [h]
      rw [e2, List.drop_succ_cons]
      exact span_head t
    | false =>
      have e2 : spanLen letter (c :: t) = 0 := by rw [spanLen]; simp [h]
      rw [e2]
      simpa using h
theorem nameLen_stop {s : Bs} (h1 : letter (s.headD 0) = false) (h2 : (s.headD 0 == 46 && small ((s.drop 1).headD 0)) = false) : nameLen s = 0 := by
  match s, h1, h2 with
  | [], _, _ => rfl
  | [c], h1, _ => simp at h1; simp [nameLen, h1]
  | c :: d :: t, h1, h2 =>
    simp only [List.headD_cons, List.drop_succ_cons, List.drop_zero] at h1 h2
    rw [nameLen, h1, h2]
    rfl
theorem nameLen_dot {s : Bs} (h1 : letter (s.headD 0) = false) (h2 : (s.headD 0 == 46 && small ((s.drop 1).headD 0)) = true) : nameLen s = 1 + nameLen (s.drop 1) ∧ 2 ≤ s.length := by
  match s, h1, h2 with
  | [], _, h2 => simp at h2
  | [c], h1, h2 => simp at h2; exact absurd h2.2 (by decide)
  | c :: d :: t, h1, h2 =>
    simp only [List.headD_cons, List.drop_succ_cons, List.drop_zero] at h1 h2
    rw [nameLen, h1, h2]
    simp [Nat.add_comm]
    omega
theorem cut_join {l : Bs} {i j k : Nat} (h1 : i ≤ j) (h2 : j < k) (hl : j < l.length) : cut l i j ++ (l[j] :: cut l (j + 1) k) = cut l i k := by
  unfold cut
  rw [show k - i = (j - i) + (k - j) by omega, List.take_add, List.drop_drop, show i + (j - i) = j by omega, List.drop_eq_getElem_cons hl, show k - j = (k - (j + 1)) + 1 by omega, List.take_succ_cons]
theorem token_name (b : Nat) (l : Bs) (i : Nat) (c : UInt8) (t : Bs) (w : World) (hs : l.length ≤ 65536) (hS : Sc w b l i) (hE : Env w) (hsz : 8 ≤ w.heap.size) (hd : l.drop i = c :: t) (k1 : small c = true) :
    Calls Tryz.prog 22 #[.pointer (some ⟨b, 0, none⟩)] w (ScPost w b l tokV (fin i (.ok ⟨1, cut l i (i + nameLen (l.drop i)), i⟩ (i + nameLen (l.drop i))))) := by
  have hz := size_B l
  have h0 := hS.c0
  have h1 := hS.c1
  have h2 := hS.f1
  have hlt := hS.lt
  have HS := hide (TkSt.init hS)
  have HE := hide hE
  have hg := B_get hd
  obtain ⟨hl, -, ht⟩ := drop_at hd
  have hge : decide (l.length ≤ i) = false := by simp; omega
  obtain ⟨Rs, hRs⟩ : ∃ Rs : Tk.R Tok, Rs = (fin i (.ok ⟨1, cut l i (i + nameLen (l.drop i)), i⟩ (i + nameLen (l.drop i)))) := ⟨_, rfl⟩
  rw [← hRs]
  obtain ⟨r, hr⟩ : ∃ r, r = checkS 1 (cut l i (i + nameLen (l.drop i))) := ⟨_, rfl⟩
  have hq := hide (show Rs = fin0 r ⟨1, cut l i (i + nameLen (l.drop i)), i⟩ (i + nameLen (l.drop i)) i by rw [hRs, hr]; rfl)
  have hls : (cut l i (i + nameLen (l.drop i))).length ≤ 65536 := Nat.le_trans (cut_le ..) hs
  replace hr := hide hr
  have hrun := hide (fun W hW => run_letter b l i W hs (Nat.le_of_lt hl) hW)
  have a0 := hide (fun W => k1 ▸ small_calls c W)
  clear hRs
  have hN := hide (nameLen_span (l.drop i))
  have hH := hide (span_head (l.drop i))
  have hL := spanLen_le0 letter (l.drop i)
  have hLl : i + spanLen letter (l.drop i) ≤ l.length := by rw [List.length_drop] at hL; omega
  clear hL
  rw [List.drop_drop] at hN hH
  generalize hJ : i + nameLen (l.drop i) = J at hq hr hls
  generalize hj0 : i + spanLen letter (l.drop i) = j0 at *
  have HD := hide hd
  clear hS hE hd ht
  go_enter Tryz.func22, Tryz.ntmps22
  go_wp2_with fail
  refine code_forget (fun W => TkSt w W b w.heap.size (w.heap.size + 1) l i i 0 []) HS.out ?_
  generalize hR : w.heap.size = R
  generalize hT : R + 1 = T
  clear HS h0 h1 h2
  intro W HS
  have t0 := HS.c0; have t1 := HS.c1; have t2 := HS.c2; have t3 := HS.r0; have t4 := HS.r1; have t5 := HS.r2; have t6 := HS.sc.c0; have t7 := HS.sc.c1; have t8 := HS.sc.f1; have t9 := HS.fR; have t10 := HS.fT
  have n1 := HS.RT
  have n2 := HS.bT
  have n3 := HS.bR
  have n4 := HS.TR
  have n5 := HS.Tb
  have n6 := HS.Rb
  replace HS := hide HS
  go_quiet (fail)
  go_wp2_with fail
  go_quiet (fail)
  have HJ : Hid (J = j0 + nameLen (l.drop j0)) := by
    unfold Hid
    have h3 := hN.out
    omega
  have hij0 : i ≤ j0 := by omega
  have HHd : Hid (letter ((l.drop j0).headD 0) = false) := hH
  clear hJ hj0
  go_wp2_with (first | (go_at_call 49; refine (a0.out _).mono ?_; rintro e w' ⟨rfl, rfl⟩) | (go_at_call 50; refine (hrun.out _ (by exact HS.out.sc)).mono ?_; rintro e W1 ⟨rfl, hS1, hg1⟩; have HS1 := ((HS.out.drewN _).step hS1 hg1); have x0 := HS1.c0; have x1 := HS1.c1; have x2 := HS1.c2; have x3 := HS1.r0; have x4 := HS1.r1; have x5 := HS1.r2; have x6 := HS1.sc.c0; have x7 := HS1.sc.c1; have x8 := HS1.sc.f1; have x9 := HS1.fR; have x10 := HS1.fT; replace HS1 := hide HS1))
  clear hrun a0 hN hH k1
  go_loopw [] (fun wr => ∃ j, i ≤ j ∧ j ≤ l.length ∧ TkSt w wr b R T l i j 1 (cut l i j) ∧ Hid (J = j + nameLen (l.drop j)) ∧ Hid (letter ((l.drop j).headD 0) = false)) (fun wr => l.length - atOf wr b)
  case atStart => exact ⟨j0, by omega, hLl, (HS1.out.set0 1).set1 _, HJ, HHd⟩
  case round =>
    clear HS1 HJ HHd hLl hij0
    clear t0 t1 t2 t3 t4 t5 t6 t7 t8 t9 t10 x0 x1 x2 x3 x4 x5 x6 x7 x8 x9 x10
    obtain ⟨j, hij, hjl, HS2, HJ2, HH2⟩ := hrel
    have z0 := HS2.c0; have z1 := HS2.c1; have z2 := HS2.c2; have z3 := HS2.r0; have z4 := HS2.r1; have z5 := HS2.r2; have z6 := HS2.sc.c0; have z7 := HS2.sc.c1; have z8 := HS2.sc.f1; have z9 := HS2.fR; have z10 := HS2.fT
    replace HS2 := hide HS2
    have hh0 : pk l j = (l.drop j).headD 0 := rfl
    have hh1 : pk l (j + 1) = ((l.drop j).drop 1).headD 0 := by rw [List.drop_drop]; rfl
    rw [← hh0] at HH2
    cases t46 : (((pk l j).toNat : Int) == 46) with
    | false =>
      have hz0 : nameLen (l.drop j) = 0 := by
        refine nameLen_stop (by rw [← hh0]; exact HH2.out) ?_
        rw [← hh0, ← hh1]
        cases h46 : (pk l j == 46) with
        | false => rfl
        | true =>
          have hx := is_yes (c := pk l j) (d := 46) (n := 46) rfl (by simpa using h46)
          rw [hx] at t46
          cases t46
      have hJj : J = j := by rw [HJ2.out, hz0]; omega
      subst hJj
      clear hh0 hh1 HH2 HJ2 hz0
      go_wp2_with (first | (go_at_call 52; refine (peek_any b l J _ _ hs hjl (by decide) (by decide) (by exact HS2.out.sc)).mono ?_; rintro e w' ⟨rfl, nd0, rfl⟩) | (go_at_call 16; refine (Check_calls 1 (cut l i J) i _ rfl hls (by exact (HS2.out.drewN _).env HE.out hsz) (by exact (HS2.out.drewN _).size hsz)).mono ?_; rintro e W3 ⟨he, hg3⟩; rw [← hr.out] at he; subst he; have HS3 := ((HS2.out.drewN _).kept hg3); have y0 := HS3.c0; have y1 := HS3.c1; have y2 := HS3.c2; have y3 := HS3.r0; have y4 := HS3.r1; have y5 := HS3.r2; have y6 := HS3.sc.c0; have y7 := HS3.sc.c1; have y8 := HS3.sc.f1; have y9 := HS3.fR; have y10 := HS3.fT; replace HS3 := hide HS3; rcases err_two r with rfl | hr1) | (go_at_call 58; refine (stop_calls b _ _ _).mono ?_; rintro e w' ⟨rfl, rfl⟩))
      · exact HS3.out.done (by rw [hq.out, fin0_zero]) _ rfl rfl
      · rw [show Rs = .bad i r by rw [hq.out, fin0_pos _ _ _ hr1]]
        exact ⟨rfl, rfl, HS3.out.g⟩
    | true =>
      have h46 : pk l j = 46 := byte_eq (n := 46) (by decide) (by simp at t46; omega)
      cases hsm : small (pk l (j + 1)) with
      | false =>
        have asm := hide (fun W => hsm ▸ small_calls (pk l (j + 1)) W)
        have hz0 : nameLen (l.drop j) = 0 := by
          refine nameLen_stop (by rw [← hh0]; exact HH2.out) ?_
          rw [← hh0, ← hh1, hsm, Bool.and_false]
        have hJj : J = j := by rw [HJ2.out, hz0]; omega
        subst hJj
        clear hh0 hh1 HH2 HJ2 hz0 h46 hsm
        go_wp2_with (first | (go_at_call 52; refine (peek_any b l J _ _ hs hjl (by decide) (by decide) (by exact HS2.out.sc)).mono ?_; rintro e w' ⟨rfl, nd0, rfl⟩) | (go_at_call 49; refine (asm.out _).mono ?_; rintro e w' ⟨rfl, rfl⟩) | (go_at_call 16; refine (Check_calls 1 (cut l i J) i _ rfl hls (by exact (HS2.out.drewN _).env HE.out hsz) (by exact (HS2.out.drewN _).size hsz)).mono ?_; rintro e W3 ⟨he, hg3⟩; rw [← hr.out] at he; subst he; have HS3 := ((HS2.out.drewN _).kept hg3); have y0 := HS3.c0; have y1 := HS3.c1; have y2 := HS3.c2; have y3 := HS3.r0; have y4 := HS3.r1; have y5 := HS3.r2; have y6 := HS3.sc.c0; have y7 := HS3.sc.c1; have y8 := HS3.sc.f1; have y9 := HS3.fR; have y10 := HS3.fT; replace HS3 := hide HS3; rcases err_two r with rfl | hr1) | (go_at_call 58; refine (stop_calls b _ _ _).mono ?_; rintro e w' ⟨rfl, rfl⟩))
        · exact HS3.out.done (by rw [hq.out, fin0_zero]) _ rfl rfl
        · rw [show Rs = .bad i r by rw [hq.out, fin0_pos _ _ _ hr1]]
          exact ⟨rfl, rfl, HS3.out.g⟩
      | true =>
        have asm := hide (fun W => hsm ▸ small_calls (pk l (j + 1)) W)
        obtain ⟨hz0, hlen⟩ := nameLen_dot (s := l.drop j) (by rw [← hh0]; exact HH2.out) (by rw [← hh0, ← hh1, hsm, h46]; rfl)
        rw [List.length_drop] at hlen
        have hjj : j + 1 < l.length := by omega
        rw [List.drop_drop] at hz0
        have hlj : l[j] = 46 := by
          rw [← h46]
          unfold pk
          rw [List.drop_eq_getElem_cons (by omega : j < l.length)]
          rfl
        have hrun := hide (fun W hW => run_letter b l (j + 1) W hs (by omega) hW)
        have hN := hide (nameLen_span (l.drop (j + 1)))
        have hH := hide (span_head (l.drop (j + 1)))
        have hL := spanLen_le0 letter (l.drop (j + 1))
        have hLl : j + 1 + spanLen letter (l.drop (j + 1)) ≤ l.length := by rw [List.length_drop] at hL; omega
        rw [List.drop_drop] at hN hH
        generalize hk : j + 1 + spanLen letter (l.drop (j + 1)) = k at *
        have HJ3 : Hid (J = k + nameLen (l.drop k)) := by
          unfold Hid
          have h3 := hN.out
          have h4 := HJ2.out
          omega
        have hjk : j + 1 ≤ k := by omega
        have hcj : cut l i j ++ (46 :: cut l (j + 1) k) = cut l i k := by
          rw [← hlj]
          exact cut_join hij (by omega) (by omega)
        have hsA : ∀ W, (Op.stringOp .add ⟨#[46]⟩ (B (cut l (j + 1) k))).run Tryz.prog W = .ok (.string (B (46 :: cut l (j + 1) k))) W := fun W => run_string_add_lists W [46] _ (by simp) (by have := cut_le l (j + 1) k; omega)
        have hsB : ∀ W, (Op.stringOp .add (B (cut l i j)) (B (46 :: cut l (j + 1) k))).run Tryz.prog W = .ok (.string (B (cut l i k))) W := fun W => by
          rw [← hcj]
          exact run_string_add_lists W _ _ (by have := cut_le l i j; omega) (by have := cut_le l (j + 1) k; simp; omega)
        clear hcj
        clear hh0 hh1 HH2 HJ2 hz0 h46 hsm hN hL hk hlj hlen
        go_wp2_with (first | (go_at_call 52; refine (peek_any b l j _ _ hs hjl (by decide) (by decide) (by exact HS2.out.sc)).mono ?_; rintro e w' ⟨rfl, nd0, rfl⟩) | (go_at_call 49; refine (asm.out _).mono ?_; rintro e w' ⟨rfl, rfl⟩))
        refine code_forget (fun V => TkSt w V b R T l i (j + 1) 1 (cut l i j)) ((HS2.out.drewN _).at1 (j + 1)) ?_
        clear z0 z1 z2 z3 z4 z5 z6 z7 z8 z9 z10 asm
        intro V HS4
        have v0 := HS4.c1
        have v1 := HS4.fT
        replace HS4 := hide HS4
        go_region_with (first | (go_at_call 50; refine (hrun.out _ (by exact HS4.out.sc)).mono ?_; rintro e W5 ⟨rfl, hS5, hg5⟩; have HS5 := ((HS4.out.drewN 1).step hS5 hg5); have u0 := HS5.c1; have u1 := HS5.fT; replace HS5 := hide HS5))
        all_goals go_wp2
        all_goals refine ⟨⟨k, by omega, hLl, HS5.out.set1 _, HJ3, hH⟩, ?_⟩
        all_goals exact Sc.less HS2.out.sc (HS5.out.set1 (cut l i k)).sc (by omega) (by omega)
end
end Go.Proofs.YtgeonilideojnaaGreatDoor.Tk
end
section
namespace Go.Proofs.YtgeonilideojnaaGreatDoor.Tk
open Go Go.RowKit
set_option linter.unusedVariables false
set_option linter.unusedSimpArgs false
theorem quotedR_len (m : UInt8) (e : Bs) (f : Nat) : ∀ (n i : Nat) (s acc r : Bs) (j : Nat), s.length ≤ n → quotedR m e f i s acc = .ok r j → r.length ≤ acc.length + s.length := by
  intro n
  induction n with
  | zero =>
    intro i s acc r j hn h
    match s, hn with
    | [], _ => rw [quotedR_nil] at h; cases h
  | succ n ih =>
    intro i s acc r j hn h
    match s, hn with
    | [], _ => rw [quotedR_nil] at h; cases h
    | c :: t, hn =>
      rw [quotedR_cons] at h
      split at h
      · cases h
      · split at h
        · injection h with h1 h2
          subst h1
          omega
        · split at h
          · cases h
          · split at h
            · match t, h with
              | [], h => cases h
              | d :: u, h =>
                simp only at h
                split at h
                · cases h
                · split at h
                  · have := ih _ _ _ _ _ (by simp at hn; omega) h
                    simp at this ⊢
                    omega
                  · cases h
            · have := ih _ _ _ _ _ (by simp at hn; omega) h
              simp at this ⊢
              omega
theorem quotedS_len {m : UInt8} {e l : Bs} {i j : Nat} {r : Bs} (h : quotedS m e l i = .ok r j) : r.length ≤ l.length := by
  have := quotedR_len m e i _ _ _ _ _ _ (Nat.le_refl _) h
  simp at this
  omega
theorem charS_len {l : Bs} {i j : Nat} {r : Bs} (h : charS l i = .ok r j) : r.length ≤ 1 := by
  unfold charS at h
  split at h
  · cases h
  · split at h
    · cases h
    · split at h
      · split at h
        · cases h
        · split at h
          · cases h
          · split at h
            · injection h with h1 _; subst h1; simp
            · cases h
      · split at h
        · cases h
        · injection h with h1 _; subst h1; simp
theorem named_ge (l : Bs) (i : Nat) (c : UInt8) : i + 1 ≤ namedEnd l i c := by
  unfold namedEnd
  split
  · omega
  · split <;> omega
theorem cut_head {l : Bs} {i j : Nat} {c : UInt8} {t : Bs} (hd : l.drop i = c :: t) (hj : i + 1 ≤ j) : ∃ u, cut l i j = c :: u := by
  unfold cut
  rw [hd, show j - i = (j - i - 1) + 1 by omega]
  exact ⟨_, List.take_succ_cons⟩
theorem not_dot {l : Bs} {i : Nat} {c : UInt8} {t : Bs} (hd : l.drop i = c :: t) (hc : c ≠ 46) : cut l i (namedEnd l i c) ≠ [46] := by
  obtain ⟨u, hu⟩ := cut_head hd (named_ge l i c)
  rw [hu]
  intro e
  injection e with e _
  exact hc e
theorem token_calls (b : Nat) (l : Bs) (i : Nat) (w : World) (hs : l.length ≤ 65536) (hi : i ≤ l.length) (hS : Sc w b l i) (hE : Env w) (hsz : 8 ≤ w.heap.size) :
    Calls Tryz.prog 22 #[.pointer (some ⟨b, 0, none⟩)] w (ScPost w b l tokV (tokenS l i)) := by
  cases hd : l.drop i with
  | nil =>
    rw [show tokenS l i = .ok ⟨0, [], i⟩ i by unfold tokenS; rw [hd]]
    exact token_end b l i w hs hi hS hd
  | cons c t =>
    rw [tokenS_cons hd]
    unfold tokenRaw
    cases k1 : small c with
    | true => exact token_name b l i c t w hs hS hE hsz hd k1
    | false =>
    simp only [Bool.false_eq_true, if_false]
    cases k2 : capital c with
    | true => exact token_var b l i c t w hs hS hE hsz hd k1 k2
    | false =>
    simp only [Bool.false_eq_true, if_false]
    by_cases h48 : c = 48 ∧ pk l (i + 1) = 39
    · obtain ⟨h48, hp⟩ := h48
      have e48 := is_yes (n := 48) (d := 48) rfl h48
      have ep := is_yes (n := 39) (d := 39) rfl hp
      have h2l : i + 2 ≤ l.length := by
        have := pk_lt (p := fun x => x == 39) (l := l) (i := i + 1) rfl (by simp [hp])
        omega
      rw [if_pos (by simp [h48, hp])]
      cases hx : charS l i with
      | ok s j => exact token_char b l i c t w hs hS hE hsz hd k1 k2 e48 ep s j hx (Nat.le_trans (charS_len hx) (by decide)) h2l
      | bad a e => exact token_char_bad b l i c t w hs hS hE hsz hd k1 k2 e48 ep a e hx h2l
    · rw [if_neg (by simpa using h48)]
      cases k3 : digit c with
      | true =>
        rw [if_pos rfl]
        by_cases h4 : c = 48
        · have hp : ¬ pk l (i + 1) = 39 := fun e => h48 ⟨h4, e⟩
          exact token_int0 b l i c t w hs hS hE hsz hd k1 k2 (is_yes (n := 48) (d := 48) rfl h4) (is_no (n := 39) (d := 39) rfl hp) k3
        · exact token_int b l i c t w hs hS hE hsz hd k1 k2 (is_no (n := 48) (d := 48) rfl h4) k3
      | false =>
      simp only [Bool.false_eq_true, if_false]
      have h4 : ¬ c = 48 := by
        rintro rfl
        cases k3
      have e48 := is_no (n := 48) (d := 48) rfl h4
      by_cases h34 : c = 34
      · rw [if_pos h34]
        have e34 := is_yes (n := 34) (d := 34) rfl h34
        cases hx : quotedS 34 [110, 116, 92, 34] l i with
        | ok s j => exact token_text b l i c t w hs hS hE hsz hd k1 k2 e48 k3 e34 s j hx (Nat.le_trans (quotedS_len hx) hs)
        | bad a e => exact token_text_bad b l i c t w hs hS hE hsz hd k1 k2 e48 k3 e34 a e hx
      · rw [if_neg h34]
        have e34 := is_no (n := 34) (d := 34) rfl h34
        by_cases h39 : c = 39
        · rw [if_pos h39]
          have e39 := is_yes (n := 39) (d := 39) rfl h39
          cases hx : quotedS 39 [92, 39] l i with
          | bad a e => exact token_quoted_bad b l i c t w hs hS hE hsz hd k1 k2 e48 k3 e34 e39 a e hx
          | ok s j =>
            have hl := Nat.le_trans (quotedS_len hx) hs
            simp only
            by_cases h0 : s = []
            · rw [if_pos (by simp [h0])]
              exact token_quoted_empty b l i c t w hs hS hE hsz hd k1 k2 e48 k3 e34 e39 s j hx hl (by simpa using h0)
            · cases kd : s.contains 46 with
              | true =>
                rw [if_pos (by simp)]
                exact token_quoted_dot b l i c t w hs hS hE hsz hd k1 k2 e48 k3 e34 e39 s j hx hl (by simpa using h0) kd
              | false =>
                rw [if_neg (by simpa using h0)]
                exact token_quoted b l i c t w hs hS hE hsz hd k1 k2 e48 k3 e34 e39 s j hx hl (by simpa using h0) kd
        · rw [if_neg h39]
          have e39 := is_no (n := 39) (d := 39) rfl h39
          cases ki : ([40, 41, 91, 93, 123, 125, 44, 124] : Bs).contains c with
          | true => exact token_punct b l i c t w hs hS hE hsz hd k1 k2 e48 k3 e34 e39 ki
          | false =>
          simp only [Bool.false_eq_true, if_false]
          by_cases h59 : c = 59
          · have e59 := is_yes (n := 59) (d := 59) rfl h59
            have hne : cut l i (namedEnd l i c) ≠ [46] := not_dot hd (by rw [h59]; decide)
            rw [if_pos (by simp [h59])]
            simp only [hne, if_false]
            exact token_semi b l i c t w hs hS hE hsz hd k1 k2 e48 k3 e34 e39 ki e59 (by simpa using hne)
          · have e59 := is_no (n := 59) (d := 59) rfl h59
            by_cases h33 : c = 33
            · have e33 := is_yes (n := 33) (d := 33) rfl h33
              have hne : cut l i (namedEnd l i c) ≠ [46] := not_dot hd (by rw [h33]; decide)
              rw [if_pos (by simp [h33])]
              simp only [hne, if_false]
              exact token_mark b l i c t w hs hS hE hsz hd k1 k2 e48 k3 e34 e39 ki e59 e33 (by simpa using hne)
            · have e33 := is_no (n := 33) (d := 33) rfl h33
              cases k4 : sign c with
              | false =>
                rw [if_neg (by simp [h59, h33])]
                exact token_none b l i c t w hs hS hE hsz hd k1 k2 e48 k3 e34 e39 ki e59 e33 k4
              | true =>
                rw [if_pos (by simp)]
                by_cases hp : cut l i (namedEnd l i c) = [46]
                · simp only [hp, if_true]
                  have kp : (cut l i (namedEnd l i c) == [46]) = true := by simpa using hp
                  cases hd2 : l.drop (namedEnd l i c) with
                  | nil =>
                    have := token_stop_end b l i c t w hs hS hE hsz hd k1 k2 e48 k3 e34 e39 ki e59 e33 k4 kp hd2
                    rwa [hp] at this
                  | cons d u =>
                    simp only
                    cases kb : blank d with
                    | true =>
                      have := token_stop_blank b l i c t w hs hS hE hsz hd k1 k2 e48 k3 e34 e39 ki e59 e33 k4 kp d u hd2 kb
                      rw [hp] at this
                      rw [if_neg (by simp)]
                      exact this
                    | false =>
                      by_cases h37 : d = 37
                      · have := token_stop_percent b l i c t w hs hS hE hsz hd k1 k2 e48 k3 e34 e39 ki e59 e33 k4 kp d u hd2 kb (isnt_no (n := 37) (d := 37) rfl h37)
                        rw [hp] at this
                        rw [if_neg (by simp [h37])]
                        exact this
                      · have := token_stop_bad b l i c t w hs hS hE hsz hd k1 k2 e48 k3 e34 e39 ki e59 e33 k4 kp d u hd2 kb (isnt_yes (n := 37) (d := 37) rfl h37)
                        rw [if_pos (by simp [h37])]
                        exact this
                · simp only [hp, if_false]
                  exact token_sign b l i c t w hs hS hE hsz hd k1 k2 e48 k3 e34 e39 ki e59 e33 k4 (by simpa using hp)
end Go.Proofs.YtgeonilideojnaaGreatDoor.Tk
end
section
namespace Go.Proofs.YtgeonilideojnaaGreatDoor.Tk
open Go Go.RowKit
set_option linter.unusedVariables false
set_option linter.unusedSimpArgs false
section
set_option maxHeartbeats 2000000
set_option maxRecDepth 100000
theorem catch_idle (L F : Nat) (w : World) : CallsD Tryz.prog 20 #[.pointer (some ⟨L, 0, none⟩), .pointer (some ⟨F, 0, none⟩)] .returning w fun e u' w' => e = .returned (.tuple #[]) ∧ u' = .returning ∧ w' = w := by
  refine callsD_of_wpS Tryz.func20 rfl fun c₀ cs hu => ?_
  simp only [Tryz.ntmps20, List.size_toArray, List.length_cons, List.length_nil, Nat.reduceAdd, Nat.reduceSub, Array.replicate_succ, Array.replicate_zero, List.push_toArray, List.append_toArray, List.nil_append, List.cons_append]
  apply wpS_seq
  apply wpS_region
  simp [wpOpsS, go_sem, recoverD, hu, Tryz.ntmps20, Exit.thenS]
  refine wpS_of_wp ?_
  go_wp2
  exact ⟨rfl, _, rfl, _, by simp [results, Tryz.results20], rfl, hu, rfl⟩
theorem catch_panicking (L F B0 : Nat) (w : World) (v : Value) (i e : Int) (older : List PanicEntry) (hL : Blk w L 23 #[v]) (hF : Blk w F 26 #[.int .i64 0, .int .i64 0]) (h1 : B0 ≤ L) (h2 : L < F) :
    CallsD Tryz.prog 20 #[.pointer (some ⟨L, 0, none⟩), .pointer (some ⟨F, 0, none⟩)] (.panicking ({ v := .iface 26 (.agg #[.int .i64 i, .int .i64 e]), recovered := false } :: older)) w fun r u' w' =>
      r = .returned (.tuple #[]) ∧ u' = .panicking ({ v := .iface 26 (.agg #[.int .i64 i, .int .i64 e]), recovered := true } :: older) ∧
      Blk w' L 23 #[.slice none 0 0] ∧ Blk w' F 26 #[.int .i64 i, .int .i64 e] ∧ Below B0 w w' := by
  refine callsD_of_wpS Tryz.func20 rfl fun c₀ cs hu => ?_
  have l0 := hL.cell 0
  have l1 := hL.frozen 0
  have f0 := hF.cell 0
  have f1 := hF.cell 1
  have f2 := hF.frozen
  have hta : ∀ W, (Instr.typeAssert (.iface 26 (.agg #[.int .i64 i, .int .i64 e])) 20 26 true).run Tryz.prog W = .ok (.tuple #[.agg #[.int .i64 i, .int .i64 e], .bool true]) W := by
    intro W
    kernel_rfl
  simp only [Tryz.ntmps20, List.size_toArray, List.length_cons, List.length_nil, Nat.reduceAdd, Nat.reduceSub, Array.replicate_succ, Array.replicate_zero, List.push_toArray, List.append_toArray, List.nil_append, List.cons_append]
  apply wpS_seq
  apply wpS_region
  simp [wpOpsS, go_sem, recoverD, hu, Tryz.ntmps20, Exit.thenS]
  refine wpS_of_wp ?_
  go_wp2_with fail
  have hLs := hL.lt
  have hFs := hF.lt
  refine code_forget (fun W => Blk W L 23 #[v] ∧ Blk W F 26 #[.int .i64 0, .int .i64 0] ∧ Blk W w.heap.size 26 #[.int .i64 i, .int .i64 e] ∧ Below B0 w W) ⟨hL.alloc _, hF.alloc _, Blk.new w _ _, (Below.refl _ _).alloc (by omega) _⟩ ?_
  generalize hH : w.heap.size = H at *
  clear l0 l1 f0 f1 f2 hta
  rintro W ⟨hL, hF, hH2, hBl⟩
  have l0 := hL.cell 0
  have l1 := hL.frozen
  have f0 := hF.cell 0
  have f1 := hF.cell 1
  have f2 := hF.frozen
  have g0 := hH2.cell 0
  have g1 := hH2.cell 1
  have n1 : L ≠ F := by omega
  have n2 : F ≠ L := by omega
  have n3 : L ≠ H := by omega
  have n4 : F ≠ H := by omega
  have n5 : H ≠ L := by omega
  have n6 : H ≠ F := by omega
  go_region
  all_goals refine ⟨rfl, _, rfl, _, by simp [results, Tryz.results20], rfl, rfl, ?_, ?_, ?_⟩
  · exact ((hL.put 0 _).far n1 _).far n1 _
  · exact ((hF.far n2 _).put 0 _).put 1 _
  · exact (((hBl.setCell h1 _).setCell (by simp; omega) _).setCell (by simp; omega) _).drew
end
end Go.Proofs.YtgeonilideojnaaGreatDoor.Tk
end
section
namespace Go.Proofs.YtgeonilideojnaaGreatDoor.Tk
open Go Go.RowKit
set_option linter.unusedVariables false
set_option linter.unusedSimpArgs false
theorem skipR_bound : ∀ (n m f i : Nat) (s : Bs) (u : Unit) (j : Nat), s.length ≤ n → skipR m f i s = .ok u j → i ≤ j ∧ j ≤ i + s.length := by
  intro n
  induction n with
  | zero =>
    intro m f i s u j hn h
    match s, hn with
    | [], _ =>
      rw [skipR] at h
      split at h
      · cases h
      · injection h with _ h; omega
  | succ n ih =>
    intro m f i s u j hn h
    match s, hn with
    | [], _ =>
      rw [skipR] at h
      split at h
      · cases h
      · injection h with _ h; simp; omega
    | [c], _ =>
      rw [skipR] at h
      repeat' split at h
      all_goals first | (cases h; done) | (injection h with _ h; simp; omega)
    | c :: d :: t, hn =>
      simp at hn
      rw [skipR] at h
      repeat' split at h
      all_goals first
        | (cases h; done)
        | (have h2 := ih _ _ _ _ _ _ (by simp; omega) h; simp at h2 ⊢; omega)
        | (have h2 := ih _ _ _ _ _ _ (by omega) h; simp only [List.length_cons] at h2 ⊢; omega)
        | (injection h with _ h; simp; omega)
theorem skipS_bound {l : Bs} {i j : Nat} {u : Unit} (hi : i ≤ l.length) (h : skipS l i = .ok u j) : i ≤ j ∧ j ≤ l.length := by
  have h2 := skipR_bound _ _ _ _ _ _ _ (Nat.le_refl _) h
  rw [List.length_drop] at h2
  omega
theorem nameLen_le : ∀ s : Bs, nameLen s ≤ s.length
  | [] => Nat.le_refl _
  | [c] => by
    unfold nameLen
    split <;> simp
  | c :: d :: t => by
    have := nameLen_le (d :: t)
    rw [nameLen]
    split
    · simp at this ⊢; omega
    · simp
theorem nameLen_pos {s : Bs} (h : small (s.headD 0) = true) : 1 ≤ nameLen s := by
  match s, h with
  | [], h => exact absurd h (by decide)
  | [c], h =>
    simp at h
    simp [nameLen, letter, h]
  | c :: d :: t, h =>
    simp at h
    rw [nameLen, if_pos (by simp [letter, h])]
    omega
theorem spanLen_pos {p : UInt8 → Bool} {c : UInt8} {t : Bs} (h : p c = true) : 1 ≤ spanLen p (c :: t) := by
  rw [spanLen, if_pos h]
  omega
theorem quotedR_bound (mk : UInt8) (e : Bs) (f : Nat) : ∀ (n i : Nat) (s acc r : Bs) (j : Nat), s.length ≤ n → quotedR mk e f i s acc = .ok r j → i < j ∧ j ≤ i + s.length := by
  intro n
  induction n with
  | zero =>
    intro i s acc r j hn h
    match s, hn with
    | [], _ => rw [quotedR_nil] at h; cases h
  | succ n ih =>
    intro i s acc r j hn h
    match s, hn with
    | [], _ => rw [quotedR_nil] at h; cases h
    | c :: t, hn =>
      simp at hn
      rw [quotedR_cons] at h
      split at h
      · cases h
      · split at h
        · injection h with h1 h2
          subst h2
          simp
        · split at h
          · cases h
          · split at h
            · match t, hn, h with
              | [], _, h => cases h
              | d :: u, hn, h =>
                simp only at h
                split at h
                · cases h
                · split at h
                  · have := ih _ _ _ _ _ (by simp at hn; omega) h
                    simp at this ⊢
                    omega
                  · cases h
            · have := ih _ _ _ _ _ hn h
              simp at this ⊢
              omega
theorem charS_bound {l : Bs} {i j : Nat} {r : Bs} (h : charS l i = .ok r j) : i < j ∧ j ≤ l.length := by
  unfold charS at h
  split at h
  · cases h
  · rename_i c t hd
    have hlen : (l.drop (i + 2)).length = (c :: t).length := by rw [hd]
    rw [List.length_drop] at hlen
    simp at hlen
    split at h
    · cases h
    · split at h
      · split at h
        · cases h
        · simp at hlen
          split at h
          · cases h
          · split at h
            · injection h with _ h2; omega
            · cases h
      · split at h
        · cases h
        · injection h with _ h2; omega
theorem namedEnd_le {l : Bs} {i : Nat} {c : UInt8} (hi : i < l.length) : namedEnd l i c ≤ l.length := by
  unfold namedEnd
  split
  · rename_i h
    have := pk_lt (p := capital) (l := l) (i := i + 2) rfl (by simp at h; exact h.2)
    omega
  · split
    · have := spanLen_le0 sign (l.drop (i + 1))
      rw [List.length_drop] at this
      omega
    · omega
theorem tokenRaw_bound {l : Bs} {i : Nat} {c : UInt8} {t : Bs} (hd : l.drop i = c :: t) {k : Tok} {m : Nat} (h : tokenRaw l i c = .ok k m) : i < m ∧ m ≤ l.length ∧ k.kind ≠ 0 ∧ k.at_ = i := by
  obtain ⟨hl, -, -⟩ := drop_at hd
  have hlen : (l.drop i).length = l.length - i := List.length_drop
  unfold tokenRaw at h
  split at h
  · rename_i hc
    injection h with h1 h2
    have e1 := nameLen_le (l.drop i)
    have e2 := nameLen_pos (s := l.drop i) (by rw [hd]; exact hc)
    subst h1
    exact ⟨by omega, by omega, by simp, rfl⟩
  · split at h
    · rename_i hc
      injection h with h1 h2
      have e1 := spanLen_le0 letter (l.drop i)
      have e2 : 1 ≤ spanLen letter (l.drop i) := by rw [hd]; exact spanLen_pos (by simp [letter, hc])
      subst h1
      exact ⟨by omega, by omega, by simp, rfl⟩
    · split at h
      · split at h
        · rename_i s j hx
          injection h with h1 h2
          have := charS_bound hx
          subst h1 h2
          exact ⟨this.1, this.2, by simp, rfl⟩
        · cases h
      · split at h
        · rename_i hc
          injection h with h1 h2
          have e1 := spanLen_le0 digit (l.drop i)
          have e2 : 1 ≤ spanLen digit (l.drop i) := by rw [hd]; exact spanLen_pos hc
          subst h1
          exact ⟨by omega, by omega, by simp, rfl⟩
        · split at h
          · split at h
            · rename_i s j hx
              injection h with h1 h2
              have := quotedR_bound _ _ _ _ _ _ _ _ _ (Nat.le_refl _) hx
              rw [List.length_drop] at this
              subst h1 h2
              exact ⟨by omega, by omega, by simp, rfl⟩
            · cases h
          · split at h
            · split at h
              · rename_i s j hx
                split at h
                · cases h
                · injection h with h1 h2
                  have := quotedR_bound _ _ _ _ _ _ _ _ _ (Nat.le_refl _) hx
                  rw [List.length_drop] at this
                  subst h1 h2
                  exact ⟨by omega, by omega, by simp, rfl⟩
              · cases h
            · split at h
              · injection h with h1 h2
                subst h1 h2
                exact ⟨by omega, by omega, by simp, rfl⟩
              · split at h
                · have e1 := named_ge l i c
                  have e2 := namedEnd_le (c := c) hl
                  simp only at h
                  split at h
                  · split at h
                    · injection h with h1 h2
                      subst h1 h2
                      exact ⟨by omega, by omega, by simp, rfl⟩
                    · split at h
                      · cases h
                      · injection h with h1 h2
                        subst h1 h2
                        exact ⟨by omega, by omega, by simp, rfl⟩
                  · injection h with h1 h2
                    subst h1 h2
                    exact ⟨by omega, by omega, by simp, rfl⟩
                · cases h
theorem tokenS_bound {l : Bs} {i m : Nat} {k : Tok} (hi : i ≤ l.length) (h : tokenS l i = .ok k m) : m ≤ l.length ∧ (k.kind ≠ 0 → i < m) ∧ (k.kind = 0 → m = i) ∧ k.at_ = i ∧ (k.kind = 0 ↔ l.length ≤ i) ∧ checkS k.kind k.text = 0 := by
  cases hd : l.drop i with
  | nil =>
    rw [show tokenS l i = .ok ⟨0, [], i⟩ i by unfold tokenS; rw [hd]] at h
    injection h with h1 h2
    subst h1 h2
    have := drop_nil hd
    exact ⟨hi, fun h => absurd rfl h, fun _ => rfl, rfl, ⟨fun _ => this, fun _ => rfl⟩, rfl⟩
  | cons c t =>
    rw [tokenS_cons hd] at h
    obtain ⟨hl, -, -⟩ := drop_at hd
    cases hr : tokenRaw l i c with
    | bad a e => rw [hr] at h; cases h
    | ok k0 m0 =>
      rw [hr] at h
      have hb := tokenRaw_bound hd hr
      unfold fin at h
      simp only at h
      split at h
      · rename_i hc
        injection h with h1 h2
        subst h1 h2
        exact ⟨hb.2.1, fun _ => hb.1, fun e => absurd e hb.2.2.1, hb.2.2.2, ⟨fun e => absurd e hb.2.2.1, fun e => absurd hl (by omega)⟩, hc⟩
      · cases h
end Go.Proofs.YtgeonilideojnaaGreatDoor.Tk
end
section
namespace Go.Proofs.YtgeonilideojnaaGreatDoor.Tk
open Go Go.RowKit
set_option linter.unusedVariables false
set_option linter.unusedSimpArgs false
def tokVals (ts : List Tok) : List Value := ts.flatMap fun t => [.int .i64 t.kind, .string (B t.text), .int .i64 t.at_]
def OwnT (w : World) (base : Nat) (v : Value) (ts : List Tok) : Prop := w.ownsRow base 35 3 v ts.length (tokVals ts)
theorem OwnT.nil (w : World) (base : Nat) : OwnT w base (.slice none 0 0) [] := World.ownsRow_nil w base _ _
theorem OwnT.kept {w w1 : World} {base : Nat} {v : Value} {l : List Tok} (h : OwnT w base v l) {b : Nat} (hg : w.grownBy w1 (some b)) (hb : b < base) : OwnT w1 base v l := own_kept h hg hb
theorem OwnT.same {w w1 : World} {base : Nat} {v : Value} {l : List Tok} (h : OwnT w base v l) (hg : w.grownBy w1 none) : OwnT w1 base v l := own_none h hg
def TokPost (w : World) (e : Ending) (w' : World) : Res → Prop
  | .fault i c => e = .returned (.tuple #[.slice none 0 0, .agg #[.int .i64 (i : Int), .int .i64 (c : Int)]]) ∧ w.grownBy w' none
  | .toks ts => ∃ v, e = .returned (.tuple #[v, .agg #[.int .i64 0, .int .i64 0]]) ∧ w.grownBy w' none ∧ OwnT w' w.heap.size v ts
structure TsSt (w W : World) (L F S : Nat) (l : Bs) (i : Nat) (v : Value) (acc : List Tok) : Prop where
  bl : Blk W L 23 #[v]
  bf : Blk W F 26 #[.int .i64 0, .int .i64 0]
  sc : Sc W S l i
  own : OwnT W (S + 1) v acc
  g : Below w.heap.size w W
  hL : w.heap.size = L
  hF : L + 1 = F
  hS : F + 1 = S
section
variable {w W W1 : World} {L F S : Nat} {l : Bs} {i j : Nat} {v : Value} {acc : List Tok}
theorem TsSt.step (h : TsSt w W L F S l i v acc) {m : Nat} (hS : Sc W1 S l m) (hg : W.grownBy W1 (some S)) : TsSt w W1 L F S l m v acc :=
  ⟨h.bl.grown hg (by have := h.hF; have := h.hS; simp; omega), h.bf.grown hg (by have := h.hS; simp; omega), hS, h.own.kept hg (by omega),
   h.g.grown hg h.g.size (by intro k hk; cases hk; have := h.hL; have := h.hF; have := h.hS; omega), h.hL, h.hF, h.hS⟩
theorem TsSt.kept (h : TsSt w W L F S l i v acc) (hg : W.grownBy W1 none) : TsSt w W1 L F S l i v acc := h.step (h.sc.kept hg) (gb_any hg _)
theorem TsSt.env (h : TsSt w W L F S l i v acc) (hE : Env w) (hsz : 8 ≤ w.heap.size) : Env W := by
  obtain ⟨w0, h1, h2, h3⟩ := hE
  exact ⟨w0, h1, h2, h3.trans (h.g.mono hsz)⟩
theorem TsSt.init (hsz : 8 ≤ w.heap.size) : TsSt w (((w.alloc (.cells #[.slice none 0 0] 23)).alloc (.cells #[.int .i64 0, .int .i64 0] 26)).alloc (.cells #[.string (B l), .int .i64 0] 45)) w.heap.size (w.heap.size + 1) (w.heap.size + 1 + 1) l 0 (.slice none 0 0) [] := by
  have e1 : (w.alloc (.cells #[.slice none 0 0] 23)).heap.size = w.heap.size + 1 := Array.size_push ..
  have e2 : ((w.alloc (.cells #[.slice none 0 0] 23)).alloc (.cells #[.int .i64 0, .int .i64 0] 26)).heap.size = w.heap.size + 2 := by
    rw [show w.heap.size + 2 = (w.alloc (.cells #[.slice none 0 0] 23)).heap.size + 1 by rw [e1]]
    exact Array.size_push ..
  have b1 := Blk.new (w.alloc (.cells #[.slice none 0 0] 23)) 26 #[.int .i64 0, .int .i64 0]
  have b2 := Blk.new ((w.alloc (.cells #[.slice none 0 0] 23)).alloc (.cells #[.int .i64 0, .int .i64 0] 26)) 45 #[.string (B l), .int .i64 0]
  rw [e1] at b1
  rw [e2] at b2
  exact ⟨((Blk.new w _ _).alloc _).alloc _, b1.alloc _, ⟨b2, by omega⟩, OwnT.nil _ _, (((Below.refl _ _).alloc (Nat.le_refl _) _).alloc (by rw [e1]; omega) _).alloc (by rw [e2]; omega) _, rfl, rfl, rfl⟩
end
section
variable {ops : Array Oper} {rest : List Oper} {o : Oper} {a : Act} {Q : Exit → Act → World → Prop}
theorem append_tok {W : World} (hgd : o.guard = none) (s x : Operand) (ho : o.op = .call { callee := .builtin .append, args := #[s, x], argTypes := #[23, 23] })
    (base : Nat) (v : Value) (l : List Tok) (t : Tok) (gS : Nat) (hgS : W.heap.size = gS) (hs : a.eval s = v) (hx : a.eval x = .slice (some ⟨gS, 0, none⟩) 1 1)
    (HO : OwnT W base v l) (hbase : base ≤ W.heap.size) (hl : l.length ≤ 65536)
    (h : ∀ v1 w1, OwnT w1 base v1 (l ++ [t]) → W.grownBy w1 v.ownBlock → (∀ k, v.ownBlock = some k → base ≤ k) → wpList Tryz.prog ops Q rest (a.put o.dst v1) w1) :
    wpList Tryz.prog ops Q (o :: rest) a (W.alloc (.cells #[.int .i64 t.kind, .string (B t.text), .int .i64 t.at_] 35)) := by
  subst hgS
  refine wp_append1 hgd s x 23 35 (.agg #[.int .i64 0, .string ⟨#[]⟩, .int .i64 0]) 3 32 ho Tryz.underlying23 (by kernel_rfl) rfl (by omega) base v l.length (tokVals l) hs hx _ rfl (by simp [Value.oneCell']) HO hbase (by simp [maxLen]; omega) (by omega) ?_
  intro v1 w1 ho1 hg1 hk1
  refine h v1 w1 ?_ hg1 hk1
  unfold OwnT tokVals at *
  simpa using ho1
end
theorem tokVals_len : ∀ ts : List Tok, (tokVals ts).length = 3 * ts.length
  | [] => rfl
  | t :: ts => by
    have := tokVals_len ts
    unfold tokVals at *
    simp [this]
    omega
theorem tokVals_kind (ts : List Tok) (p : Tok) : (tokVals (ts ++ [p]))[ts.length * 3]? = some (.int .i64 p.kind) := by
  have e : tokVals (ts ++ [p]) = tokVals ts ++ [.int .i64 p.kind, .string (B p.text), .int .i64 p.at_] := by
    unfold tokVals
    simp
  rw [e, List.getElem?_append_right (by rw [tokVals_len]; omega), tokVals_len, show ts.length * 3 - 3 * ts.length = 0 by omega]
  rfl
theorem OwnT.cases {w : World} {base : Nat} {v : Value} {ts : List Tok} (h : OwnT w base v ts) : (v = .slice none 0 0 ∧ ts = []) ∨ ∃ g cap, v = .slice (some ⟨g, 0, none⟩) ts.length cap ∧ base ≤ g ∧ ∀ j u, (tokVals ts)[j]? = some u → w.cell? ⟨g, j, none⟩ = some u := by
  rcases h.2 with ⟨hv, hn⟩ | ⟨g, cap, cur, hv, hb, hrest⟩
  · exact .inl ⟨hv, List.eq_nil_of_length_eq_zero hn⟩
  · subst hv
    refine .inr ⟨g, cap, rfl, hb, fun j u hj => ?_⟩
    have hc := World.ownsRow.cells (h := h) (g := g) rfl j u hj
    have ha : (⟨g, 0, none⟩ : Addr).add j = ⟨g, j, none⟩ := by unfold Addr.add; split <;> simp_all
    rwa [ha] at hc
theorem OwnT.some_ {w : World} {base : Nat} {v : Value} {ts : List Tok} {t : Tok} (h : OwnT w base v (ts ++ [t])) : ∃ g n cap, v = .slice (some ⟨g, 0, none⟩) n cap := by
  rcases h.cases with ⟨_, h⟩ | ⟨g, cap, h, _⟩
  · simp at h
  · exact ⟨g, _, cap, h⟩
theorem OwnT.some_cells {w : World} {base : Nat} {v : Value} {ts : List Tok} {t : Tok} (h : OwnT w base v (ts ++ [t])) : ∃ g cap, v = .slice (some ⟨g, 0, none⟩) (ts.length + 1) cap ∧ base ≤ g ∧ ∀ j u, (tokVals (ts ++ [t]))[j]? = some u → w.cell? ⟨g, j, none⟩ = some u := by
  rcases h.cases with ⟨_, h⟩ | ⟨g, cap, h, hb, hc⟩
  · simp at h
  · exact ⟨g, cap, by simpa using h, hb, hc⟩
theorem TsSt.append {w W W4 : World} {L F S : Nat} {l : Bs} {i : Nat} {v v4 : Value} {acc acc4 : List Tok} (h : TsSt w W L F S l i v acc) (hg : W.grownBy W4 v.ownBlock) (ho : OwnT W4 (S + 1) v4 acc4) :
    Blk W4 L 23 #[v] ∧ Blk W4 F 26 #[.int .i64 0, .int .i64 0] ∧ TsSt w (W4.setCell ⟨L, 0, none⟩ v4) L F S l i v4 acc4 := by
  have hge := own_ge h.own
  have e1 := h.hF
  have e2 := h.hS
  have hb : Blk W4 L 23 #[v] := h.bl.own hg (fun x hx => by have := hge x hx; omega)
  have hf : Blk W4 F 26 #[.int .i64 0, .int .i64 0] := h.bf.own hg (fun x hx => by have := hge x hx; omega)
  refine ⟨hb, hf, hb.put 0 v4, hf.far (by simp; omega) _, (h.sc.own hg (fun x hx => by have := hge x hx; omega)).far (by simp; omega) _, ?_, ?_, h.hL, h.hF, h.hS⟩
  · exact own_kept ho (gb_set (gb_refl W4 (some L)) (.inl rfl) v4) (by omega)
  · refine Below.setCell (h.g.grown hg h.g.size (fun k hk => ?_)) (by have := h.hL; simp; omega) _
    have := hge k hk
    have := h.hL
    omega
theorem TsSt.same_l {w W : World} {L F S : Nat} {l : Bs} {i : Nat} {v v0 : Value} {acc : List Tok} (h : TsSt w (W.setCell ⟨L, 0, none⟩ v) L F S l i v acc) (hb : Blk W L 23 #[v0]) : TsSt w ((W.setCell ⟨L, 0, none⟩ v).setCell ⟨L, 0, none⟩ v) L F S l i v acc := by
  have e1 := h.hF
  have e2 := h.hS
  refine ⟨h.bl.put 0 v, h.bf.far (by simp; omega) _, h.sc.far (by simp; omega) _, ?_, h.g.setCell (by have := h.hL; simp; omega) _, h.hL, h.hF, h.hS⟩
  exact own_kept h.own (gb_set (gb_refl _ (some L)) (.inl rfl) v) (by omega)
theorem TsSt.same_f {w W : World} {L F S : Nat} {l : Bs} {i : Nat} {v : Value} {acc : List Tok} (h : TsSt w W L F S l i v acc) : TsSt w ((W.setCell ⟨F, 0, none⟩ (.int .i64 0)).setCell ⟨F, 1, none⟩ (.int .i64 0)) L F S l i v acc := by
  have e1 := h.hF
  have e2 := h.hS
  have hg : W.grownBy ((W.setCell ⟨F, 0, none⟩ (.int .i64 0)).setCell ⟨F, 1, none⟩ (.int .i64 0)) (some F) := by
    refine gb_set (gb_set (gb_refl W (some F)) ?_ _) ?_ _
    · exact .inl rfl
    · exact .inl rfl
  refine ⟨h.bl.grown hg (by simp; omega), (h.bf.put 0 _).put 1 _, h.sc.grown hg (by simp; omega), own_kept h.own hg (by omega), h.g.grown hg h.g.size (by intro k hk; cases hk; have := h.hL; omega), h.hL, h.hF, h.hS⟩
theorem TsSt.tok {w W W3 W4 : World} {L F S T : Nat} {l : Bs} {i : Nat} {v : Value} {acc : List Tok} {cs : Array Value} (h : TsSt w W L F S l i v acc) (hT : W.heap.size = T) (hb : Blk W3 T 35 cs) (hg : W3.grownBy W4 v.ownBlock) : Blk W4 T 35 cs := by
  refine hb.grown hg ?_
  intro e
  have := own_in h.own T e.symm
  omega
theorem tokens_results (tmps : Array Value) (W : World) (L F : Nat) (v x y : Value) (h2 : tmps.getD 2 undef = .pointer (some ⟨L, 0, none⟩)) (h3 : tmps.getD 3 undef = .pointer (some ⟨F, 0, none⟩)) (bl : Blk W L 23 #[v]) (bf : Blk W F 26 #[x, y]) :
    (results Tryz.f10 tmps).run Tryz.prog W = .ok (.tuple #[v, .agg #[x, y]]) W := by
  have h2' : tmps[2]?.getD undef = .pointer (some ⟨L, 0, none⟩) := by simpa using h2
  have h3' : tmps[3]?.getD undef = .pointer (some ⟨F, 0, none⟩) := by simpa using h3
  have hl : (loadVar 23 ⟨L, 0, none⟩).run Tryz.prog W = .ok v W := by
    have c := bl.cell 0
    simp [go_sem, c]
  have hf : (loadVar 26 ⟨F, 0, none⟩).run Tryz.prog W = .ok (.agg #[x, y]) W := run_loadVar_row W F 26 26 #[x, y] (0, 0) _ bf Tryz.underlying26 rfl (by kernel_rfl)
  simp [results, Tryz.results10, h2', h3', asAddr, hl, hf, Sem.run_bind, Result.andThen]
theorem tokens_fault {w W : World} {L F : Nat} {v : Value} {i c : Nat} (bl : Blk W L 23 #[v]) (bf : Blk W F 26 #[.int .i64 0, .int .i64 0]) (g : Below w.heap.size w W) (hL : w.heap.size = L) (hF : L + 1 = F) {Rs : Res} (hR : Rs = .fault i c) (a : Act)
    (hd : a.defers = [{ target := .fn (.func 20) #[.pointer (some ⟨L, 0, none⟩), .pointer (some ⟨F, 0, none⟩)], args := #[] }]) (h2 : a.tmps.getD 2 undef = .pointer (some ⟨L, 0, none⟩)) (h3 : a.tmps.getD 3 undef = .pointer (some ⟨F, 0, none⟩)) :
    bodyPostD Tryz.prog Tryz.f10 (fun e w' => TokPost w e w' Rs) (.panic (fault i c)) a W := by
  subst hR
  show Leaves Tryz.prog Tryz.f10 a.tmps (fun e w' => TokPost w e w' (.fault i c)) a.defers (.panicking (fault i c)) W
  rw [hd]
  refine leaves_cons (f := 20) (args := #[.pointer (some ⟨L, 0, none⟩), .pointer (some ⟨F, 0, none⟩)]) (by simp) (by simp [go_sem]) ?_
  refine (catch_panicking L F w.heap.size W v i c [] bl bf (by omega) (by omega)).mono ?_
  rintro e u' w2 ⟨rfl, rfl, hl2, hf2, hB⟩
  simp only [settle]
  refine ⟨_, tokens_results a.tmps w2 L F _ _ _ h2 h3 hl2 hf2, rfl, below_gb (g.trans hB) none⟩
theorem tokens_done {w W : World} {L F S : Nat} {l : Bs} {i : Nat} {v : Value} {acc : List Tok} (h : TsSt w W L F S l i v acc) {Rs : Res} (hR : Rs = .toks acc) (a : Act)
    (hd : a.defers = [{ target := .fn (.func 20) #[.pointer (some ⟨L, 0, none⟩), .pointer (some ⟨F, 0, none⟩)], args := #[] }]) (h2 : a.tmps.getD 2 undef = .pointer (some ⟨L, 0, none⟩)) (h3 : a.tmps.getD 3 undef = .pointer (some ⟨F, 0, none⟩)) :
    bodyPostD Tryz.prog Tryz.f10 (fun e w' => TokPost w e w' Rs) .ret a W := by
  subst hR
  show Leaves Tryz.prog Tryz.f10 a.tmps (fun e w' => TokPost w e w' (.toks acc)) a.defers .returning W
  rw [hd]
  refine leaves_cons (f := 20) (args := #[.pointer (some ⟨L, 0, none⟩), .pointer (some ⟨F, 0, none⟩)]) (by simp) (by simp [go_sem]) ?_
  refine (catch_idle L F W).mono ?_
  rintro e u' w2 ⟨rfl, rfl, rfl⟩
  simp only [settle]
  refine ⟨_, tokens_results a.tmps w2 L F _ _ _ h2 h3 h.bl h.bf, v, rfl, below_gb h.g none, ?_⟩
  obtain ⟨h1, h2⟩ := h.own
  refine ⟨h1, ?_⟩
  rcases h2 with h2 | ⟨g, cap, cur, e, hb, h3⟩
  · exact .inl h2
  · exact .inr ⟨g, cap, cur, e, by have := h.hL; have := h.hF; have := h.hS; omega, h3⟩
section
set_option maxHeartbeats 4000000
set_option maxRecDepth 100000
theorem Tokens_le (l : Bs) (w : World) (hs : l.length ≤ 65536) (hE : Env w) (hsz : 8 ≤ w.heap.size) : Calls Tryz.prog 10 #[.string (B l)] w fun e w' => TokPost w e w' (tokensS l) := by
  have hz := size_B l
  have hle : decide (65536 < l.length) = false := by simp; omega
  have HE := hide hE
  have hmf : ∀ (fn : Fn) (first cap : Array Value) (w : World), (Instr.makeFunc fn first cap).run Tryz.prog w = .ok (.func fn first cap) w := fun _ _ _ _ => rfl
  have HS := hide (TsSt.init (l := l) hsz)
  clear hE
  have hT0 : Hid (tokensS l = loopS l (l.length + 1) 0 []) := by
    unfold Hid tokensS
    rw [if_neg (by omega)]
  generalize tokensS l = Rs at hT0 ⊢
  go_enter_defers Tryz.func10, Tryz.ntmps10
  go_wp2_with fail
  refine code_forget (fun W => TsSt w W w.heap.size (w.heap.size + 1) (w.heap.size + 1 + 1) l 0 (.slice none 0 0) []) HS.out ?_
  generalize hL : w.heap.size = L
  generalize hF : L + 1 = F
  generalize hSe : F + 1 = S
  clear HS hmf hle
  intro W HS
  replace HS := hide HS
  go_loopw [] (fun wr => ∃ i acc v k, TsSt w wr L F S l i v acc ∧ i ≤ l.length ∧ (acc = [] → v = .slice none 0 0) ∧ l.length - i < k ∧ acc.length ≤ i ∧ Hid (Rs = loopS l k i acc)) (fun wr => l.length - atOf wr S)
  case atStart => exact ⟨0, [], _, l.length + 1, HS.out, Nat.zero_le _, fun _ => rfl, by omega, Nat.zero_le _, hT0⟩
  case round =>
    clear HS hT0
    obtain ⟨i, acc, v, k, HS, hil, hnv, hk, hacc, HT⟩ := hrel
    obtain ⟨k, rfl⟩ : ∃ k', k = k' + 1 := ⟨k - 1, by omega⟩
    have h0 := HS.sc.c0
    have h1 := HS.sc.c1
    have n1 : S ≠ L := by omega
    have n2 : L ≠ F := by omega
    have n3 : F ≠ L := by omega
    replace HS := hide HS
    have hskc := skip_calls S l i
    cases hsk : skipS l i with
    | bad a e =>
      have hq := hide (show Rs = .fault a e by rw [HT.out, loopS, hsk])
      have hc := hide (fun W hW => hsk ▸ skip_calls S l i W hs hil hW)
      clear hsk HT hskc
      go_wp2_with (first | (go_at_call 21; refine (hc.out _ (by exact HS.out.sc)).mono ?_; rintro e w1 ⟨rfl, hg1⟩))
      have HS1 := HS.out
      have bl1 := HS1.bl.grown hg1 (by simpa using n1.symm)
      have bf1 := HS1.bf.grown hg1 (by simp; omega)
      exact tokens_fault bl1 bf1 (HS1.g.grown hg1 HS1.g.size (by intro k hk; cases hk; omega)) hL hF hq.out _ rfl rfl rfl
    | ok u j =>
      have hjl := skipS_bound hil hsk
      obtain ⟨hij, hjl⟩ := hjl
      have hc := hide (fun W hW => hsk ▸ skip_calls S l i W hs hil hW)
      cases htk : tokenS l j with
      | bad a e =>
        have hq := hide (show Rs = .fault a e by rw [HT.out, loopS, hsk]; simp only [htk])
        have hc2 : ∀ W, Sc W S l j → Env W → 8 ≤ W.heap.size → Calls Tryz.prog 22 #[.pointer (some ⟨S, 0, none⟩)] W fun e' w' => e' = .panicked (fault a e) ∧ W.grownBy w' (some S) := by
          intro W h1 h2 h3
          have := token_calls S l j W hs hjl h1 h2 h3
          rw [htk] at this
          exact this
        replace hc2 := hide hc2
        clear hsk HT hskc htk
        go_wp2_with (first | (go_at_call 21; refine (hc.out _ (by exact HS.out.sc)).mono ?_; rintro e w1 ⟨rfl, hS1, hg1⟩; have HS1 := hide (HS.out.step hS1 hg1)) | (go_at_call 22; refine (hc2.out _ (by exact HS1.out.sc) (by exact HS1.out.env HE.out hsz) (by exact Nat.le_trans hsz HS1.out.g.size)).mono ?_; rintro e w2 ⟨rfl, hg2⟩))
        have HS2 := HS1.out
        have bl1 := HS2.bl.grown hg2 (by simpa using n1.symm)
        have bf1 := HS2.bf.grown hg2 (by simp; omega)
        exact tokens_fault bl1 bf1 (HS2.g.grown hg2 HS2.g.size (by intro k hk; cases hk; omega)) hL hF hq.out _ rfl rfl rfl
      | ok t m =>
        obtain ⟨hml, hm1, hm0, -⟩ := tokenS_bound hjl htk
        have hc2 : ∀ W, Sc W S l j → Env W → 8 ≤ W.heap.size → Calls Tryz.prog 22 #[.pointer (some ⟨S, 0, none⟩)] W fun e' w' => e' = .returned (.agg #[.int .i64 t.kind, .string (B t.text), .int .i64 t.at_]) ∧ Sc w' S l m ∧ W.grownBy w' (some S) := by
          intro W h1 h2 h3
          have := token_calls S l j W hs hjl h1 h2 h3
          rw [htk] at this
          exact this
        replace hc2 := hide hc2
        rcases HS.out.own.cases with ⟨rfl, rfl⟩ | ⟨g, cap, rfl, hbg, hcells⟩
        · have hq := hide (show Rs = if t.kind = 0 then .toks [t] else loopS l k m [t] by rw [HT.out, loopS, hsk]; simp only [htk]; rfl)
          clear hsk hskc htk
          go_wp2_with (first | (go_at_call 21; refine (hc.out _ (by exact HS.out.sc)).mono ?_; rintro e w1 ⟨rfl, hS1, hg1⟩; have HS1 := hide (HS.out.step hS1 hg1)) | (go_at_call 22; refine (hc2.out _ (by exact HS1.out.sc) (by exact HS1.out.env HE.out hsz) (by exact Nat.le_trans hsz HS1.out.g.size)).mono ?_; rintro e w2 ⟨rfl, hS2, hg2⟩; have HS2 := HS1.out.step hS2 hg2; have HS3 := HS2.kept (World.grownBy_alloc w2 (.cells #[.int .i64 t.kind, .string (B t.text), .int .i64 t.at_] 35) none); have d0 : (w2.alloc (.cells #[.int .i64 t.kind, .string (B t.text), .int .i64 t.at_] 35)).cell? ⟨L, 0, none⟩ = some (.slice none 0 0) := HS3.bl.cell 0; have d1 := HS3.bl.frozen 0; have d2 := HS2.bl.lt; replace HS2 := hide HS2; replace HS3 := hide HS3) | (at_builtin; refine append_tok rfl _ _ rfl (S + 1) (.slice none 0 0) [] t (w2.heap.size + 1) (Array.size_push ..) rfl rfl HS3.out.own ?_ ?_ ?_; exact HS3.out.sc.lt; (simp); intro v4 w4 ho4 hg4 hk4; obtain ⟨g4, n4, cap4, rfl⟩ := ho4.some_; have HS4 := HS3.out.append hg4 ho4; have bT := HS2.out.tok rfl (Blk.new w2 _ _) hg4; have q0 : w4.cell? ⟨L, 0, none⟩ = some (.slice none 0 0) := HS4.1.cell 0; have q1 := HS4.1.frozen 0; have q2 : w4.cell? ⟨w2.heap.size, 0, none⟩ = some (.int .i64 t.kind) := bT.cell 0; have q3 : w2.heap.size ≠ L := (by omega); have q4 : w4.cell? ⟨F, 0, none⟩ = some (.int .i64 0) := HS4.2.1.cell 0; have q5 : w4.cell? ⟨F, 1, none⟩ = some (.int .i64 0) := HS4.2.1.cell 1; have q6 := HS4.2.1.frozen; have HS5 := hide HS4.2.2; have HB4 := hide HS4.1; have HF4 := hide HS4.2.1; clear HS4 bT))
          · rename_i hk0
            exact tokens_done (HS5.out.same_l HB4.out).same_f (by rw [hq.out, if_pos (by simpa using hk0)]; rfl) _ rfl rfl rfl
          · rename_i hk0
            have hk1 : ¬ t.kind = 0 := by simpa using hk0
            have hjm := hm1 hk1
            refine ⟨⟨m, [t], _, k, HS5.out, hml, (by simp), ?_, ?_, ?_⟩, ?_⟩
            · have := hjm
              omega
            · have := hjm
              simp
              omega
            · unfold Hid
              rw [hq.out, if_neg hk1]
            · have := hjm
              have e1 := HS.out.sc.at_
              have e2 := HS5.out.sc.at_
              rw [e1, e2]
              omega
        · obtain ⟨az, p, rfl⟩ : ∃ az p, acc = az ++ [p] := by
            rcases List.eq_nil_or_concat acc with h | ⟨az, p, h⟩
            · have := hnv h
              cases this
            · exact ⟨az, p, by simpa using h⟩
          have hlen : (az ++ [p]).length = az.length + 1 := by simp
          rw [hlen] at hacc HS
          have htl := toList_B t.text
          clear hcells
          cases tk6 : (t.kind == 6) with
          | false =>
            have hcl : called (az ++ [p]) i t = t := by
              unfold called
              rw [List.getLast?_concat]
              simp only
              rw [if_neg]
              rintro ⟨h, _⟩
              rw [h] at tk6
              cases tk6
            have hq := hide (show Rs = if t.kind = 0 then .toks (az ++ [p] ++ [t]) else loopS l k m (az ++ [p] ++ [t]) by rw [HT.out, loopS, hsk]; simp only [htk, hcl])
            clear hsk hskc htk
            go_wp2_with (first | (go_at_call 21; refine (hc.out _ (by exact HS.out.sc)).mono ?_; rintro e w1 ⟨rfl, hS1, hg1⟩; have HS1 := hide (HS.out.step hS1 hg1)) | (go_at_call 22; refine (hc2.out _ (by exact HS1.out.sc) (by exact HS1.out.env HE.out hsz) (by exact Nat.le_trans hsz HS1.out.g.size)).mono ?_; rintro e w2 ⟨rfl, hS2, hg2⟩; have HS2 := HS1.out.step hS2 hg2; have HS3 := HS2.kept (World.grownBy_alloc w2 (.cells #[.int .i64 t.kind, .string (B t.text), .int .i64 t.at_] 35) none); have d0 : (w2.alloc (.cells #[.int .i64 t.kind, .string (B t.text), .int .i64 t.at_] 35)).cell? ⟨L, 0, none⟩ = some (.slice (some ⟨g, 0, none⟩) (az.length + 1) cap) := HS3.bl.cell 0; have d1 := HS3.bl.frozen 0; have d2 := HS2.bl.lt; have d3 : (w2.alloc (.cells #[.int .i64 t.kind, .string (B t.text), .int .i64 t.at_] 35)).cell? ⟨g, az.length * 3, none⟩ = some (.int .i64 p.kind) := (by obtain ⟨_, _, ee, _, hcc⟩ := HS3.own.some_cells; cases ee; exact hcc _ _ (tokVals_kind az p)); replace HS2 := hide HS2; replace HS3 := hide HS3) | (at_builtin; refine append_tok rfl _ _ rfl (S + 1) (.slice (some ⟨g, 0, none⟩) (az.length + 1) cap) (az ++ [p]) t (w2.heap.size + 1) (Array.size_push ..) rfl rfl HS3.out.own ?_ ?_ ?_; exact HS3.out.sc.lt; (simp; omega); intro v4 w4 ho4 hg4 hk4; obtain ⟨g4, n4, cap4, rfl⟩ := ho4.some_; have HS4 := HS3.out.append hg4 ho4; have bT := HS2.out.tok rfl (Blk.new w2 _ _) hg4; have q0 : w4.cell? ⟨L, 0, none⟩ = some (.slice (some ⟨g, 0, none⟩) (az.length + 1) cap) := HS4.1.cell 0; have q1 := HS4.1.frozen 0; have q2 : w4.cell? ⟨w2.heap.size, 0, none⟩ = some (.int .i64 t.kind) := bT.cell 0; have q3 : w2.heap.size ≠ L := (by omega); have q4 : w4.cell? ⟨F, 0, none⟩ = some (.int .i64 0) := HS4.2.1.cell 0; have q5 : w4.cell? ⟨F, 1, none⟩ = some (.int .i64 0) := HS4.2.1.cell 1; have q6 := HS4.2.1.frozen; have HS5 := hide HS4.2.2; have HB4 := hide HS4.1; have HF4 := hide HS4.2.1; clear HS4 bT))
            · rename_i hk0
              exact tokens_done (HS5.out.same_l HB4.out).same_f (by rw [hq.out, if_pos (by simpa using hk0)]) _ rfl rfl rfl
            · rename_i hk0
              have hk1 : ¬ t.kind = 0 := by simpa using hk0
              have hjm := hm1 hk1
              refine ⟨⟨m, az ++ [p] ++ [t], _, k, HS5.out, hml, (by simp), ?_, ?_, ?_⟩, ?_⟩
              · have := hjm
                omega
              · have := hjm
                simp
                omega
              · unfold Hid
                rw [hq.out, if_neg hk1]
              · have := hjm
                have e1 := HS.out.sc.at_
                have e2 := HS5.out.sc.at_
                rw [e1, e2]
                omega
          | true =>
            have hk6 : t.kind = 6 := by simpa using tk6
            cases tx : (t.text == [40]) with
            | false =>
              have hcl : called (az ++ [p]) i t = t := by
                have h : ¬ t.text = [40] := by simpa using tx
                simp [called, h]
              clear hk6
              have hq := hide (show Rs = if t.kind = 0 then .toks (az ++ [p] ++ [t]) else loopS l k m (az ++ [p] ++ [t]) by rw [HT.out, loopS, hsk]; simp only [htk, hcl])
              clear hsk hskc htk
              go_wp2_with (first | (go_at_call 21; refine (hc.out _ (by exact HS.out.sc)).mono ?_; rintro e w1 ⟨rfl, hS1, hg1⟩; have HS1 := hide (HS.out.step hS1 hg1)) | (go_at_call 22; refine (hc2.out _ (by exact HS1.out.sc) (by exact HS1.out.env HE.out hsz) (by exact Nat.le_trans hsz HS1.out.g.size)).mono ?_; rintro e w2 ⟨rfl, hS2, hg2⟩; have HS2 := HS1.out.step hS2 hg2; have HS3 := HS2.kept (World.grownBy_alloc w2 (.cells #[.int .i64 t.kind, .string (B t.text), .int .i64 t.at_] 35) none); have d0 : (w2.alloc (.cells #[.int .i64 t.kind, .string (B t.text), .int .i64 t.at_] 35)).cell? ⟨L, 0, none⟩ = some (.slice (some ⟨g, 0, none⟩) (az.length + 1) cap) := HS3.bl.cell 0; have d1 := HS3.bl.frozen 0; have d2 := HS2.bl.lt; have d3 : (w2.alloc (.cells #[.int .i64 t.kind, .string (B t.text), .int .i64 t.at_] 35)).cell? ⟨g, az.length * 3, none⟩ = some (.int .i64 p.kind) := (by obtain ⟨_, _, ee, _, hcc⟩ := HS3.own.some_cells; cases ee; exact hcc _ _ (tokVals_kind az p)); replace HS2 := hide HS2; replace HS3 := hide HS3) | (at_builtin; refine append_tok rfl _ _ rfl (S + 1) (.slice (some ⟨g, 0, none⟩) (az.length + 1) cap) (az ++ [p]) t (w2.heap.size + 1) (Array.size_push ..) rfl rfl HS3.out.own ?_ ?_ ?_; exact HS3.out.sc.lt; (simp; omega); intro v4 w4 ho4 hg4 hk4; obtain ⟨g4, n4, cap4, rfl⟩ := ho4.some_; have HS4 := HS3.out.append hg4 ho4; have bT := HS2.out.tok rfl (Blk.new w2 _ _) hg4; have q0 : w4.cell? ⟨L, 0, none⟩ = some (.slice (some ⟨g, 0, none⟩) (az.length + 1) cap) := HS4.1.cell 0; have q1 := HS4.1.frozen 0; have q2 : w4.cell? ⟨w2.heap.size, 0, none⟩ = some (.int .i64 t.kind) := bT.cell 0; have q3 : w2.heap.size ≠ L := (by omega); have q4 : w4.cell? ⟨F, 0, none⟩ = some (.int .i64 0) := HS4.2.1.cell 0; have q5 : w4.cell? ⟨F, 1, none⟩ = some (.int .i64 0) := HS4.2.1.cell 1; have q6 := HS4.2.1.frozen; have HS5 := hide HS4.2.2; have HB4 := hide HS4.1; have HF4 := hide HS4.2.1; clear HS4 bT))
              · have hk1 : ¬ t.kind = 0 := by simp at tk6; omega
                have hjm := hm1 hk1
                refine ⟨⟨m, az ++ [p] ++ [t], _, k, HS5.out, hml, (by simp), ?_, ?_, ?_⟩, ?_⟩
                · have := hjm
                  omega
                · have := hjm
                  simp
                  omega
                · unfold Hid
                  rw [hq.out, if_neg hk1]
                · have := hjm
                  have e1 := HS.out.sc.at_
                  have e2 := HS5.out.sc.at_
                  rw [e1, e2]
                  omega
            | true =>
              have hx : t.text = [40] := by simpa using tx
              cases ba : ((i : Int) == t.at_) with
              | false =>
                have hcl : called (az ++ [p]) i t = t := by
                  have h : ¬ (i : Int) = t.at_ := by simpa using ba
                  simp [called, h]
                clear hx hk6
                have hq := hide (show Rs = if t.kind = 0 then .toks (az ++ [p] ++ [t]) else loopS l k m (az ++ [p] ++ [t]) by rw [HT.out, loopS, hsk]; simp only [htk, hcl])
                clear hsk hskc htk
                go_wp2_with (first | (go_at_call 21; refine (hc.out _ (by exact HS.out.sc)).mono ?_; rintro e w1 ⟨rfl, hS1, hg1⟩; have HS1 := hide (HS.out.step hS1 hg1)) | (go_at_call 22; refine (hc2.out _ (by exact HS1.out.sc) (by exact HS1.out.env HE.out hsz) (by exact Nat.le_trans hsz HS1.out.g.size)).mono ?_; rintro e w2 ⟨rfl, hS2, hg2⟩; have HS2 := HS1.out.step hS2 hg2; have HS3 := HS2.kept (World.grownBy_alloc w2 (.cells #[.int .i64 t.kind, .string (B t.text), .int .i64 t.at_] 35) none); have d0 : (w2.alloc (.cells #[.int .i64 t.kind, .string (B t.text), .int .i64 t.at_] 35)).cell? ⟨L, 0, none⟩ = some (.slice (some ⟨g, 0, none⟩) (az.length + 1) cap) := HS3.bl.cell 0; have d1 := HS3.bl.frozen 0; have d2 := HS2.bl.lt; have d3 : (w2.alloc (.cells #[.int .i64 t.kind, .string (B t.text), .int .i64 t.at_] 35)).cell? ⟨g, az.length * 3, none⟩ = some (.int .i64 p.kind) := (by obtain ⟨_, _, ee, _, hcc⟩ := HS3.own.some_cells; cases ee; exact hcc _ _ (tokVals_kind az p)); replace HS2 := hide HS2; replace HS3 := hide HS3) | (at_builtin; refine append_tok rfl _ _ rfl (S + 1) (.slice (some ⟨g, 0, none⟩) (az.length + 1) cap) (az ++ [p]) t (w2.heap.size + 1) (Array.size_push ..) rfl rfl HS3.out.own ?_ ?_ ?_; exact HS3.out.sc.lt; (simp; omega); intro v4 w4 ho4 hg4 hk4; obtain ⟨g4, n4, cap4, rfl⟩ := ho4.some_; have HS4 := HS3.out.append hg4 ho4; have bT := HS2.out.tok rfl (Blk.new w2 _ _) hg4; have q0 : w4.cell? ⟨L, 0, none⟩ = some (.slice (some ⟨g, 0, none⟩) (az.length + 1) cap) := HS4.1.cell 0; have q1 := HS4.1.frozen 0; have q2 : w4.cell? ⟨w2.heap.size, 0, none⟩ = some (.int .i64 t.kind) := bT.cell 0; have q3 : w2.heap.size ≠ L := (by omega); have q4 : w4.cell? ⟨F, 0, none⟩ = some (.int .i64 0) := HS4.2.1.cell 0; have q5 : w4.cell? ⟨F, 1, none⟩ = some (.int .i64 0) := HS4.2.1.cell 1; have q6 := HS4.2.1.frozen; have HS5 := hide HS4.2.2; have HB4 := hide HS4.1; have HF4 := hide HS4.2.1; clear HS4 bT))
                · have hk1 : ¬ t.kind = 0 := by simp at tk6; omega
                  have hjm := hm1 hk1
                  refine ⟨⟨m, az ++ [p] ++ [t], _, k, HS5.out, hml, (by simp), ?_, ?_, ?_⟩, ?_⟩
                  · have := hjm
                    omega
                  · have := hjm
                    simp
                    omega
                  · unfold Hid
                    rw [hq.out, if_neg hk1]
                  · have := hjm
                    have e1 := HS.out.sc.at_
                    have e2 := HS5.out.sc.at_
                    rw [e1, e2]
                    omega
              | true =>
                have hb : (i : Int) = t.at_ := by simpa using ba
                cases p1 : (p.kind == 1) with
                | true =>
                  have hcl : called (az ++ [p]) i t = { t with text := [40, 40] } := by
                    have h : p.kind = 1 := by simpa using p1
                    simp [called, h, hk6, hx, hb]
                  clear hx hk6 hb
                  have hq := hide (show Rs = if t.kind = 0 then .toks (az ++ [p] ++ [{ t with text := [40, 40] }]) else loopS l k m (az ++ [p] ++ [{ t with text := [40, 40] }]) by rw [HT.out, loopS, hsk]; simp only [htk, hcl])
                  clear hsk hskc htk
                  go_wp2_with (first | (go_at_call 21; refine (hc.out _ (by exact HS.out.sc)).mono ?_; rintro e w1 ⟨rfl, hS1, hg1⟩; have HS1 := hide (HS.out.step hS1 hg1)) | (go_at_call 22; refine (hc2.out _ (by exact HS1.out.sc) (by exact HS1.out.env HE.out hsz) (by exact Nat.le_trans hsz HS1.out.g.size)).mono ?_; rintro e w2 ⟨rfl, hS2, hg2⟩; have HS2 := HS1.out.step hS2 hg2; have HS3 := HS2.kept (World.grownBy_alloc w2 (.cells #[.int .i64 t.kind, .string (B t.text), .int .i64 t.at_] 35) none); have d0 : (w2.alloc (.cells #[.int .i64 t.kind, .string (B t.text), .int .i64 t.at_] 35)).cell? ⟨L, 0, none⟩ = some (.slice (some ⟨g, 0, none⟩) (az.length + 1) cap) := HS3.bl.cell 0; have d1 := HS3.bl.frozen 0; have HS7 := HS2.kept (World.grownBy_alloc w2 (.cells #[.int .i64 t.kind, .string ⟨#[40, 40]⟩, .int .i64 t.at_] 35) none); have d4 : (w2.alloc (.cells #[.int .i64 t.kind, .string ⟨#[40, 40]⟩, .int .i64 t.at_] 35)).cell? ⟨L, 0, none⟩ = some (.slice (some ⟨g, 0, none⟩) (az.length + 1) cap) := HS7.bl.cell 0; have d5 := HS7.bl.frozen 0; clear HS7; have d2 := HS2.bl.lt; have d3 : (w2.alloc (.cells #[.int .i64 t.kind, .string (B t.text), .int .i64 t.at_] 35)).cell? ⟨g, az.length * 3, none⟩ = some (.int .i64 p.kind) := (by obtain ⟨_, _, ee, _, hcc⟩ := HS3.own.some_cells; cases ee; exact hcc _ _ (tokVals_kind az p)); replace HS2 := hide HS2; replace HS3 := hide HS3) | (at_builtin; have HS6 := HS2.out.kept (World.grownBy_alloc w2 (.cells #[.int .i64 t.kind, .string ⟨#[40, 40]⟩, .int .i64 t.at_] 35) none); refine append_tok rfl _ _ rfl (S + 1) (.slice (some ⟨g, 0, none⟩) (az.length + 1) cap) (az ++ [p]) { t with text := [40, 40] } (w2.heap.size + 1) (Array.size_push ..) rfl rfl HS6.own ?_ ?_ ?_; exact HS6.sc.lt; (simp; omega); intro v4 w4 ho4 hg4 hk4; obtain ⟨g4, n4, cap4, rfl⟩ := ho4.some_; have HS4 := HS6.append hg4 ho4; have bT := HS2.out.tok rfl (Blk.new w2 _ _) hg4; have q0 : w4.cell? ⟨L, 0, none⟩ = some (.slice (some ⟨g, 0, none⟩) (az.length + 1) cap) := HS4.1.cell 0; have q1 := HS4.1.frozen 0; have q2 : w4.cell? ⟨w2.heap.size, 0, none⟩ = some (.int .i64 t.kind) := bT.cell 0; have q3 : w2.heap.size ≠ L := (by omega); have q4 : w4.cell? ⟨F, 0, none⟩ = some (.int .i64 0) := HS4.2.1.cell 0; have q5 : w4.cell? ⟨F, 1, none⟩ = some (.int .i64 0) := HS4.2.1.cell 1; have q6 := HS4.2.1.frozen; have HS5 := hide HS4.2.2; have HB4 := hide HS4.1; have HF4 := hide HS4.2.1; clear HS4 bT))
                  · have hk1 : ¬ t.kind = 0 := by simp at tk6; omega
                    have hjm := hm1 hk1
                    refine ⟨⟨m, az ++ [p] ++ [{ t with text := [40, 40] }], _, k, HS5.out, hml, (by simp), ?_, ?_, ?_⟩, ?_⟩
                    · have := hjm
                      omega
                    · have := hjm
                      simp
                      omega
                    · unfold Hid
                      rw [hq.out, if_neg hk1]
                    · have := hjm
                      have e1 := HS.out.sc.at_
                      have e2 := HS5.out.sc.at_
                      rw [e1, e2]
                      omega
                | false =>
                  have hp1 : ¬ p.kind = 1 := by simpa using p1
                  cases p2 : (p.kind == 2) with
                  | true =>
                    have hcl : called (az ++ [p]) i t = { t with text := [40, 40] } := by
                      have h : p.kind = 2 := by simpa using p2
                      simp [called, h, hk6, hx, hb]
                    clear hx hk6 hb hp1
                    have hq := hide (show Rs = if t.kind = 0 then .toks (az ++ [p] ++ [{ t with text := [40, 40] }]) else loopS l k m (az ++ [p] ++ [{ t with text := [40, 40] }]) by rw [HT.out, loopS, hsk]; simp only [htk, hcl])
                    clear hsk hskc htk
                    go_wp2_with (first | (go_at_call 21; refine (hc.out _ (by exact HS.out.sc)).mono ?_; rintro e w1 ⟨rfl, hS1, hg1⟩; have HS1 := hide (HS.out.step hS1 hg1)) | (go_at_call 22; refine (hc2.out _ (by exact HS1.out.sc) (by exact HS1.out.env HE.out hsz) (by exact Nat.le_trans hsz HS1.out.g.size)).mono ?_; rintro e w2 ⟨rfl, hS2, hg2⟩; have HS2 := HS1.out.step hS2 hg2; have HS3 := HS2.kept (World.grownBy_alloc w2 (.cells #[.int .i64 t.kind, .string (B t.text), .int .i64 t.at_] 35) none); have d0 : (w2.alloc (.cells #[.int .i64 t.kind, .string (B t.text), .int .i64 t.at_] 35)).cell? ⟨L, 0, none⟩ = some (.slice (some ⟨g, 0, none⟩) (az.length + 1) cap) := HS3.bl.cell 0; have d1 := HS3.bl.frozen 0; have HS7 := HS2.kept (World.grownBy_alloc w2 (.cells #[.int .i64 t.kind, .string ⟨#[40, 40]⟩, .int .i64 t.at_] 35) none); have d4 : (w2.alloc (.cells #[.int .i64 t.kind, .string ⟨#[40, 40]⟩, .int .i64 t.at_] 35)).cell? ⟨L, 0, none⟩ = some (.slice (some ⟨g, 0, none⟩) (az.length + 1) cap) := HS7.bl.cell 0; have d5 := HS7.bl.frozen 0; clear HS7; have d2 := HS2.bl.lt; have d3 : (w2.alloc (.cells #[.int .i64 t.kind, .string (B t.text), .int .i64 t.at_] 35)).cell? ⟨g, az.length * 3, none⟩ = some (.int .i64 p.kind) := (by obtain ⟨_, _, ee, _, hcc⟩ := HS3.own.some_cells; cases ee; exact hcc _ _ (tokVals_kind az p)); replace HS2 := hide HS2; replace HS3 := hide HS3) | (at_builtin; have HS6 := HS2.out.kept (World.grownBy_alloc w2 (.cells #[.int .i64 t.kind, .string ⟨#[40, 40]⟩, .int .i64 t.at_] 35) none); refine append_tok rfl _ _ rfl (S + 1) (.slice (some ⟨g, 0, none⟩) (az.length + 1) cap) (az ++ [p]) { t with text := [40, 40] } (w2.heap.size + 1) (Array.size_push ..) rfl rfl HS6.own ?_ ?_ ?_; exact HS6.sc.lt; (simp; omega); intro v4 w4 ho4 hg4 hk4; obtain ⟨g4, n4, cap4, rfl⟩ := ho4.some_; have HS4 := HS6.append hg4 ho4; have bT := HS2.out.tok rfl (Blk.new w2 _ _) hg4; have q0 : w4.cell? ⟨L, 0, none⟩ = some (.slice (some ⟨g, 0, none⟩) (az.length + 1) cap) := HS4.1.cell 0; have q1 := HS4.1.frozen 0; have q2 : w4.cell? ⟨w2.heap.size, 0, none⟩ = some (.int .i64 t.kind) := bT.cell 0; have q3 : w2.heap.size ≠ L := (by omega); have q4 : w4.cell? ⟨F, 0, none⟩ = some (.int .i64 0) := HS4.2.1.cell 0; have q5 : w4.cell? ⟨F, 1, none⟩ = some (.int .i64 0) := HS4.2.1.cell 1; have q6 := HS4.2.1.frozen; have HS5 := hide HS4.2.2; have HB4 := hide HS4.1; have HF4 := hide HS4.2.1; clear HS4 bT))
                    · have hk1 : ¬ t.kind = 0 := by simp at tk6; omega
                      have hjm := hm1 hk1
                      refine ⟨⟨m, az ++ [p] ++ [{ t with text := [40, 40] }], _, k, HS5.out, hml, (by simp), ?_, ?_, ?_⟩, ?_⟩
                      · have := hjm
                        omega
                      · have := hjm
                        simp
                        omega
                      · unfold Hid
                        rw [hq.out, if_neg hk1]
                      · have := hjm
                        have e1 := HS.out.sc.at_
                        have e2 := HS5.out.sc.at_
                        rw [e1, e2]
                        omega
                  | false =>
                    have hcl : called (az ++ [p]) i t = t := by
                      have h : ¬ p.kind = 2 := by simpa using p2
                      simp [called, h, hp1]
                    clear hx hk6 hb hp1
                    have hq := hide (show Rs = if t.kind = 0 then .toks (az ++ [p] ++ [t]) else loopS l k m (az ++ [p] ++ [t]) by rw [HT.out, loopS, hsk]; simp only [htk, hcl])
                    clear hsk hskc htk
                    go_wp2_with (first | (go_at_call 21; refine (hc.out _ (by exact HS.out.sc)).mono ?_; rintro e w1 ⟨rfl, hS1, hg1⟩; have HS1 := hide (HS.out.step hS1 hg1)) | (go_at_call 22; refine (hc2.out _ (by exact HS1.out.sc) (by exact HS1.out.env HE.out hsz) (by exact Nat.le_trans hsz HS1.out.g.size)).mono ?_; rintro e w2 ⟨rfl, hS2, hg2⟩; have HS2 := HS1.out.step hS2 hg2; have HS3 := HS2.kept (World.grownBy_alloc w2 (.cells #[.int .i64 t.kind, .string (B t.text), .int .i64 t.at_] 35) none); have d0 : (w2.alloc (.cells #[.int .i64 t.kind, .string (B t.text), .int .i64 t.at_] 35)).cell? ⟨L, 0, none⟩ = some (.slice (some ⟨g, 0, none⟩) (az.length + 1) cap) := HS3.bl.cell 0; have d1 := HS3.bl.frozen 0; have HS7 := HS2.kept (World.grownBy_alloc w2 (.cells #[.int .i64 t.kind, .string ⟨#[40, 40]⟩, .int .i64 t.at_] 35) none); have d4 : (w2.alloc (.cells #[.int .i64 t.kind, .string ⟨#[40, 40]⟩, .int .i64 t.at_] 35)).cell? ⟨L, 0, none⟩ = some (.slice (some ⟨g, 0, none⟩) (az.length + 1) cap) := HS7.bl.cell 0; have d5 := HS7.bl.frozen 0; clear HS7; have d2 := HS2.bl.lt; have d3 : (w2.alloc (.cells #[.int .i64 t.kind, .string (B t.text), .int .i64 t.at_] 35)).cell? ⟨g, az.length * 3, none⟩ = some (.int .i64 p.kind) := (by obtain ⟨_, _, ee, _, hcc⟩ := HS3.own.some_cells; cases ee; exact hcc _ _ (tokVals_kind az p)); replace HS2 := hide HS2; replace HS3 := hide HS3) | (at_builtin; refine append_tok rfl _ _ rfl (S + 1) (.slice (some ⟨g, 0, none⟩) (az.length + 1) cap) (az ++ [p]) t (w2.heap.size + 1) (Array.size_push ..) rfl rfl HS3.out.own ?_ ?_ ?_; exact HS3.out.sc.lt; (simp; omega); intro v4 w4 ho4 hg4 hk4; obtain ⟨g4, n4, cap4, rfl⟩ := ho4.some_; have HS4 := HS3.out.append hg4 ho4; have bT := HS2.out.tok rfl (Blk.new w2 _ _) hg4; have q0 : w4.cell? ⟨L, 0, none⟩ = some (.slice (some ⟨g, 0, none⟩) (az.length + 1) cap) := HS4.1.cell 0; have q1 := HS4.1.frozen 0; have q2 : w4.cell? ⟨w2.heap.size, 0, none⟩ = some (.int .i64 t.kind) := bT.cell 0; have q3 : w2.heap.size ≠ L := (by omega); have q4 : w4.cell? ⟨F, 0, none⟩ = some (.int .i64 0) := HS4.2.1.cell 0; have q5 : w4.cell? ⟨F, 1, none⟩ = some (.int .i64 0) := HS4.2.1.cell 1; have q6 := HS4.2.1.frozen; have HS5 := hide HS4.2.2; have HB4 := hide HS4.1; have HF4 := hide HS4.2.1; clear HS4 bT))
                    · have hk1 : ¬ t.kind = 0 := by simp at tk6; omega
                      have hjm := hm1 hk1
                      refine ⟨⟨m, az ++ [p] ++ [t], _, k, HS5.out, hml, (by simp), ?_, ?_, ?_⟩, ?_⟩
                      · have := hjm
                        omega
                      · have := hjm
                        simp
                        omega
                      · unfold Hid
                        rw [hq.out, if_neg hk1]
                      · have := hjm
                        have e1 := HS.out.sc.at_
                        have e2 := HS5.out.sc.at_
                        rw [e1, e2]
                        omega
theorem Tokens_long (l : Bs) (w : World) (hs : 65536 < l.length) (hm : l.length ≤ 9223372036854775807) : Calls Tryz.prog 10 #[.string (B l)] w fun e w' => TokPost w e w' (tokensS l) := by
  have hz := size_B l
  have hle : decide (65536 < l.length) = true := by simpa using hs
  have hR : tokensS l = .fault 0 6 := by
    unfold tokensS
    rw [if_pos hs]
  rw [hR]
  have b0 : Blk ((w.alloc (.cells #[.slice none 0 0] 23)).alloc (.cells #[.int .i64 0, .int .i64 6] 26)) w.heap.size 23 #[.slice none 0 0] := (Blk.new w _ _).alloc _
  have e1 : (w.alloc (.cells #[.slice none 0 0] 23)).heap.size = w.heap.size + 1 := Array.size_push ..
  have b1 := Blk.new (w.alloc (.cells #[.slice none 0 0] 23)) 26 #[.int .i64 0, .int .i64 6]
  rw [e1] at b1
  have hB := hide b0
  have hB1 := hide b1
  clear b0 b1 e1
  go_enter_defers Tryz.func10, Tryz.ntmps10
  go_wp2
  exact ⟨_, tokens_results _ _ w.heap.size (w.heap.size + 1) _ _ _ rfl rfl hB.out hB1.out, rfl, gb_alloc (gb_alloc (gb_refl _ _) _) _⟩
theorem Tokens_calls (l : Bs) (w : World) (hm : l.length ≤ 9223372036854775807) (hE : Env w) (hsz : 8 ≤ w.heap.size) : Calls Tryz.prog 10 #[.string (B l)] w fun e w' => TokPost w e w' (tokensS l) := by
  by_cases hs : l.length ≤ 65536
  · exact Tokens_le l w hs hE hsz
  · exact Tokens_long l w (by omega) hm
end
end Go.Proofs.YtgeonilideojnaaGreatDoor.Tk
end
