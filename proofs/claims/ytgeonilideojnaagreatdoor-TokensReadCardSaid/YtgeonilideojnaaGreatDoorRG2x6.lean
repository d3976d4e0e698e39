/- A part of a proof over the package's statements: contracts of functions and plain facts, merged by a program of this session's. -/
import Derived.StillTailTactics
import Derived.Test.YtgeonilideojnaaGreatDoorRG1x1
import Derived.Test.YtgeonilideojnaaGreatDoorRG1x2
import Derived.Test.YtgeonilideojnaaGreatDoorRG1x3
import Derived.Test.YtgeonilideojnaaGreatDoorRG1x4
import Derived.Test.YtgeonilideojnaaGreatDoorRG1x5
import Derived.Test.YtgeonilideojnaaGreatDoorRG1x6
import Derived.Test.YtgeonilideojnaaGreatDoorRG2x1
import Derived.Test.YtgeonilideojnaaGreatDoorRG2x2
import Derived.Test.YtgeonilideojnaaGreatDoorRG2x3
import Derived.Test.YtgeonilideojnaaGreatDoorRG2x4
import Derived.Test.YtgeonilideojnaaGreatDoorRG2x5
section
namespace Go.Proofs.YtgeonilideojnaaGreatDoor.Rs
open Go Go.RowKit Tk Go.Proofs.YtgeonilideojnaaGreatDoor.Pr Go.Proofs.YtgeonilideojnaaGreatDoorW.PrintWords Go.Proofs.YtgeonilideojnaaGreatDoor.Rf
set_option linter.unusedVariables false
set_option linter.unusedSimpArgs false
def addNR (acc : List Tok) (i : Nat) (k : Int) (s : Bs) (j : Nat) : NR := if checkS k s = 0 then .ok j (acc ++ [⟨k, s, i⟩]) j else .bad i (checkS k s)
theorem radd_post {w W : World} {b : Nat} {l : Bs} {i : Nat} {v : Value} {acc : List Tok} {tx : Nat} (k : Int) (s : Bs) (j : Nat) (hl : s.length ≤ 65536) (ha : acc.length ≤ 65536) (h : Rs W b l i v acc tx 0 0) (hb : Below b w W) :
    Calls Tryz.prog 70 #[.pointer (some ⟨b, 0, none⟩), .int .i64 k, .string (B s), .int .i64 (j : Int)] W (RsPost w b l (addNR acc i k s j)) := by
  refine (radd_calls b l i v acc tx 0 0 k s j W hl ha h).mono ?_
  rintro e w' ⟨rfl, ⟨v', h1⟩, h2⟩
  unfold addNR
  unfold addE at h1
  simp only at h1
  by_cases hc : checkS k s = 0
  · rw [if_pos hc]
    rw [if_neg (by rintro ⟨_, h⟩; exact h hc)] at h1
    exact ⟨rfl, ⟨v', h1⟩, hb.trans (h2.mono (Nat.le_refl _))⟩
  · rw [if_neg hc]
    rw [if_pos (by simp [hc])] at h1
    exact ⟨rfl, ⟨_, _, _, _, h1⟩, hb.trans h2⟩
theorem tail_drew {P : Program} {id : Nat} {Q : Exit → Act → World → Prop} {a : Act} {w : World} {l : List Oper} (n : Nat) (hm : P.follows .mixedOrders = true) (hB : Region.lexTailB .any l.toArray n = true)
    (h : wpStill P l.toArray w.drew (fun a' => wpList P l.toArray Q (l.drop n) a' w.drew) (l.take n) a) : (Code.region id l.toArray true).wp P Q a w := wp_region_still_tail n hm hB h
theorem rat_any (b : Nat) (l : Bs) (k : Int) (w : World) (hs : l.length ≤ 65536) (hk0 : 0 ≤ k) (hk : k ≤ 100000) (h0 : w.cell? ⟨b, 0, none⟩ = some (.string (B l))) :
    Calls Tryz.prog 65 #[.pointer (some ⟨b, 0, none⟩), .int .i64 k] w fun r w' => r = .returned (.int .u8 ((pk l k.toNat).toNat : Int)) ∧ w = w' := by
  obtain ⟨n, rfl⟩ := Int.eq_ofNat_of_zero_le hk0
  exact rat_calls b l n w hs (by omega) h0
theorem RsPost.ret {w w' : World} {b : Nat} {l : Bs} {r : NR} {e : Ending} (h : RsPost w b l r e w') : e = .returned (.tuple #[]) := by
  cases r <;> exact h.1
theorem add_ret {w W : World} {b : Nat} {l : Bs} {i j J : Nat} {v : Value} {acc : List Tok} {tx : Nat} {k : Int} {R : Ending → World → Prop} (hR : R = RsPost w b l (addNR acc i k (cut l i J) J)) (hJ : J = j) (n : Nat) (hs : l.length ≤ 65536) (hi : i ≤ j) (ha : acc.length ≤ 65536) (h : Rs W b l i v acc tx 0 0) (hb : Below b w W) :
    Calls Tryz.prog 70 #[.pointer (some ⟨b, 0, none⟩), .int .i64 k, .string ((B l).extract i j), .int .i64 (j : Int)] W fun e w' => e = .returned (.tuple #[]) ∧ R e w' := by
  subst hJ hR
  rw [extract_B]
  refine (radd_post k _ _ (Nat.le_trans (Tk.cut_le ..) hs) ha h hb).mono fun e w' hp => ⟨hp.ret, hp⟩
section
set_option maxHeartbeats 2000000
set_option maxRecDepth 100000
theorem rname_calls (b : Nat) (l : Bs) (i : Nat) (v : Value) (acc : List Tok) (tx : Nat) (w : World) (hs : l.length ≤ 65536) (hi : i ≤ l.length) (ha : acc.length ≤ 65536) (h : Rs w b l i v acc tx 0 0) :
    Calls Tryz.prog 68 #[.pointer (some ⟨b, 0, none⟩)] w (RsPost w b l (addNR acc i 1 (cut l i (i + nameLen (l.drop i))) (i + nameLen (l.drop i)))) := by
  have hz := size_B l
  have h0 := h.c0
  have h1 := h.c1
  have hle := hide (Tk.nameLen_le (l.drop i))
  have hsp0 := Tk.nameLen_span (l.drop i)
  rw [List.drop_drop] at hsp0
  have hspl := Tk.spanLen_le letter l i
  have hsp := hide hsp0
  have H := hide h
  clear h hsp0
  obtain ⟨R, hR⟩ : ∃ R, R = RsPost w b l (addNR acc i 1 (cut l i (i + nameLen (l.drop i))) (i + nameLen (l.drop i))) := ⟨_, rfl⟩
  rw [← hR]
  replace hR := hide hR
  go_enter Tryz.func68, Tryz.ntmps68
  go_wp2_with (go_at_call 69; refine (rrun_calls b l i _ hs (by omega) (by exact h0)).mono ?_; rintro e w1 ⟨rfl, ⟨n1, rfl⟩⟩)
  go_loopw [2] (fun x wr => ∃ j : Nat, x = .int .i64 (j : Int) ∧ i ≤ j ∧ j ≤ l.length ∧ Hid (i + nameLen (l.drop i) = j + nameLen (l.drop j)) ∧ letter ((l.drop j).headD 0) = false ∧ ∃ n, wr = w.drewN n) (fun x wr => l.length - (intOf x).toNat)
  case atStart => exact ⟨i + spanLen letter (l.drop i), rfl, by omega, by omega, by unfold Hid; rw [hsp.out]; omega, by rw [← List.drop_drop]; exact span_head _, _, rfl⟩
  case round =>
    obtain ⟨j, rfl, hij, hjl, hq, hlet, n, rfl⟩ := hrel
    have hh0 : pk l j = (l.drop j).headD 0 := rfl
    have hh1 : pk l (j + 1) = ((l.drop j).drop 1).headD 0 := by unfold pk; rw [List.drop_drop]
    have Hlet := hide hlet
    have HN : ∀ m, Rs (w.drewN m) b l i v acc tx 0 0 ∧ Below b w (w.drewN m) := fun m => ⟨H.out.drewN m, below_drewN b w m⟩
    have HN := hide HN
    clear hlet
    by_cases hgo : pk l j = 46 ∧ small (pk l (j + 1)) = true
    · obtain ⟨hz0, hlen⟩ := Tk.nameLen_dot (s := l.drop j) (by rw [← hh0]; exact Hlet.out) (by rw [← hh0, ← hh1, hgo.1, hgo.2]; rfl)
      rw [List.length_drop] at hlen
      rw [List.drop_drop] at hz0
      have e46 := is_yes (n := 46) (d := 46) rfl hgo.1
      have hsm := hgo.2
      have hN := Tk.nameLen_span (l.drop (j + 1))
      rw [List.drop_drop] at hN
      have hspl1 := Tk.spanLen_le letter l (j + 1)
      have hJ := hide (show i + nameLen (l.drop i) = (j + 1 + spanLen letter (l.drop (j + 1))) + nameLen (l.drop (j + 1 + spanLen letter (l.drop (j + 1)))) by rw [hq.out, hz0, hN]; omega)
      clear hgo hh0 hh1 hq hz0 hN
      go_wp2_with (first | (go_at_call 65; refine (rat_any b l _ _ hs (by omega) (by omega) (by exact h0)).mono ?_; rintro e w1 ⟨rfl, rfl⟩) | (go_at_call 67; refine (rsmall_calls _ _).mono ?_; rintro e w1 ⟨rfl, ⟨n1, rfl⟩⟩) | (go_at_call 69; refine (rrun_calls b l (j + 1) _ hs (by omega) (by exact h0)).mono ?_; rintro e w1 ⟨rfl, ⟨n2, rfl⟩⟩))
      go_roundw
      case rel => exact ⟨j + 1 + spanLen letter (l.drop (j + 1)), by go_num, by omega, by omega, hJ.out, by rw [← List.drop_drop]; exact span_head _, _, rfl⟩
      case measure => simp [intOf]; omega
    · have hz0 : nameLen (l.drop j) = 0 := Tk.nameLen_stop Hlet.out (by rw [← hh0, ← hh1]; simpa using hgo)
      have hJ := hide (show i + nameLen (l.drop i) = j by rw [hq.out, hz0]; rfl)
      have hadd := hide (fun m => add_ret hR.out hJ.out (l.length) hs (by omega) ha (HN.out m).1 (HN.out m).2)
      by_cases h46 : pk l j = 46
      · have e46 := is_yes (n := 46) (d := 46) rfl h46
        have hsm : small (pk l (j + 1)) = false := by simpa [h46] using hgo
        clear hgo hh0 hh1 h46 hq hz0
        go_wp2_with (first | (go_at_call 65; refine (rat_any b l _ _ hs (by omega) (by omega) (by exact h0)).mono ?_; rintro e w1 ⟨rfl, rfl⟩) | (go_at_call 67; refine (rsmall_calls _ _).mono ?_; rintro e w1 ⟨rfl, ⟨n1, rfl⟩⟩))
        refine tail_drew 12 (by kernel_rfl) (by kernel_rfl) ?_
        simp only [List.take_succ_cons, List.take_zero, List.drop_succ_cons, List.drop_zero]
        repeat still_step
        refine wpStill_nil ?_
        go_wp2_with (go_at_call 70; refine (hadd.out _).mono ?_; rintro e w3 ⟨rfl, hp⟩; have hp := hide hp)
        go_end0
        exact hp.out
      · have e46 := is_no (n := 46) (d := 46) rfl h46
        clear hgo hh0 hh1 h46 hq hz0
        go_wp2_with (first | (go_at_call 65; refine (rat_any b l _ _ hs (by omega) (by omega) (by exact h0)).mono ?_; rintro e w1 ⟨rfl, rfl⟩) | (go_at_call 67; refine (rsmall_calls _ _).mono ?_; rintro e w1 ⟨rfl, ⟨n1, rfl⟩⟩))
        refine tail_drew 12 (by kernel_rfl) (by kernel_rfl) ?_
        simp only [List.take_succ_cons, List.take_zero, List.drop_succ_cons, List.drop_zero]
        repeat still_step
        refine wpStill_nil ?_
        go_wp2_with (go_at_call 70; refine (hadd.out _).mono ?_; rintro e w3 ⟨rfl, hp⟩; have hp := hide hp)
        go_end0
        exact hp.out
theorem rnumber_int (b : Nat) (l : Bs) (i : Nat) (v : Value) (acc : List Tok) (tx : Nat) (w : World) (c : UInt8) (t : Bs) (hs : l.length ≤ 65536) (ha : acc.length ≤ 65536) (hd : l.drop i = c :: t) (hch : ¬ (c = 48 ∧ pk l (i + 1) = 39)) (h : Rs w b l i v acc tx 0 0) :
    Calls Tryz.prog 71 #[.pointer (some ⟨b, 0, none⟩)] w (RsPost w b l (addNR acc i 3 (cut l i (i + spanLen digit (l.drop i))) (i + spanLen digit (l.drop i)))) := by
  have hz := size_B l
  have h0 := h.c0
  have h1 := h.c1
  have hb := B_get hd
  obtain ⟨hl, -, -⟩ := drop_at hd
  have H := hide h
  clear h hd
  obtain ⟨R, hR⟩ : ∃ R, R = RsPost w b l (addNR acc i 3 (cut l i (i + spanLen digit (l.drop i))) (i + spanLen digit (l.drop i))) := ⟨_, rfl⟩
  rw [← hR]
  replace hR := hide hR
  have ew := wrap_sum i 1 (by omega)
  have e0 : (0 : Int) ≤ (i : Int) + 1 := by omega
  have e1 : ((i : Int) + 1).toNat = i + 1 := by omega
  by_cases h48 : c = 48
  · have hp : ¬ pk l (i + 1) = 39 := fun e => hch ⟨h48, e⟩
    have e48 := is_yes (n := 48) (d := 48) rfl h48
    have ep := is_no (n := 39) (d := 39) rfl hp
    clear hch h48 hp
    go_enter Tryz.func71, Tryz.ntmps71
    go_wp2_with fail
    go_quiet ((go_at_call 65; refine Calls.quiet_of_same ((rat_any b l _ _ hs (by omega) (by omega) (by exact h0)).mono fun _ _ h => ⟨h.1, h.2.symm⟩)))
    go_wp2
    go_loopw [2] (fun x wr => ∃ j : Nat, x = .int .i64 (j : Int) ∧ i ≤ j ∧ j ≤ l.length ∧ Hid (spanLen digit (l.drop i) = (j - i) + spanLen digit (l.drop j)) ∧ ∃ n, wr = w.drewN n) (fun x wr => l.length - (intOf x).toNat)
    case atStart => exact ⟨i, rfl, Nat.le_refl _, by omega, by unfold Hid; omega, _, rfl⟩
    case round =>
      obtain ⟨j, rfl, hij, hjl, hsp, n, rfl⟩ := hrel
      have HN : ∀ m, Rs (w.drewN m) b l i v acc tx 0 0 ∧ Below b w (w.drewN m) := fun m => ⟨H.out.drewN m, below_drewN b w m⟩
      have HN := hide HN
      cases hdj : l.drop j with
      | nil =>
        have hJ := hide (show i + spanLen digit (l.drop i) = j from span_end hdj hsp.out hij)
        have hpj := pk_nil hdj
        have hdg : digit (pk l j) = false := by rw [hpj]; decide
        have hadd := hide (fun m => add_ret hR.out hJ.out (l.length) hs (by omega) ha (HN.out m).1 (HN.out m).2)
        clear hdj hpj
        go_wp2_with (first | (go_at_call 65; refine (rat_calls b l j _ hs (by omega) (by exact h0)).mono ?_; rintro e w1 ⟨rfl, rfl⟩) | (go_at_call 41; refine (rdigit_calls _ _).mono ?_; rintro e w1 ⟨rfl, ⟨n1, rfl⟩⟩))
        refine tail_drew 12 (by kernel_rfl) (by kernel_rfl) ?_
        simp only [List.take_succ_cons, List.take_zero, List.drop_succ_cons, List.drop_zero]
        repeat still_step
        refine wpStill_nil ?_
        go_wp2_with (go_at_call 70; refine (hadd.out _).mono ?_; rintro e w3 ⟨rfl, hp⟩; have hp := hide hp)
        go_end0
        exact hp.out
      | cons d u =>
        have hpj := pk_cons hdj
        obtain ⟨hlj, -, -⟩ := drop_at hdj
        cases hcd : digit d with
        | true =>
          have hst := hide (span_step hdj hcd hsp.out hij)
          have hdg : digit (pk l j) = true := by rw [hpj, hcd]
          clear hdj hpj
          go_wp2_with (first | (go_at_call 65; refine (rat_calls b l j _ hs (by omega) (by exact h0)).mono ?_; rintro e w1 ⟨rfl, rfl⟩) | (go_at_call 41; refine (rdigit_calls _ _).mono ?_; rintro e w1 ⟨rfl, ⟨n1, rfl⟩⟩))
          go_roundw
          case rel => first | exact ⟨j + 1, by go_num, by omega, by omega, hst, _, rfl⟩ | ((repeat apply Exists.intro); exact ⟨⟨j + 1, by go_num, by omega, by omega, hst, _, rfl⟩, rfl⟩)
          case measure => simp [intOf]; omega
        | false =>
          have hJ := hide (show i + spanLen digit (l.drop i) = j from span_stop hdj hcd hsp.out hij)
          have hdg : digit (pk l j) = false := by rw [hpj, hcd]
          have hadd := hide (fun m => add_ret hR.out hJ.out (l.length) hs (by omega) ha (HN.out m).1 (HN.out m).2)
          clear hdj hpj
          go_wp2_with (first | (go_at_call 65; refine (rat_calls b l j _ hs (by omega) (by exact h0)).mono ?_; rintro e w1 ⟨rfl, rfl⟩) | (go_at_call 41; refine (rdigit_calls _ _).mono ?_; rintro e w1 ⟨rfl, ⟨n1, rfl⟩⟩))
          refine tail_drew 12 (by kernel_rfl) (by kernel_rfl) ?_
          simp only [List.take_succ_cons, List.take_zero, List.drop_succ_cons, List.drop_zero]
          repeat still_step
          refine wpStill_nil ?_
          go_wp2_with (go_at_call 70; refine (hadd.out _).mono ?_; rintro e w3 ⟨rfl, hp⟩; have hp := hide hp)
          go_end0
          exact hp.out
  · have e48 := is_no (n := 48) (d := 48) rfl h48
    go_enter Tryz.func71, Tryz.ntmps71
    go_wp2_with fail
    go_quiet (fail)
    go_wp2
    go_loopw [2] (fun x wr => ∃ j : Nat, x = .int .i64 (j : Int) ∧ i ≤ j ∧ j ≤ l.length ∧ Hid (spanLen digit (l.drop i) = (j - i) + spanLen digit (l.drop j)) ∧ ∃ n, wr = w.drewN n) (fun x wr => l.length - (intOf x).toNat)
    case atStart => exact ⟨i, rfl, Nat.le_refl _, by omega, by unfold Hid; omega, _, rfl⟩
    case round =>
      obtain ⟨j, rfl, hij, hjl, hsp, n, rfl⟩ := hrel
      have HN : ∀ m, Rs (w.drewN m) b l i v acc tx 0 0 ∧ Below b w (w.drewN m) := fun m => ⟨H.out.drewN m, below_drewN b w m⟩
      have HN := hide HN
      cases hdj : l.drop j with
      | nil =>
        have hJ := hide (show i + spanLen digit (l.drop i) = j from span_end hdj hsp.out hij)
        have hpj := pk_nil hdj
        have hdg : digit (pk l j) = false := by rw [hpj]; decide
        have hadd := hide (fun m => add_ret hR.out hJ.out (l.length) hs (by omega) ha (HN.out m).1 (HN.out m).2)
        clear hdj hpj
        go_wp2_with (first | (go_at_call 65; refine (rat_calls b l j _ hs (by omega) (by exact h0)).mono ?_; rintro e w1 ⟨rfl, rfl⟩) | (go_at_call 41; refine (rdigit_calls _ _).mono ?_; rintro e w1 ⟨rfl, ⟨n1, rfl⟩⟩))
        refine tail_drew 12 (by kernel_rfl) (by kernel_rfl) ?_
        simp only [List.take_succ_cons, List.take_zero, List.drop_succ_cons, List.drop_zero]
        repeat still_step
        refine wpStill_nil ?_
        go_wp2_with (go_at_call 70; refine (hadd.out _).mono ?_; rintro e w3 ⟨rfl, hp⟩; have hp := hide hp)
        go_end0
        exact hp.out
      | cons d u =>
        have hpj := pk_cons hdj
        obtain ⟨hlj, -, -⟩ := drop_at hdj
        cases hcd : digit d with
        | true =>
          have hst := hide (span_step hdj hcd hsp.out hij)
          have hdg : digit (pk l j) = true := by rw [hpj, hcd]
          clear hdj hpj
          go_wp2_with (first | (go_at_call 65; refine (rat_calls b l j _ hs (by omega) (by exact h0)).mono ?_; rintro e w1 ⟨rfl, rfl⟩) | (go_at_call 41; refine (rdigit_calls _ _).mono ?_; rintro e w1 ⟨rfl, ⟨n1, rfl⟩⟩))
          go_roundw
          case rel => first | exact ⟨j + 1, by go_num, by omega, by omega, hst, _, rfl⟩ | ((repeat apply Exists.intro); exact ⟨⟨j + 1, by go_num, by omega, by omega, hst, _, rfl⟩, rfl⟩)
          case measure => simp [intOf]; omega
        | false =>
          have hJ := hide (show i + spanLen digit (l.drop i) = j from span_stop hdj hcd hsp.out hij)
          have hdg : digit (pk l j) = false := by rw [hpj, hcd]
          have hadd := hide (fun m => add_ret hR.out hJ.out (l.length) hs (by omega) ha (HN.out m).1 (HN.out m).2)
          clear hdj hpj
          go_wp2_with (first | (go_at_call 65; refine (rat_calls b l j _ hs (by omega) (by exact h0)).mono ?_; rintro e w1 ⟨rfl, rfl⟩) | (go_at_call 41; refine (rdigit_calls _ _).mono ?_; rintro e w1 ⟨rfl, ⟨n1, rfl⟩⟩))
          refine tail_drew 12 (by kernel_rfl) (by kernel_rfl) ?_
          simp only [List.take_succ_cons, List.take_zero, List.drop_succ_cons, List.drop_zero]
          repeat still_step
          refine wpStill_nil ?_
          go_wp2_with (go_at_call 70; refine (hadd.out _).mono ?_; rintro e w3 ⟨rfl, hp⟩; have hp := hide hp)
          go_end0
          exact hp.out
def escR (q c : UInt8) : UInt8 := if c = q ∨ c = 92 then c else if q = 39 then 0 else if c = 110 then 10 else if c = 116 then 9 else 0
theorem ret_u8 {a b : UInt8} (h : a = b) : Ending.returned (.int .u8 (a.toNat : Int)) = .returned (.int .u8 (b.toNat : Int)) := by rw [h]
theorem rescaped_calls (c q : UInt8) (w : World) : Calls Tryz.prog 101 #[.int .u8 (c.toNat : Int), .int .u8 (q.toNat : Int)] w fun r w' => r = .returned (.int .u8 ((escR q c).toNat : Int)) ∧ w = w' := by
  obtain ⟨x, hx⟩ : ∃ x, x = escR q c := ⟨_, rfl⟩
  rw [← hx]
  have hx := hide hx
  have eq2 : ((c.toNat : Int) == (q.toNat : Int)) = (c == q) := by rw [Bool.eq_iff_iff]; simp [← UInt8.toNat_inj]; omega
  have en2 : (c.toNat == q.toNat) = (c == q) := by rw [Bool.eq_iff_iff]; simp [← UInt8.toNat_inj]
  by_cases h1 : c = q
  · have e1 : (c == q) = true := by simpa using h1
    rw [e1] at eq2 en2
    have hr := hide (show x = c by rw [hx.out]; unfold escR; rw [if_pos (.inl h1)])
    clear h1 e1
    go_enter Tryz.func101, Tryz.ntmps101
    go_wp2
    go_ret
    exact ⟨ret_u8 hr.out.symm, rfl⟩
  · have e1 : (c == q) = false := by simpa using h1
    rw [e1] at eq2 en2
    by_cases h2 : c = 92
    · have e2 := is_yes (n := 92) (d := 92) rfl h2
      have hr := hide (show x = c by rw [hx.out]; unfold escR; rw [if_pos (.inr h2)])
      clear h1 e1 h2
      go_enter Tryz.func101, Tryz.ntmps101
      go_wp2
      go_ret
      exact ⟨ret_u8 hr.out.symm, rfl⟩
    · have e2 := is_no (n := 92) (d := 92) rfl h2
      have hx1 := hide (show x = if q = 39 then 0 else if c = 110 then 10 else if c = 116 then 9 else 0 by rw [hx.out]; unfold escR; rw [if_neg (by rintro (h | h); exact h1 h; exact h2 h)])
      clear h1 e1 h2
      by_cases h3 : q = 39
      · have e3 := isnt_no (n := 39) (d := 39) rfl h3
        have hr := hide (show x = 0 by rw [hx1.out, if_pos h3])
        clear h3
        go_enter Tryz.func101, Tryz.ntmps101
        go_wp2
        go_ret
        exact ⟨ret_u8 (b := x) (a := 0) hr.out.symm, rfl⟩
      · have e3 := isnt_yes (n := 39) (d := 39) rfl h3
        have hx2 := hide (show x = if c = 110 then 10 else if c = 116 then 9 else 0 by rw [hx1.out, if_neg h3])
        clear h3
        by_cases h4 : c = 110
        · have e4 := is_yes (n := 110) (d := 110) rfl h4
          have hr := hide (show x = 10 by rw [hx2.out, if_pos h4])
          clear h4
          go_enter Tryz.func101, Tryz.ntmps101
          go_wp2
          go_ret
          exact ⟨ret_u8 (b := x) (a := 10) hr.out.symm, rfl⟩
        · have e4 := is_no (n := 110) (d := 110) rfl h4
          by_cases h5 : c = 116
          · have e5 := is_yes (n := 116) (d := 116) rfl h5
            have hr := hide (show x = 9 by rw [hx2.out, if_neg h4, if_pos h5])
            clear h4 h5
            go_enter Tryz.func101, Tryz.ntmps101
            go_wp2
            go_ret
            exact ⟨ret_u8 (b := x) (a := 9) hr.out.symm, rfl⟩
          · have e5 := is_no (n := 116) (d := 116) rfl h5
            have hr := hide (show x = 0 by rw [hx2.out, if_neg h4, if_neg h5])
            clear h4 h5
            go_enter Tryz.func101, Tryz.ntmps101
            go_wp2
            go_ret
            exact ⟨ret_u8 (b := x) (a := 0) hr.out.symm, rfl⟩
end
end Go.Proofs.YtgeonilideojnaaGreatDoor.Rs
end
section
namespace Go.Proofs.YtgeonilideojnaaGreatDoor.Rs
open Go Go.RowKit Tk Go.Proofs.YtgeonilideojnaaGreatDoor.Pr Go.Proofs.YtgeonilideojnaaGreatDoorW.PrintWords Go.Proofs.YtgeonilideojnaaGreatDoor.Rf
set_option linter.unusedVariables false
set_option linter.unusedSimpArgs false
theorem Rs.alloc {w : World} {b : Nat} {l : Bs} {i tx e bad : Int} {v : Value} {acc : List Tok} (h : Rs w b l i v acc tx e bad) (o : Obj) : Rs (w.alloc o) b l i v acc tx e bad := ⟨h.blk.alloc o, OwnT.alloc h.own o, h.ge⟩
theorem fail_ret {w W : World} {b : Nat} {l : Bs} {i : Nat} {v : Value} {acc : List Tok} {tx : Nat} (c a : Nat) {R : Ending → World → Prop} (hR : R = RsPost w b l (.bad a c)) (h : Rs W b l i v acc tx 0 0) (hb : Below b w W) :
    Calls Tryz.prog 63 #[.pointer (some ⟨b, 0, none⟩), .int .i64 (c : Int), .int .i64 (a : Int)] W fun e w' => e = .returned (.tuple #[]) ∧ R e w' := by
  subst hR
  refine (rfail_calls b l i v acc tx 0 c a W h).mono ?_
  rintro e w' ⟨rfl, h1, h2, -⟩
  exact ⟨rfl, rfl, ⟨_, _, _, _, h1⟩, hb.trans h2⟩
theorem add_one {w W : World} {b : Nat} {l : Bs} {i : Nat} {v : Value} {acc : List Tok} {tx : Nat} (k : Int) (s : Bs) (j : Nat) {R : Ending → World → Prop} (hR : R = RsPost w b l (addNR acc i k s j)) (hl : s.length ≤ 65536) (ha : acc.length ≤ 65536) (h : Rs W b l i v acc tx 0 0) (hb : Below b w W) :
    Calls Tryz.prog 70 #[.pointer (some ⟨b, 0, none⟩), .int .i64 k, .string (B s), .int .i64 (j : Int)] W fun e w' => e = .returned (.tuple #[]) ∧ R e w' := by
  subst hR
  exact (radd_post k s j hl ha h hb).mono fun e w' hp => ⟨hp.ret, hp⟩
theorem rescaped_q (c q : UInt8) (n : Int) (hn : (q.toNat : Int) = n) (w : World) : Calls Tryz.prog 101 #[.int .u8 (c.toNat : Int), .int .u8 n] w fun r w' => r = .returned (.int .u8 ((escR q c).toNat : Int)) ∧ w = w' := by
  subst hn
  exact rescaped_calls c q w
theorem rescaped_92 (c : UInt8) (w : World) : Calls Tryz.prog 101 #[.int .u8 (c.toNat : Int), .int .u8 92] w fun r w' => r = .returned (.int .u8 ((escR 92 c).toNat : Int)) ∧ w = w' := rescaped_q c 92 92 rfl w
theorem conv1_N (c : UInt8) (W : World) (n : Nat) : (convert 53 9 (.slice (some ⟨W.heap.size, 0, none⟩) 1 1)).run Tryz.prog ((W.drewN n).alloc (.cells #[.int .u8 (c.toNat : Int)] 5)) = .ok (.string (B [c])) ((W.drewN n).alloc (.cells #[.int .u8 (c.toNat : Int)] 5)) := conv1 c (W.drewN n)
def charNR (acc : List Tok) (i : Nat) : Tk.R Bs → NR
  | .ok s j => addNR acc i 4 s j
  | .bad a e => .bad a e
section
set_option maxHeartbeats 4000000
set_option maxRecDepth 100000
theorem rcharacter_calls (b : Nat) (l : Bs) (i : Nat) (v : Value) (acc : List Tok) (tx : Nat) (w : World) (hs : l.length ≤ 65536) (hi : i ≤ l.length) (ha : acc.length ≤ 65536) (h : Rs w b l i v acc tx 0 0) :
    Calls Tryz.prog 100 #[.pointer (some ⟨b, 0, none⟩)] w (RsPost w b l (charNR acc i (charS l i))) := by
  have hz := size_B l
  have h0 := h.c0
  have h1 := h.c1
  obtain ⟨X, hX⟩ : ∃ X, X = charNR acc i (charS l i) := ⟨_, rfl⟩
  obtain ⟨R, hR⟩ : ∃ R, R = RsPost w b l X := ⟨_, rfl⟩
  rw [← hX, ← hR]
  replace hR := hide hR
  replace hX := hide hX
  have HN : ∀ m, Rs (w.drewN m) b l i v acc tx 0 0 ∧ Below b w (w.drewN m) := fun m => ⟨h.drewN m, below_drewN b w m⟩
  have HA : ∀ m o, Rs ((w.drewN m).alloc o) b l i v acc tx 0 0 ∧ Below b w ((w.drewN m).alloc o) := fun m o => ⟨(h.drewN m).alloc o, (below_drewN b w m).alloc (Nat.le_of_lt h.lt) o⟩
  have hf11 := fun (hq : X = .bad i 11) m => fail_ret 11 i (show R = RsPost w b l (.bad i 11) by rw [hR.out, hq]) (HN m).1 (HN m).2
  replace HN := hide HN
  replace HA := hide HA
  replace hf11 := hide hf11
  clear h
  have ew := wrap_sum i 2 (by omega)
  cases hd : l.drop (i + 2) with
  | nil =>
    have hn := drop_nil hd
    have hp := pk_nil hd
    have hq : X = .bad i 11 := by rw [hX.out]; unfold charS; rw [hd]; rfl
    have hf := hide (hf11.out hq)
    have hp0 : ((pk l (i + 2)).toNat : Int) = 0 := by rw [hp]; rfl
    clear hd hq hp hf11
    go_enter Tryz.func100, Tryz.ntmps100
    go_wp2_with (first | (go_at_call 65; refine (rat_any b l _ _ hs (by omega) (by omega) (by exact h0)).mono ?_; rintro e w1 ⟨rfl, rfl⟩) | (go_at_call 63; refine (hf.out 0).mono ?_; rintro e w3 ⟨rfl, hp⟩; have hp := hide hp))
    go_end0
    exact hp.out
  | cons c t =>
    obtain ⟨hl2, -, ht⟩ := drop_at hd
    have hp0 := pk_cons hd
    have hb := B_get hd
    have hb : ∀ h : i + 2 < (B l).size, (B l)[i + 2]'h = c := hb
    have hl2' : decide (i + 2 < l.length) = true := by simpa using hl2
    cases hp : permitted c with
    | false =>
      have hf := hide (fun m => fail_ret 2 (i + 2) (show R = RsPost w b l (.bad (i + 2) 2) by rw [hR.out, hX.out]; unfold charS; rw [hd]; simp [hp, charNR]) (HN.out m).1 (HN.out m).2)
      clear hd hp0 hf11 ht
      go_enter Tryz.func100, Tryz.ntmps100
      go_wp2_with (first | (go_at_call 65; refine (rat_any b l _ _ hs (by omega) (by omega) (by exact h0)).mono ?_; rintro e w1 ⟨rfl, rfl⟩) | (go_at_call 62; refine (rByte_calls _ _).mono ?_; rintro e w1 ⟨rfl, ⟨n1, rfl⟩⟩) | (go_at_call 101; refine (rescaped_92 _ _).mono ?_; rintro e w1 ⟨rfl, rfl⟩) | (go_at_call 63; refine (hf.out _).mono ?_; rintro e w3 ⟨rfl, hp⟩; have hp := hide hp))
      go_end0
      exact hp.out
    | true =>
      by_cases h92 : c = 92
      · have ew3 := wrap_sum i 3 (by omega)
        have e92 : ((pk l (i + 2)).toNat : Int) = 92 := by rw [hp0, h92]; rfl
        cases t with
        | nil =>
          have hn := drop_nil ht
          have hp3 := pk_nil ht
          have hf := hide (hf11.out (by rw [hX.out]; unfold charS; rw [hd, h92]; rfl))
          have hpz : pk l (i + 3) = 0 := hp3
          have hn3 : l.length ≤ i + 3 := hn
          have hesc : ((escR 92 (pk l (i + 3))).toNat : Int) = 0 := by rw [hpz]; rfl
          clear hd hp0 hf11 ht hp3 hn hpz h92
          go_enter Tryz.func100, Tryz.ntmps100
          go_wp2_with (first | (go_at_call 65; refine (rat_any b l _ _ hs (by omega) (by omega) (by exact h0)).mono ?_; rintro e w1 ⟨rfl, rfl⟩) | (go_at_call 62; refine (rByte_calls _ _).mono ?_; rintro e w1 ⟨rfl, ⟨n1, rfl⟩⟩) | (go_at_call 101; refine (rescaped_92 _ _).mono ?_; rintro e w1 ⟨rfl, rfl⟩) | (go_at_call 63; refine (hf.out _).mono ?_; rintro e w3 ⟨rfl, hp⟩; have hp := hide hp))
          go_end0
          exact hp.out
        | cons d u =>
          obtain ⟨hl3, -, -⟩ := drop_at ht
          have hp3 : pk l (i + 3) = d := pk_cons ht
          have hb3 : ∀ h : i + 3 < (B l).size, (B l)[i + 3]'h = d := B_get ht
          have hl3' : decide (i + 3 < l.length) = true := by simpa using hl3
          cases hpd : permitted d with
          | false =>
            have hf := hide (fun m => fail_ret 2 (i + 3) (show R = RsPost w b l (.bad (i + 3) 2) by rw [hR.out, hX.out]; unfold charS; rw [hd, h92]; simp [show permitted 92 = true by decide, hpd, charNR]) (HN.out m).1 (HN.out m).2)
            clear hd hp0 hf11 ht hp3 h92
            go_enter Tryz.func100, Tryz.ntmps100
            go_wp2_with (first | (go_at_call 65; refine (rat_any b l _ _ hs (by omega) (by omega) (by exact h0)).mono ?_; rintro e w1 ⟨rfl, rfl⟩) | (go_at_call 62; refine (rByte_calls _ _).mono ?_; rintro e w1 ⟨rfl, ⟨n1, rfl⟩⟩) | (go_at_call 101; refine (rescaped_92 _ _).mono ?_; rintro e w1 ⟨rfl, rfl⟩) | (go_at_call 63; refine (hf.out _).mono ?_; rintro e w3 ⟨rfl, hp⟩; have hp := hide hp))
            go_end0
            exact hp.out
          | true =>
            by_cases hin : d = 110 ∨ d = 116 ∨ d = 92
            · have hes : escR 92 (pk l (i + 3)) = unesc d := by
                rw [hp3]
                rcases hin with rfl | rfl | rfl <;> rfl
              have hnz : ((unesc d).toNat : Int) ≠ 0 := by rcases hin with rfl | rfl | rfl <;> decide
              have hf := hide (fun m o => add_one 4 [unesc d] (i + 4) (show R = RsPost w b l (addNR acc i 4 [unesc d] (i + 4)) by
                rw [hR.out, hX.out]
                unfold charS
                rw [hd, h92]
                rcases hin with rfl | rfl | rfl <;> rfl) (by simp) ha (HA.out m o).1 (HA.out m o).2)
              have hcv := conv1_N (unesc d)
              have ew4 := wrap_sum i 4 (by omega)
              have hnz' : (((unesc d).toNat : Int) == 0) = false := by simpa using hnz
              have hbt := byte_lt (unesc d)
              generalize unesc d = x at *
              clear hd hp0 hf11 ht hp3 hin hnz h92
              go_enter Tryz.func100, Tryz.ntmps100
              go_wp2_with (first | (go_at_call 65; refine (rat_any b l _ _ hs (by omega) (by omega) (by exact h0)).mono ?_; rintro e w1 ⟨rfl, rfl⟩) | (go_at_call 62; refine (rByte_calls _ _).mono ?_; rintro e w1 ⟨rfl, ⟨n1, rfl⟩⟩) | (go_at_call 101; refine (rescaped_92 _ _).mono ?_; rintro e w1 ⟨rfl, rfl⟩) | (go_at_call 70; refine (hf.out _ _).mono ?_; rintro e w3 ⟨rfl, hp⟩; have hp := hide hp))
              go_end0
              exact hp.out
            · have hes : escR 92 (pk l (i + 3)) = 0 := by
                rw [hp3]
                unfold escR
                simp only [not_or] at hin
                simp [hin.1, hin.2.1, hin.2.2]
              have hf := hide (hf11.out (by
                rw [hX.out]
                unfold charS
                rw [hd, h92]
                simp only [not_or] at hin
                simp [show permitted 92 = true by decide, hpd, hin.1, hin.2.1, hin.2.2, charNR]))
              have hesc : ((escR 92 (pk l (i + 3))).toNat : Int) = 0 := by rw [hes]; rfl
              clear hd hp0 hf11 ht hp3 hin hes h92
              go_enter Tryz.func100, Tryz.ntmps100
              go_wp2_with (first | (go_at_call 65; refine (rat_any b l _ _ hs (by omega) (by omega) (by exact h0)).mono ?_; rintro e w1 ⟨rfl, rfl⟩) | (go_at_call 62; refine (rByte_calls _ _).mono ?_; rintro e w1 ⟨rfl, ⟨n1, rfl⟩⟩) | (go_at_call 101; refine (rescaped_92 _ _).mono ?_; rintro e w1 ⟨rfl, rfl⟩) | (go_at_call 63; refine (hf.out _).mono ?_; rintro e w3 ⟨rfl, hp⟩; have hp := hide hp))
              go_end0
              exact hp.out
      · have e92 := is_no (n := 92) (d := 92) rfl h92
        have e92' : ((pk l (i + 2)).toNat : Int) = (c.toNat : Int) := by rw [hp0]
        by_cases h32 : c.toNat < 32
        · have hf := hide (hf11.out (by
            rw [hX.out]
            unfold charS
            rw [hd]
            have hc : c = 10 ∨ c = 9 := by
              simp [permitted] at hp
              rcases hp with hp | hp | hp
              · exact .inl (byte_eq (n := 10) (by omega) hp)
              · exact .inr (byte_eq (n := 9) (by omega) hp)
              · omega
            rcases hc with rfl | rfl <;> rfl))
          clear hd hp0 hf11 ht h92
          go_enter Tryz.func100, Tryz.ntmps100
          go_wp2_with (first | (go_at_call 65; refine (rat_any b l _ _ hs (by omega) (by omega) (by exact h0)).mono ?_; rintro e w1 ⟨rfl, rfl⟩) | (go_at_call 62; refine (rByte_calls _ _).mono ?_; rintro e w1 ⟨rfl, ⟨n1, rfl⟩⟩) | (go_at_call 101; refine (rescaped_92 _ _).mono ?_; rintro e w1 ⟨rfl, rfl⟩) | (go_at_call 63; refine (hf.out _).mono ?_; rintro e w3 ⟨rfl, hp⟩; have hp := hide hp))
          go_end0
          exact hp.out
        · have hf := hide (fun m o => add_one 4 [c] (i + 3) (show R = RsPost w b l (addNR acc i 4 [c] (i + 3)) by
            rw [hR.out, hX.out]
            unfold charS
            rw [hd]
            have h10 : c ≠ 10 := by rintro rfl; exact h32 (by decide)
            have h9 : c ≠ 9 := by rintro rfl; exact h32 (by decide)
            simp [hp, h92, h10, h9, charNR]) (by simp) ha (HA.out m o).1 (HA.out m o).2)
          have hcv := conv1_N c
          have hbt := byte_lt c
          have ew3 := wrap_sum i 3 (by omega)
          clear hd hp0 hf11 ht h92
          go_enter Tryz.func100, Tryz.ntmps100
          go_wp2_with (first | (go_at_call 65; refine (rat_any b l _ _ hs (by omega) (by omega) (by exact h0)).mono ?_; rintro e w1 ⟨rfl, rfl⟩) | (go_at_call 62; refine (rByte_calls _ _).mono ?_; rintro e w1 ⟨rfl, ⟨n1, rfl⟩⟩) | (go_at_call 101; refine (rescaped_92 _ _).mono ?_; rintro e w1 ⟨rfl, rfl⟩) | (go_at_call 70; refine (hf.out _ _).mono ?_; rintro e w3 ⟨rfl, hp⟩; have hp := hide hp))
          go_end0
          exact hp.out
end
end Go.Proofs.YtgeonilideojnaaGreatDoor.Rs
end
section
namespace Go.Proofs.YtgeonilideojnaaGreatDoor.Rs
open Go Go.RowKit Tk Go.Proofs.YtgeonilideojnaaGreatDoor.Pr Go.Proofs.YtgeonilideojnaaGreatDoorW.PrintWords Go.Proofs.YtgeonilideojnaaGreatDoor.Rf
set_option linter.unusedVariables false
set_option linter.unusedSimpArgs false
def signsNR (l : Bs) (acc : List Tok) (i j : Nat) : NR :=
  if cut l i j = [46] then (match l.drop j with
    | [] => addNR acc i 7 [46] j
    | d :: _ => if !Tk.blank d && d ≠ 37 then .bad i 11 else addNR acc i 7 [46] j)
  else addNR acc i 1 (cut l i j) j
theorem rblank_calls (c : UInt8) (w : World) : Calls Tryz.prog 64 #[.int .u8 (c.toNat : Int)] w fun r w' => r = .returned (.bool (Tk.blank c)) ∧ w = w' := by
  go_enter Tryz.func64, Tryz.ntmps64
  go_wp2
  all_goals
    go_ret
    exact ⟨ret_bool (by rw [Bool.eq_iff_iff]; simp [Tk.blank]; omega), rfl⟩
section
set_option maxHeartbeats 4000000
set_option maxRecDepth 100000
theorem rsigns_calls (b : Nat) (l : Bs) (i : Nat) (v : Value) (acc : List Tok) (tx : Nat) (w : World) (hs : l.length ≤ 65536) (hi : i ≤ l.length) (ha : acc.length ≤ 65536) (h : Rs w b l i v acc tx 0 0) :
    Calls Tryz.prog 74 #[.pointer (some ⟨b, 0, none⟩)] w (RsPost w b l (signsNR l acc i (i + spanLen sign (l.drop i)))) := by
  have hz := size_B l
  have h0 := h.c0
  have h1 := h.c1
  obtain ⟨J, hJ0⟩ : ∃ J, J = i + spanLen sign (l.drop i) := ⟨_, rfl⟩
  rw [← hJ0]
  obtain ⟨R, hR⟩ : ∃ R, R = RsPost w b l (signsNR l acc i J) := ⟨_, rfl⟩
  rw [← hR]
  replace hR := hide hR
  replace hJ0 := hide hJ0
  have HN : ∀ m, Rs (w.drewN m) b l i v acc tx 0 0 ∧ Below b w (w.drewN m) := fun m => ⟨h.drewN m, below_drewN b w m⟩
  replace HN := hide HN
  clear h
  go_enter Tryz.func74, Tryz.ntmps74
  go_wp2
  go_loopw [2] (fun x wr => ∃ j : Nat, x = .int .i64 (j : Int) ∧ i ≤ j ∧ j ≤ l.length ∧ Hid (spanLen sign (l.drop i) = (j - i) + spanLen sign (l.drop j)) ∧ ∃ n, wr = w.drewN n) (fun x wr => l.length - (intOf x).toNat)
  case atStart => exact ⟨i, rfl, Nat.le_refl _, by omega, by unfold Hid; omega, 0, rfl⟩
  case round =>
    obtain ⟨j, rfl, hij, hjl, hsp, n, rfl⟩ := hrel
    have hx := extract_B l i j
    have ht1 := toList_B (cut l i j)
    rw [← hx] at ht1
    have ht2 : (((B l).extract i j).toList == [46]) = (cut l i j == [46]) := by rw [ht1]
    clear hx ht1
    cases hdj : l.drop j with
    | nil =>
      have hJ : J = j := by rw [hJ0.out]; exact span_end hdj hsp.out hij
      have hpj := pk_nil hdj
      have hn := drop_nil hdj
      have hdg : sign (pk l j) = false := by rw [hpj]; decide
      have hjl' : j = l.length := by omega
      have hjl2 : ((j : Int) == (l.length : Int)) = true := by simp; omega
      have hjl3 : (j == l.length) = true := by simp; omega
      replace hjl' := hide hjl'
      by_cases h46 : cut l i j = [46]
      · have e46 : (cut l i j == [46]) = true := by simpa using h46
        have hf := hide (fun m => add_one 7 [46] j (show R = RsPost w b l (addNR acc i 7 [46] j) by rw [hR.out, hJ]; unfold signsNR; rw [if_pos h46, hdj]) (by decide) ha (HN.out m).1 (HN.out m).2)
        rw [e46] at ht2
        clear hdj hpj hJ h46 e46
        go_wp2_with (first | (go_at_call 65; refine (rat_calls b l j _ hs (by omega) (by exact h0)).mono ?_; rintro e w1 ⟨rfl, rfl⟩) | (go_at_call 73; refine (rsign_calls _ _).mono ?_; rintro e w1 ⟨rfl, ⟨n1, rfl⟩⟩))
        go_quiet (fail)
        go_wp2_with (go_at_call 70; refine (hf.out _).mono ?_; rintro e w3 ⟨rfl, hp⟩; have hp := hide hp)
        go_end0
        exact hp.out
      · have e46 : (cut l i j == [46]) = false := by simpa using h46
        have hf := hide (fun m => add_ret (i := i) (j := j) (J := J) (k := 1) (show R = RsPost w b l (addNR acc i 1 (cut l i J) J) by rw [hR.out]; unfold signsNR; rw [hJ, if_neg h46]) hJ l.length hs hij ha (HN.out m).1 (HN.out m).2)
        rw [e46] at ht2
        clear hdj hpj hJ h46 e46
        go_wp2_with (first | (go_at_call 65; refine (rat_calls b l j _ hs (by omega) (by exact h0)).mono ?_; rintro e w1 ⟨rfl, rfl⟩) | (go_at_call 73; refine (rsign_calls _ _).mono ?_; rintro e w1 ⟨rfl, ⟨n1, rfl⟩⟩))
        go_quiet (fail)
        go_wp2_with (first | (go_at_call 64; refine (rblank_calls _ _).mono ?_; rintro e w1 ⟨rfl, rfl⟩) | (go_at_call 70; refine (hf.out _).mono ?_; rintro e w3 ⟨rfl, hp⟩; have hp := hide hp))
        go_end0
        exact hp.out
    | cons d u =>
      have hpj := pk_cons hdj
      obtain ⟨hlj, -, -⟩ := drop_at hdj
      have hb := B_get hdj
      cases hcd : sign d with
      | true =>
        have hst := hide (span_step hdj hcd hsp.out hij)
        have hdg : sign (pk l j) = true := by rw [hpj, hcd]
        clear hdj hpj ht2 hb
        go_wp2_with (first | (go_at_call 65; refine (rat_calls b l j _ hs (by omega) (by exact h0)).mono ?_; rintro e w1 ⟨rfl, rfl⟩) | (go_at_call 73; refine (rsign_calls _ _).mono ?_; rintro e w1 ⟨rfl, ⟨n1, rfl⟩⟩))
        go_roundw
        case rel => exact ⟨j + 1, by go_num, by omega, by omega, hst, _, rfl⟩
        case measure => simp [intOf]; omega
      | false =>
        have hJ : J = j := by rw [hJ0.out]; exact span_stop hdj hcd hsp.out hij
        have hdg : sign (pk l j) = false := by rw [hpj, hcd]
        have hjl2 : ((j : Int) == (l.length : Int)) = false := by simp; omega
        have hjl3 : (j == l.length) = false := by simp; omega
        by_cases h46 : cut l i j = [46]
        · have e46 : (cut l i j == [46]) = true := by simpa using h46
          rw [e46] at ht2
          cases hbl : Tk.blank d with
          | true =>
            have hf := hide (fun m => add_one 7 [46] j (show R = RsPost w b l (addNR acc i 7 [46] j) by rw [hR.out, hJ]; unfold signsNR; rw [if_pos h46, hdj]; simp [hbl]) (by decide) ha (HN.out m).1 (HN.out m).2)
            clear hdj hpj hJ h46 e46
            go_wp2_with (first | (go_at_call 65; refine (rat_calls b l j _ hs (by omega) (by exact h0)).mono ?_; rintro e w1 ⟨rfl, rfl⟩) | (go_at_call 73; refine (rsign_calls _ _).mono ?_; rintro e w1 ⟨rfl, ⟨n1, rfl⟩⟩))
            go_quiet (fail)
            go_wp2_with (first | (go_at_call 64; refine (rblank_calls _ _).mono ?_; rintro e w1 ⟨rfl, rfl⟩) | (go_at_call 70; refine (hf.out _).mono ?_; rintro e w3 ⟨rfl, hp⟩; have hp := hide hp))
            go_end0
            exact hp.out
          | false =>
            by_cases h37 : d = 37
            · have e37 := is_yes (n := 37) (d := 37) rfl h37
              have hf := hide (fun m => add_one 7 [46] j (show R = RsPost w b l (addNR acc i 7 [46] j) by rw [hR.out, hJ]; unfold signsNR; rw [if_pos h46, hdj]; simp [h37]) (by decide) ha (HN.out m).1 (HN.out m).2)
              clear hdj hpj hJ h46 e46 h37
              go_wp2_with (first | (go_at_call 65; refine (rat_calls b l j _ hs (by omega) (by exact h0)).mono ?_; rintro e w1 ⟨rfl, rfl⟩) | (go_at_call 73; refine (rsign_calls _ _).mono ?_; rintro e w1 ⟨rfl, ⟨n1, rfl⟩⟩))
              go_quiet (fail)
              go_wp2_with (first | (go_at_call 64; refine (rblank_calls _ _).mono ?_; rintro e w1 ⟨rfl, rfl⟩) | (go_at_call 70; refine (hf.out _).mono ?_; rintro e w3 ⟨rfl, hp⟩; have hp := hide hp))
              go_end0
              exact hp.out
            · have e37 := is_no (n := 37) (d := 37) rfl h37
              have hf := hide (fun m => fail_ret 11 i (show R = RsPost w b l (.bad i 11) by rw [hR.out, hJ]; unfold signsNR; rw [if_pos h46, hdj]; simp [h37, hbl]) (HN.out m).1 (HN.out m).2)
              clear hdj hpj hJ h46 e46 h37
              go_wp2_with (first | (go_at_call 65; refine (rat_calls b l j _ hs (by omega) (by exact h0)).mono ?_; rintro e w1 ⟨rfl, rfl⟩) | (go_at_call 73; refine (rsign_calls _ _).mono ?_; rintro e w1 ⟨rfl, ⟨n1, rfl⟩⟩))
              go_quiet (fail)
              go_wp2_with (first | (go_at_call 64; refine (rblank_calls _ _).mono ?_; rintro e w1 ⟨rfl, rfl⟩) | (go_at_call 63; refine (hf.out _).mono ?_; rintro e w3 ⟨rfl, hp⟩; have hp := hide hp))
              go_end0
              exact hp.out
        · have e46 : (cut l i j == [46]) = false := by simpa using h46
          have hf := hide (fun m => add_ret (i := i) (j := j) (J := J) (k := 1) (show R = RsPost w b l (addNR acc i 1 (cut l i J) J) by rw [hR.out]; unfold signsNR; rw [hJ, if_neg h46]) hJ l.length hs hij ha (HN.out m).1 (HN.out m).2)
          rw [e46] at ht2
          clear hdj hpj hJ h46 e46
          go_wp2_with (first | (go_at_call 65; refine (rat_calls b l j _ hs (by omega) (by exact h0)).mono ?_; rintro e w1 ⟨rfl, rfl⟩) | (go_at_call 73; refine (rsign_calls _ _).mono ?_; rintro e w1 ⟨rfl, ⟨n1, rfl⟩⟩))
          go_quiet (fail)
          go_wp2_with (first | (go_at_call 64; refine (rblank_calls _ _).mono ?_; rintro e w1 ⟨rfl, rfl⟩) | (go_at_call 70; refine (hf.out _).mono ?_; rintro e w3 ⟨rfl, hp⟩; have hp := hide hp))
          go_end0
          exact hp.out
end
end Go.Proofs.YtgeonilideojnaaGreatDoor.Rs
end
section
namespace Go.Proofs.YtgeonilideojnaaGreatDoor.Rs
open Go Go.RowKit Tk Go.Proofs.YtgeonilideojnaaGreatDoor.Pr Go.Proofs.YtgeonilideojnaaGreatDoorW.PrintWords Go.Proofs.YtgeonilideojnaaGreatDoor.Rf
set_option linter.unusedVariables false
set_option linter.unusedSimpArgs false
def quotedNR (q : UInt8) (acc : List Tok) (i : Nat) : Tk.R Bs → NR
  | .ok s j => if q = 39 then (if s = [] || s.contains 46 then .bad i 11 else addNR acc i 1 s j) else addNR acc i 5 s j
  | .bad a e => .bad a e
def escOf (q : UInt8) : Bs := if q = 39 then [92, 39] else [110, 116, 92, 34]
theorem esc_yes {q d : UInt8} (hq : q = 34 ∨ q = 39) (h : (escOf q).contains d = true) : escR q d = unesc d ∧ unesc d ≠ 0 := by
  rcases hq with rfl | rfl
  · have : d = 110 ∨ d = 116 ∨ d = 92 ∨ d = 34 := by simpa [escOf] using h
    rcases this with rfl | rfl | rfl | rfl <;> decide
  · have : d = 92 ∨ d = 39 := by simpa [escOf] using h
    rcases this with rfl | rfl <;> decide
theorem esc_no {q d : UInt8} (hq : q = 34 ∨ q = 39) (h : (escOf q).contains d = false) : escR q d = 0 := by
  rcases hq with rfl | rfl
  · have : ¬ (d = 110 ∨ d = 116 ∨ d = 92 ∨ d = 34) := by simpa [escOf] using h
    simp only [not_or] at this
    simp [escR, this]
  · have : ¬ (d = 92 ∨ d = 39) := by simpa [escOf] using h
    simp only [not_or] at this
    simp [escR, this]
theorem B_app (a b : Bs) : B a ++ B b = B (a ++ b) := by
  apply ByteArray.ext
  simp [B, ByteArray.data_append]
theorem add_late {w W : World} {b : Nat} {l : Bs} {i : Nat} {v : Value} {acc : List Tok} {tx : Nat} (e a : Nat) (k : Int) (s : Bs) (j : Nat) {R : Ending → World → Prop} (he : e ≠ 0) (hR : R = RsPost w b l (.bad a e)) (hl : s.length ≤ 65536) (ha : acc.length ≤ 65536) (h : Rs W b l i v acc tx e a) (hb : Below b w W) :
    Calls Tryz.prog 70 #[.pointer (some ⟨b, 0, none⟩), .int .i64 k, .string (B s), .int .i64 (j : Int)] W fun e w' => e = .returned (.tuple #[]) ∧ R e w' := by
  subst hR
  refine (radd_calls b l i v acc tx e a k s j W hl ha h).mono ?_
  rintro e' w' ⟨rfl, ⟨v', h1⟩, h2⟩
  have hA : addE (e : Int) (a : Int) ⟨k, s, i⟩ = ((e : Int), (a : Int)) := by
    unfold addE
    rw [if_neg (by rintro ⟨h, _⟩; omega)]
  rw [hA] at h1
  exact ⟨rfl, rfl, ⟨_, _, _, _, h1⟩, hb.trans h2⟩
theorem rhas_as (l : Bs) (c : UInt8) (r : Bool) (hl : l.length ≤ 1000000) (hr : l.contains c = r) : ∀ w : World, Calls Tryz.prog 38 #[.string (B l), .int .u8 (c.toNat : Int)] w fun e w' => e = .returned (.bool r) ∧ ∃ n, w' = w.drewN n := by
  subst hr
  exact fun w => rhas_calls l c w hl
section
set_option maxHeartbeats 8000000
set_option maxRecDepth 100000
theorem rquoted_calls (b : Nat) (l : Bs) (i : Nat) (v : Value) (acc : List Tok) (tx : Nat) (w : World) (q : UInt8) (t : Bs) (hs : l.length ≤ 65536) (hd : l.drop i = q :: t) (hq : q = 34 ∨ q = 39) (ha : acc.length ≤ 65536) (h : Rs w b l i v acc tx 0 0) :
    Calls Tryz.prog 72 #[.pointer (some ⟨b, 0, none⟩)] w (RsPost w b l (quotedNR q acc i (quotedS q (escOf q) l i))) := by
  have hz := size_B
  have h0 := h.c0
  have h1 := h.c1
  have hlt := h.lt
  have hb := B_get hd
  obtain ⟨hl, -, -⟩ := drop_at hd
  obtain ⟨X, hX⟩ : ∃ X, X = quotedNR q acc i (quotedS q (escOf q) l i) := ⟨_, rfl⟩
  obtain ⟨R, hR⟩ : ∃ R, R = RsPost w b l X := ⟨_, rfl⟩
  rw [← hX, ← hR]
  have hst : Rs (w.drewN 0) b l i v acc tx 0 0 ∧ Below b w (w.drewN 0) := ⟨h, Below.refl _ _⟩
  have HN : ∀ m, Rs (w.drewN m) b l i v acc tx 0 0 ∧ Below b w (w.drewN m) := fun m => ⟨h.drewN m, below_drewN b w m⟩
  replace HN := hide HN
  replace hR := hide hR
  replace hX := hide hX
  replace hq := hide hq
  clear h hd hst
  go_enter Tryz.func72, Tryz.ntmps72
  go_wp2
  go_quiet (fail)
  go_wp2
  clear hb h0 h1
  go_loopw [3, 4] (fun y x wr => ∃ (j : Nat) (out : Bs), y = .string (B out) ∧ x = .int .i64 (j : Int) ∧ i + 1 ≤ j ∧ j ≤ l.length ∧ out.length ≤ j ∧ Hid (quotedS q (escOf q) l i = quotedR q (escOf q) i j (l.drop j) out) ∧ Rs wr b l i v acc tx 0 0 ∧ Below b w wr) (fun _ x wr => l.length - (intOf x).toNat)
  case atStart => exact ⟨i + 1, [], rfl, by go_num, Nat.le_refl _, by omega, by simp, rfl, (HN.out _).1, (HN.out _).2⟩
  case round =>
    obtain ⟨j, out, rfl, rfl, hij, hjl, hol, hq1, hRs, hBl⟩ := hrel
    have g0 := hRs.c0
    have g1 := hRs.c1
    have hlt1 := hRs.lt
    have HN : ∀ m, Rs (wr.drewN m) b l i v acc tx 0 0 ∧ Below b w (wr.drewN m) := fun m => ⟨hRs.drewN m, hBl.trans (below_drewN b wr m)⟩
    have HA : ∀ m o, Rs ((wr.drewN m).alloc o) b l i v acc tx 0 0 ∧ Below b w ((wr.drewN m).alloc o) := fun m o => ⟨(hRs.drewN m).alloc o, (hBl.trans (below_drewN b wr m)).alloc (Nat.le_of_lt hlt1) o⟩
    replace HN := hide HN
    replace HA := hide HA
    clear hRs hBl
    have fail_ := fun (e a : Nat) (hx : X = .bad a e) m => fail_ret e a (show R = RsPost w b l (.bad a e) by rw [hR.out, hx]) (HN.out m).1 (HN.out m).2
    replace fail_ := hide fail_
    cases hdj : l.drop j with
    | nil =>
      have hn := drop_nil hdj
      have hf := hide (fail_.out 12 i (by rw [hX.out, hq1.out, hdj, quotedR_nil]; rfl))
      clear hdj fail_
      go_wp2_with (go_at_call 63; refine (hf.out 0).mono ?_; rintro e w3 ⟨rfl, hp⟩; have hp := hide hp)
      go_end0
      exact hp.out
    | cons c u =>
      obtain ⟨hlj, -, hu⟩ := drop_at hdj
      have hb := B_get hdj
      have eq2 : ((c.toNat : Int) == (q.toNat : Int)) = (c == q) := by rw [Bool.eq_iff_iff]; simp [← UInt8.toNat_inj]; omega
      have en2 : (c.toNat == q.toNat) = (c == q) := by rw [Bool.eq_iff_iff]; simp [← UInt8.toNat_inj]
      have hstep := hq1.out
      rw [hdj, quotedR_cons] at hstep
      by_cases hcq : c = q
      · have e1 : (c == q) = true := by simpa using hcq
        rw [e1] at eq2 en2
        have hpq : permitted c = true := by rw [hcq]; rcases hq.out with rfl | rfl <;> decide
        rw [if_neg (by simp [hpq]), if_pos hcq] at hstep
        replace hstep := hide hstep
        have hpo := Nat.le_trans hol hjl
        have ht := toList_B out
        by_cases h39 : q = 39
        · have e39 := is_yes (n := 39) (d := 39) rfl h39
          have e39' : (q.toNat == 39) = true := by rw [h39]; rfl
          by_cases hbad : out = [] ∨ out.contains 46 = true
          · have hx : X = .bad i 11 := by
              rw [hX.out, hstep.out]
              unfold quotedNR
              simp only
              rw [if_pos h39, if_pos (by simpa using hbad)]
            have hlate := hide (fun W (h1 : Rs W b l i v acc tx 11 i) (h2 : Below b w W) => add_late 11 i 1 out (j + 1) (by decide) (show R = RsPost w b l (.bad i 11) by rw [hR.out, hx]) (by omega) ha h1 h2)
            have arm := hide (fun m => rfail_calls b l i v acc tx 0 11 i _ (HN.out m).1)
            by_cases hne : out = []
            · have o1 : out.isEmpty = true := by rw [hne]; rfl
              have o2 : (out == []) = true := by rw [hne]; rfl
              clear hdj fail_ hcq e1 h39 hbad hne hu
              go_wp2_with (first | (go_at_call 63; refine (arm.out _).mono ?_; rintro e w2 ⟨rfl, hR2, hb2, -⟩; have HR2 := hide hR2; have HB2 := hide hb2; clear hR2 hb2) | (go_at_call 63; refine (arm.out 0).mono ?_; rintro e w2 ⟨rfl, hR2, hb2, -⟩; have HR2 := hide hR2; have HB2 := hide hb2; clear hR2 hb2) | (go_at_call 70; refine (hlate.out _ (by exact HR2.out) (((HN.out _).2).trans HB2.out)).mono ?_; rintro e w3 ⟨rfl, hp⟩; have hp := hide hp))
              go_end0
              exact hp.out
            · have o1 : out.isEmpty = false := by simpa using hne
              have o2 : (out == []) = false := by simpa using hne
              have o3 : out.contains 46 = true := by simpa [hne] using hbad
              have hh := hide (rhas_as out 46 true (by omega) o3)
              clear o3
              clear hdj fail_ hcq e1 h39 hbad hne hu
              go_wp2_with (first | (go_at_call 62; refine (rByte_calls _ _).mono ?_; rintro e w1 ⟨rfl, ⟨n1, rfl⟩⟩) | (go_at_call 101; refine (rescaped_calls _ _ _).mono ?_; rintro e w1 ⟨rfl, rfl⟩) | (go_at_call 38; refine (hh.out _).mono ?_; rintro e w1 ⟨rfl, ⟨n1, rfl⟩⟩) | (go_at_call 63; refine (arm.out _).mono ?_; rintro e w2 ⟨rfl, hR2, hb2, -⟩; have HR2 := hide hR2; have HB2 := hide hb2; clear hR2 hb2) | (go_at_call 63; refine (arm.out 0).mono ?_; rintro e w2 ⟨rfl, hR2, hb2, -⟩; have HR2 := hide hR2; have HB2 := hide hb2; clear hR2 hb2) | (go_at_call 70; refine (hlate.out _ (by exact HR2.out) (((HN.out _).2).trans HB2.out)).mono ?_; rintro e w3 ⟨rfl, hp⟩; have hp := hide hp))
              go_end0
              exact hp.out
          · have hne : ¬ out = [] := fun e => hbad (.inl e)
            have o1 : out.isEmpty = false := by simpa using hne
            have o2 : (out == []) = false := by simpa using hne
            have o3 : out.contains 46 = false := by
              cases ho : out.contains 46 with
              | false => rfl
              | true => exact absurd (.inr ho) hbad
            have hh := hide (rhas_as out 46 false (by omega) o3)
            clear o3
            have hf := hide (fun m => add_one 1 out (j + 1) (show R = RsPost w b l (addNR acc i 1 out (j + 1)) by
              rw [hR.out, hX.out, hstep.out]
              unfold quotedNR
              simp only
              rw [if_pos h39, if_neg (by simpa using hbad)]) (by omega) ha (HN.out m).1 (HN.out m).2)
            clear hdj fail_ hcq e1 h39 hbad hne hu
            go_wp2_with (first | (go_at_call 62; refine (rByte_calls _ _).mono ?_; rintro e w1 ⟨rfl, ⟨n1, rfl⟩⟩) | (go_at_call 101; refine (rescaped_calls _ _ _).mono ?_; rintro e w1 ⟨rfl, rfl⟩) | (go_at_call 38; refine (hh.out _).mono ?_; rintro e w1 ⟨rfl, ⟨n1, rfl⟩⟩) | (go_at_call 70; refine (hf.out _).mono ?_; rintro e w3 ⟨rfl, hp⟩; have hp := hide hp) | (go_at_call 70; refine (hf.out 0).mono ?_; rintro e w3 ⟨rfl, hp⟩; have hp := hide hp))
            go_end0
            exact hp.out
        · have e39 := is_no (n := 39) (d := 39) rfl h39
          have e39' : (q.toNat == 39) = false := by
            have := toNat_ne h39
            simpa using this
          have hf := hide (fun m => add_one 5 out (j + 1) (show R = RsPost w b l (addNR acc i 5 out (j + 1)) by
            rw [hR.out, hX.out, hstep.out]
            unfold quotedNR
            simp only
            rw [if_neg h39]) (by omega) ha (HN.out m).1 (HN.out m).2)
          clear hdj fail_ hcq e1 h39 hu
          go_wp2_with (first | (go_at_call 62; refine (rByte_calls _ _).mono ?_; rintro e w1 ⟨rfl, ⟨n1, rfl⟩⟩) | (go_at_call 101; refine (rescaped_calls _ _ _).mono ?_; rintro e w1 ⟨rfl, rfl⟩) | (go_at_call 38; refine (hh.out _).mono ?_; rintro e w1 ⟨rfl, ⟨n1, rfl⟩⟩) | (go_at_call 70; refine (hf.out _).mono ?_; rintro e w3 ⟨rfl, hp⟩; have hp := hide hp) | (go_at_call 70; refine (hf.out 0).mono ?_; rintro e w3 ⟨rfl, hp⟩; have hp := hide hp))
          go_end0
          exact hp.out
      · have e1 : (c == q) = false := by simpa using hcq
        rw [e1] at eq2 en2
        cases hp : permitted c with
        | false =>
          rw [hp] at hstep
          have hf := hide (fail_.out 2 j (by rw [hX.out, hstep]; rfl))
          clear hdj fail_ hcq e1 hu hstep
          go_wp2_with (first | (go_at_call 62; refine (rByte_calls _ _).mono ?_; rintro e w1 ⟨rfl, ⟨n1, rfl⟩⟩) | (go_at_call 101; refine (rescaped_calls _ _ _).mono ?_; rintro e w1 ⟨rfl, rfl⟩) | (go_at_call 38; refine (hh.out _).mono ?_; rintro e w1 ⟨rfl, ⟨n1, rfl⟩⟩) | (go_at_call 63; refine (hf.out _).mono ?_; rintro e w3 ⟨rfl, hp⟩; have hp := hide hp) | (go_at_call 63; refine (hf.out 0).mono ?_; rintro e w3 ⟨rfl, hp⟩; have hp := hide hp))
          go_end0
          exact hp.out
        | true =>
          rw [if_neg (by simp [hp]), if_neg hcq] at hstep
          by_cases hbr : c = 10 ∨ c = 9
          · rw [if_pos (by simpa using hbr)] at hstep
            have hf := hide (fail_.out 11 j (by rw [hX.out, hstep]; rfl))
            by_cases h9 : c = 9
            · have e9 := is_yes (n := 9) (d := 9) rfl h9
              clear hdj fail_ hcq e1 hu hstep hbr h9
              go_wp2_with (first | (go_at_call 62; refine (rByte_calls _ _).mono ?_; rintro e w1 ⟨rfl, ⟨n1, rfl⟩⟩) | (go_at_call 101; refine (rescaped_calls _ _ _).mono ?_; rintro e w1 ⟨rfl, rfl⟩) | (go_at_call 38; refine (hh.out _).mono ?_; rintro e w1 ⟨rfl, ⟨n1, rfl⟩⟩) | (go_at_call 63; refine (hf.out _).mono ?_; rintro e w3 ⟨rfl, hp⟩; have hp := hide hp) | (go_at_call 63; refine (hf.out 0).mono ?_; rintro e w3 ⟨rfl, hp⟩; have hp := hide hp))
              go_end0
              exact hp.out
            · have e9 := is_no (n := 9) (d := 9) rfl h9
              have e10 := is_yes (n := 10) (d := 10) rfl (hbr.resolve_right h9)
              clear hdj fail_ hcq e1 hu hstep hbr h9
              go_wp2_with (first | (go_at_call 62; refine (rByte_calls _ _).mono ?_; rintro e w1 ⟨rfl, ⟨n1, rfl⟩⟩) | (go_at_call 101; refine (rescaped_calls _ _ _).mono ?_; rintro e w1 ⟨rfl, rfl⟩) | (go_at_call 38; refine (hh.out _).mono ?_; rintro e w1 ⟨rfl, ⟨n1, rfl⟩⟩) | (go_at_call 63; refine (hf.out _).mono ?_; rintro e w3 ⟨rfl, hp⟩; have hp := hide hp) | (go_at_call 63; refine (hf.out 0).mono ?_; rintro e w3 ⟨rfl, hp⟩; have hp := hide hp))
              go_end0
              exact hp.out
          · have e9 := is_no (n := 9) (d := 9) rfl (fun e => hbr (.inr e))
            have e10 := is_no (n := 10) (d := 10) rfl (fun e => hbr (.inl e))
            rw [if_neg (by simpa using hbr)] at hstep
            have ew1 := wrap_sum j 1 (by omega)
            by_cases h92 : c = 92
            · have e92 := is_yes (n := 92) (d := 92) rfl h92
              rw [if_pos h92] at hstep
              cases u with
              | nil =>
                have hn := drop_nil hu
                have hst : Hid (quotedS q (escOf q) l i = quotedR q (escOf q) i (j + 1) (l.drop (j + 1)) (out ++ [c])) := by
                  unfold Hid
                  rw [hstep, hu, quotedR_nil]
                have hcv := conv1_N c
                have hcv0 := conv1 c
                clear hdj fail_ hcq e1 hu hstep hbr h92
                go_wp2_with (first | (go_at_call 62; refine (rByte_calls _ _).mono ?_; rintro e w1 ⟨rfl, ⟨n1, rfl⟩⟩) | (go_at_call 101; refine (rescaped_calls _ _ _).mono ?_; rintro e w1 ⟨rfl, rfl⟩) | (go_at_call 38; refine (hh.out _).mono ?_; rintro e w1 ⟨rfl, ⟨n1, rfl⟩⟩))
                go_roundw
                case rel => exact ⟨j + 1, out ++ [c], by rw [← B_app], by go_num, by omega, by omega, by simp; omega, hst, (HA.out _ _).1, (HA.out _ _).2⟩
                case measure => simp [intOf]; omega
              | cons d u' =>
                obtain ⟨hlj1, -, hu2⟩ := drop_at hu
                have hbd := B_get hu
                have hlj1' : decide (j + 1 < l.length) = true := by simpa using hlj1
                simp only at hstep
                cases hpd : permitted d with
                | false =>
                  rw [hpd] at hstep
                  have hf := hide (fail_.out 2 (j + 1) (by rw [hX.out, hstep]; rfl))
                  clear hdj fail_ hcq e1 hu hstep hbr h92 hu2
                  go_wp2_with (first | (go_at_call 62; refine (rByte_calls _ _).mono ?_; rintro e w1 ⟨rfl, ⟨n1, rfl⟩⟩) | (go_at_call 101; refine (rescaped_calls _ _ _).mono ?_; rintro e w1 ⟨rfl, rfl⟩) | (go_at_call 38; refine (hh.out _).mono ?_; rintro e w1 ⟨rfl, ⟨n1, rfl⟩⟩) | (go_at_call 63; refine (hf.out _).mono ?_; rintro e w3 ⟨rfl, hp⟩; have hp := hide hp) | (go_at_call 63; refine (hf.out 0).mono ?_; rintro e w3 ⟨rfl, hp⟩; have hp := hide hp))
                  go_end0
                  exact hp.out
                | true =>
                  rw [if_neg (by simp [hpd])] at hstep
                  cases hes : (escOf q).contains d with
                  | false =>
                    rw [if_neg (by rw [hes]; decide)] at hstep
                    have hf := hide (fail_.out 11 j (by rw [hX.out, hstep]; rfl))
                    have hesc := esc_no hq.out hes
                    have hesc2 : ((escR q d).toNat : Int) = 0 := by rw [hesc]; rfl
                    clear hdj fail_ hcq e1 hu hstep hbr h92 hu2 hesc hes
                    go_wp2_with (first | (go_at_call 62; refine (rByte_calls _ _).mono ?_; rintro e w1 ⟨rfl, ⟨n1, rfl⟩⟩) | (go_at_call 101; refine (rescaped_calls _ _ _).mono ?_; rintro e w1 ⟨rfl, rfl⟩) | (go_at_call 38; refine (hh.out _).mono ?_; rintro e w1 ⟨rfl, ⟨n1, rfl⟩⟩) | (go_at_call 63; refine (hf.out _).mono ?_; rintro e w3 ⟨rfl, hp⟩; have hp := hide hp) | (go_at_call 63; refine (hf.out 0).mono ?_; rintro e w3 ⟨rfl, hp⟩; have hp := hide hp))
                    go_end0
                    exact hp.out
                  | true =>
                    rw [if_pos hes] at hstep
                    have hst : Hid (quotedS q (escOf q) l i = quotedR q (escOf q) i (j + 2) (l.drop (j + 2)) (out ++ [unesc d])) := by
                      unfold Hid
                      rw [hstep, show l.drop (j + 2) = u' from hu2]
                    obtain ⟨hesc, hnz⟩ := esc_yes hq.out hes
                    have hcv := conv1_N (unesc d)
                    have hcv0 := conv1 (unesc d)
                    have hnz1 : (((unesc d).toNat : Int) == 0) = false := is_no (n := 0) (d := 0) rfl hnz
                    generalize unesc d = x at *
                    clear hdj fail_ hcq e1 hu hstep hbr h92 hu2 hes hnz
                    go_wp2_with (first | (go_at_call 62; refine (rByte_calls _ _).mono ?_; rintro e w1 ⟨rfl, ⟨n1, rfl⟩⟩) | (go_at_call 101; refine (rescaped_calls _ _ _).mono ?_; rintro e w1 ⟨rfl, rfl⟩) | (go_at_call 38; refine (hh.out _).mono ?_; rintro e w1 ⟨rfl, ⟨n1, rfl⟩⟩))
                    go_roundw
                    case rel => exact ⟨j + 2, out ++ [x], by rw [← B_app], by go_num, by omega, by omega, by simp; omega, hst, (HA.out _ _).1, (HA.out _ _).2⟩
                    case measure => simp [intOf]; omega
            · have e92 := is_no (n := 92) (d := 92) rfl h92
              rw [if_neg h92] at hstep
              have hst : Hid (quotedS q (escOf q) l i = quotedR q (escOf q) i (j + 1) (l.drop (j + 1)) (out ++ [c])) := by
                unfold Hid
                rw [hstep, hu]
              have hcv := conv1_N c
              have hcv0 := conv1 c
              clear hdj fail_ hcq e1 hu hstep hbr h92
              go_wp2_with (first | (go_at_call 62; refine (rByte_calls _ _).mono ?_; rintro e w1 ⟨rfl, ⟨n1, rfl⟩⟩) | (go_at_call 101; refine (rescaped_calls _ _ _).mono ?_; rintro e w1 ⟨rfl, rfl⟩) | (go_at_call 38; refine (hh.out _).mono ?_; rintro e w1 ⟨rfl, ⟨n1, rfl⟩⟩))
              go_roundw
              case rel => exact ⟨j + 1, out ++ [c], by rw [← B_app], by go_num, by omega, by omega, by simp; omega, hst, (HA.out _ _).1, (HA.out _ _).2⟩
              case measure => simp [intOf]; omega
end
end Go.Proofs.YtgeonilideojnaaGreatDoor.Rs
end
