/- A part of a proof over the package's statements: contracts of functions and plain facts, merged by a program of this session's. -/
import Derived.Test.YtgeonilideojnaaGreatDoorRG1x1
import Derived.Test.YtgeonilideojnaaGreatDoorRG1x5
import Derived.Test.YtgeonilideojnaaGreatDoorRG2x1
import Derived.Test.YtgeonilideojnaaGreatDoorRG2x2
section
namespace Go.Proofs.YtgeonilideojnaaGreatDoor.Rf
open Go Go.RowKit Tk Go.Proofs.YtgeonilideojnaaGreatDoor.Pr Go.Proofs.YtgeonilideojnaaGreatDoorW.PrintWords
set_option linter.unusedVariables false
set_option linter.unusedSimpArgs false
theorem small_letter {c : UInt8} (h : small c = true) : letter c = true := by simp [letter, h]
theorem u8_all (p : UInt8 → Bool) (h : ∀ n, n < 256 → p (UInt8.ofNat n) = true) (c : UInt8) : p c = true := by
  have := h c.toNat c.toNat_lt
  simpa using this
theorem small_not_sign (c : UInt8) (h : small c = true) : sign c = false := by
  have := u8_all (fun c => !small c || !sign c) (by decide +kernel) c
  simpa [h] using this
theorem nameLen_cons (c : UInt8) (t : Bs) : nameLen (c :: t) = if letter c || (c == 46 && small (t.headD 0)) then nameLen t + 1 else 0 := by
  cases t with
  | nil =>
    have : small ((([] : Bs)).headD 0) = false := by decide
    simp only [nameLen, this, Bool.and_false, Bool.or_false]
  | cons d u => rfl
theorem nameLen_span : ∀ l : Bs, nameLen l = spanLen letter l + nameLen (l.drop (spanLen letter l))
  | [] => rfl
  | c :: t => by
    cases h : letter c with
    | true =>
      have ih := nameLen_span t
      simp only [nameLen_cons, spanLen, h, Bool.true_or, if_true, List.drop_succ_cons]
      omega
    | false => simp [spanLen, h]
theorem span_stop (p : UInt8 → Bool) (h0 : p 0 = false) : ∀ l : Bs, p ((l.drop (spanLen p l)).headD 0) = false
  | [] => by simp [spanLen, h0]
  | c :: t => by
    cases h : p c with
    | true =>
      simp only [spanLen, h, if_true, List.drop_succ_cons]
      exact span_stop p h0 t
    | false => simp [spanLen, h]
theorem span_le (p : UInt8 → Bool) : ∀ l : Bs, spanLen p l ≤ l.length
  | [] => Nat.le_refl _
  | c :: t => by
    have := span_le p t
    unfold spanLen
    split <;> simp <;> omega
theorem span_all (p : UInt8 → Bool) : ∀ l : Bs, (spanLen p l = l.length) ↔ l.all p = true
  | [] => by simp [spanLen]
  | c :: t => by
    have ih := span_all p t
    have := span_le p t
    unfold spanLen
    cases h : p c with
    | true =>
      simp only [if_true, List.length_cons, List.all_cons, h, Bool.true_and]
      rw [← ih]
      omega
    | false =>
      simp only [Bool.false_eq_true, if_false, List.length_cons, List.all_cons, h, Bool.false_and]
      exact ⟨fun h => by omega, fun h => by cases h⟩
theorem nameLen_le : ∀ l : Bs, nameLen l ≤ l.length
  | [] => Nat.le_refl _
  | c :: t => by
    have := nameLen_le t
    rw [nameLen_cons]
    split <;> simp <;> omega
theorem eq46 (c : UInt8) : ((c.toNat : Int) = 46) ↔ c = 46 := by
  rw [← cast_eq]
  exact Iff.rfl
theorem bare_step (l : Bs) (o : List S35) (x3 x4 x5 : Int) (j : Nat) (hj : j ≤ 1000000) (k : Nat) :
    cinnabarref01_scanner_bare.l0 (k + 1) (B l) (j : Int) o x3 x4 x5 =
      if pk l j = 46 ∧ small (pk l (j + 1)) = true then (cinnabarref01_scanner_run.f k (B l) (j : Int) o x3 x4 x5 ((j + 1 : Nat) : Int)).bind fun b => cinnabarref01_scanner_bare.l0 k b.2.1 b.1 o b.2.2.2.1 b.2.2.2.2.1 b.2.2.2.2.2
      else some (B l, (j : Int), x3, x4, x5) := by
  simp only [cinnabarref01_scanner_bare.l0]
  rw [at_f]
  simp only [Option.bind_some, wrap_succ j hj, at_f, small_f, Option.bind_some, eq46]
  by_cases h : pk l j = 46
  · rw [if_pos h]
    cases hs : small (pk l (j + 1)) with
    | true => rw [if_pos rfl, if_pos ⟨h, rfl⟩]
    | false => rw [if_neg (by simp), if_neg (by simp)]
  · rw [if_neg h, if_neg (fun x => h x.1)]
theorem nameLen_stop (c : UInt8) (t : Bs) (hs : letter c = false) (h : ¬ (c = 46 ∧ small (t.headD 0) = true)) : nameLen (c :: t) = 0 := by
  rw [nameLen_cons, hs, Bool.false_or, if_neg]
  intro e
  exact h (by simpa using e)
theorem nameLen_dot (t : Bs) (h : small (t.headD 0) = true) : nameLen (46 :: t) = 1 + (spanLen letter t + nameLen (t.drop (spanLen letter t))) := by
  rw [nameLen_cons, h, ← nameLen_span, if_pos (by decide)]
  omega
theorem bare_l0 (l : Bs) (o : List S35) (x3 x4 x5 : Int) (hl : l.length ≤ 1000000) : ∀ (n j : Nat), l.length - j ≤ n → letter (pk l j) = false → j ≤ l.length →
    Ev (fun k => cinnabarref01_scanner_bare.l0 k (B l) (j : Int) o x3 x4 x5) (B l, ((j + nameLen (l.drop j) : Nat) : Int), x3, x4, x5) := by
  intro n
  induction n with
  | zero =>
    intro j hj hs hle
    have hd : l.drop j = [] := List.drop_eq_nil_of_le (by omega)
    have hp := pk_nil hd
    rw [hd]
    refine Ev.step (f := fun _ => some (B l, ((j : Nat) : Int), x3, x4, x5)) (fun k => ?_) (Ev.now _)
    rw [bare_step l o x3 x4 x5 j (by omega) k, if_neg (by rw [hp]; rintro ⟨h, _⟩; exact absurd h (by decide))]
  | succ n ih =>
    intro j hj hs hle
    cases hd : l.drop j with
    | nil =>
      have hp := pk_nil hd
      refine Ev.step (f := fun _ => some (B l, ((j : Nat) : Int), x3, x4, x5)) (fun k => ?_) (Ev.now _)
      rw [bare_step l o x3 x4 x5 j (by omega) k, if_neg (by rw [hp]; rintro ⟨h, _⟩; exact absurd h (by decide))]
    | cons c t =>
      obtain ⟨hlt, _, h2⟩ := drop_at hd
      have hpc := pk_cons hd
      have hpd : pk l (j + 1) = t.headD 0 := by unfold pk; rw [h2]
      by_cases hc : pk l j = 46 ∧ small (pk l (j + 1)) = true
      · have e : j + nameLen (c :: t) = (j + 1 + spanLen letter t) + nameLen (l.drop (j + 1 + spanLen letter t)) := by
          rw [← List.drop_drop, h2]
          rw [hpc, hpd] at hc
          rw [hc.1, nameLen_dot t hc.2]
          omega
        rw [e]
        have hsp : letter (pk l (j + 1 + spanLen letter t)) = false := by
          have := span_stop letter (by decide) t
          unfold pk
          rw [← List.drop_drop, h2]
          exact this
        have hr := run_f l (j : Int) o x3 x4 x5 hl (j + 1)
        rw [h2] at hr
        have hle2 : j + 1 + spanLen letter t ≤ l.length := by
          have := span_le letter t
          have : t.length = l.length - (j + 1) := by rw [← h2, List.length_drop]
          omega
        refine Ev.step (f := fun k => (cinnabarref01_scanner_run.f k (B l) (j : Int) o x3 x4 x5 ((j + 1 : Nat) : Int)).bind fun b => cinnabarref01_scanner_bare.l0 k b.2.1 b.1 o b.2.2.2.1 b.2.2.2.2.1 b.2.2.2.2.2) (fun k => ?_) (Ev.bind (f := fun k b => cinnabarref01_scanner_bare.l0 k b.2.1 b.1 o b.2.2.2.1 b.2.2.2.2.1 b.2.2.2.2.2) hr (ih _ (by omega) hsp hle2))
        rw [bare_step l o x3 x4 x5 j (by omega) k, if_pos hc]
      · have e : nameLen (c :: t) = 0 := nameLen_stop c t (by rw [← hpc]; exact hs) (by rw [← hpc, ← hpd]; exact hc)
        rw [e]
        refine Ev.step (f := fun _ => some (B l, ((j : Nat) : Int), x3, x4, x5)) (fun k => ?_) (Ev.now _)
        rw [bare_step l o x3 x4 x5 j (by omega) k, if_neg hc]
theorem bare_l1 (l : Bs) (o : List S35) (x3 x4 x5 : Int) (hl : l.length ≤ 1000000) : ∀ (t : Bs) (i : Nat), l.drop i = t → Ev (fun k => cinnabarref01_scanner_bare.l1 k (B l) (i : Int) o x3 x4 x5) (B l, ((i + spanLen sign t : Nat) : Int), x3, x4, x5)
  | [], i, h => by
    refine Ev.step (f := fun k => (cinnabarref01_sign.f k ((0 : UInt8).toNat : Int)).bind fun t => if t = true then cinnabarref01_scanner_bare.l1 k (B l) (wrap64 ((i : Int) + 1)) o x3 x4 x5 else some (B l, (i : Int), x3, x4, x5)) (fun k => ?_) (Ev.bind (f := fun k t => if t = true then cinnabarref01_scanner_bare.l1 k (B l) (wrap64 ((i : Int) + 1)) o x3 x4 x5 else some (B l, (i : Int), x3, x4, x5)) (sign_f 0) ?_)
    · simp only [cinnabarref01_scanner_bare.l1]
      rw [at_f, pk_nil h]
      rfl
    · have : sign 0 = false := by decide
      simp only [this, Bool.false_eq_true, if_false]
      exact Ev.now _
  | c :: t, i, h => by
    obtain ⟨hi, _, h2⟩ := drop_at h
    refine Ev.step (f := fun k => (cinnabarref01_sign.f k (c.toNat : Int)).bind fun t => if t = true then cinnabarref01_scanner_bare.l1 k (B l) (wrap64 ((i : Int) + 1)) o x3 x4 x5 else some (B l, (i : Int), x3, x4, x5)) (fun k => ?_) (Ev.bind (f := fun k t => if t = true then cinnabarref01_scanner_bare.l1 k (B l) (wrap64 ((i : Int) + 1)) o x3 x4 x5 else some (B l, (i : Int), x3, x4, x5)) (sign_f c) ?_)
    · simp only [cinnabarref01_scanner_bare.l1]
      rw [at_f, pk_cons h]
      rfl
    · cases hs : sign c with
      | true =>
        have e : i + spanLen sign (c :: t) = (i + 1) + spanLen sign t := by simp [spanLen, hs]; omega
        rw [e, wrap_succ i (by omega)]
        simpa using bare_l1 l o x3 x4 x5 hl t (i + 1) h2
      | false =>
        simp only [Bool.false_eq_true, if_false, spanLen, hs]
        exact Ev.now _
def bareEnd : Bs → Nat
  | [] => 0
  | c :: t => if small c then nameLen (c :: t) else if sign c then 1 + spanLen sign t else 1
theorem bare_f (c : UInt8) (t : Bs) (o : List S35) (x1 x3 x4 x5 : Int) (hl : (c :: t).length ≤ 1000000) :
    Ev (fun k => cinnabarref01_scanner_bare.f k (B (c :: t)) x1 o x3 x4 x5) (B (c :: t), (bareEnd (c :: t) : Int), x3, x4, x5) := by
  have h0 : (c :: t).drop 0 = c :: t := rfl
  have hb : bt (B (c :: t)) 0 = (c.toNat : Int) := bt_cons h0
  have hp : (0 : Int) < ((B (c :: t)).size : Int) := lt_cons h0
  cases hs : small c with
  | true =>
    have hr := run_f (c :: t) x1 o x3 x4 x5 hl 0
    rw [h0, Nat.zero_add] at hr
    have hn : bareEnd (c :: t) = spanLen letter (c :: t) + nameLen ((c :: t).drop (spanLen letter (c :: t))) := by
      show (if small c then nameLen (c :: t) else if sign c then 1 + spanLen sign t else 1) = _
      rw [if_pos hs]
      exact nameLen_span _
    rw [hn]
    have hsp : letter (pk (c :: t) (spanLen letter (c :: t))) = false := span_stop letter (by decide) (c :: t)
    refine Ev.congr (f := fun k => (cinnabarref01_scanner_run.f k (B (c :: t)) x1 o x3 x4 x5 ((0 : Nat) : Int)).bind fun b => cinnabarref01_scanner_bare.l0 k b.2.1 b.1 o b.2.2.2.1 b.2.2.2.2.1 b.2.2.2.2.2) (fun k => ?_) (Ev.bind (f := fun k b => cinnabarref01_scanner_bare.l0 k b.2.1 b.1 o b.2.2.2.1 b.2.2.2.2.1 b.2.2.2.2.2) hr (bare_l0 (c :: t) o x3 x4 x5 hl _ _ (Nat.le_refl _) hsp (span_le letter _)))
    unfold cinnabarref01_scanner_bare.f
    rw [if_pos hp, hb, small_f, hs]
    rfl
  | false =>
    refine Ev.congr (f := fun k => (cinnabarref01_sign.f k (c.toNat : Int)).bind fun t1 => if t1 = true then cinnabarref01_scanner_bare.l1 k (B (c :: t)) 1 o x3 x4 x5 else some (B (c :: t), 1, x3, x4, x5)) (fun k => ?_) (Ev.bind (f := fun k t1 => if t1 = true then cinnabarref01_scanner_bare.l1 k (B (c :: t)) 1 o x3 x4 x5 else some (B (c :: t), 1, x3, x4, x5)) (sign_f c) ?_)
    · unfold cinnabarref01_scanner_bare.f
      rw [if_pos hp, hb, small_f, hs]
      rfl
    · cases hg : sign c with
      | true =>
        simp only [if_true]
        have := bare_l1 (c :: t) o x3 x4 x5 hl t 1 rfl
        simpa [bareEnd, hs, hg] using this
      | false =>
        simpa [bareEnd, hs, hg] using Ev.now _
def plainR : Bs → Bool
  | [] => false
  | c :: t => if (small c || (sign c || (c == 59 || c == 33))) && !((c :: t) == [46]) && !([47, 42] : Bs).isPrefixOf (c :: t) then bareEnd (c :: t) == (c :: t).length else false
theorem split_ne : ∀ l : Bs, ∃ p ps, splitDot l = p :: ps
  | [] => ⟨_, _, rfl⟩
  | c :: t => by
    obtain ⟨p, ps, h⟩ := split_ne t
    by_cases hc : c = 46
    · exact ⟨[], splitDot t, by simp [splitDot, hc]⟩
    · exact ⟨c :: p, ps, by simp [splitDot, hc, h]⟩
def restOk (l : Bs) : Bool := match splitDot l with
  | [] => true
  | p :: ps => p.all letter && ps.all (word small)
theorem partsOk_cons (c : UInt8) (t : Bs) : partsOk (c :: t) = (small c && restOk t) := by
  obtain ⟨p, ps, h⟩ := split_ne t
  by_cases hc : c = 46
  · subst hc
    have : small 46 = false := by decide
    simp [partsOk, splitDot, word, this]
  · unfold partsOk restOk
    simp only [splitDot, hc, if_false, h, List.all_cons, word]
    cases hs : small c with
    | true => simp [small_letter hs]
    | false => simp
theorem restOk_cons (c : UInt8) (t : Bs) : restOk (c :: t) = if c = 46 then partsOk t else letter c && restOk t := by
  obtain ⟨p, ps, h⟩ := split_ne t
  by_cases hc : c = 46
  · subst hc
    simp [restOk, splitDot, partsOk]
  · unfold restOk
    simp [splitDot, hc, h, Bool.and_assoc]
theorem restOk_len : ∀ (n : Nat) (t : Bs), t.length ≤ n → (restOk t = true ↔ nameLen t = t.length)
  | _, [], _ => by simp [restOk, splitDot, nameLen]
  | 0, c :: t, h => by simp at h
  | n + 1, c :: t, h => by
    have hn : t.length ≤ n := by simpa using h
    have hle := nameLen_le t
    rw [restOk_cons, nameLen_cons]
    by_cases hc : c = 46
    · subst hc
      have h46 : letter 46 = false := by decide
      rw [if_pos rfl, h46]
      cases t with
      | nil =>
        have e : partsOk [] = false := by decide
        have e2 : (if (false || ((46 : UInt8) == 46 && small ((([] : Bs)).headD 0))) = true then nameLen [] + 1 else 0) = 0 := by decide
        rw [e, e2]
        simp
      | cons d u =>
        rw [partsOk_cons]
        simp only [List.headD_cons, beq_self_eq_true, Bool.true_and, Bool.false_or]
        have ih := restOk_len n u (by simp at hn; omega)
        cases hs : small d with
        | true =>
          simp only [Bool.true_and, if_true, nameLen_cons d u, small_letter hs, Bool.true_or, List.length_cons]
          rw [ih]
          omega
        | false => simp
    · rw [if_neg hc]
      have ih := restOk_len n t hn
      have e : (c == 46) = false := by simpa using hc
      simp only [e, Bool.false_and, Bool.or_false]
      cases letter c with
      | true =>
        simp only [Bool.true_and, if_true, List.length_cons]
        rw [ih]
        omega
      | false => simp
theorem partsOk_len (c : UInt8) (t : Bs) (h : small c = true) : partsOk (c :: t) = true ↔ nameLen (c :: t) = (c :: t).length := by
  rw [partsOk_cons, h, Bool.true_and, restOk_len _ t (Nat.le_refl _), nameLen_cons, small_letter h]
  simp
theorem plainR_eq (l : Bs) : plainR l = Tk.plain l := by
  cases l with
  | nil => decide
  | cons c t =>
    cases hs : small c with
    | true =>
      have hg := small_not_sign c hs
      have h46 : ¬ c = 46 := by rintro rfl; simp [small] at hs
      have h47 : (47 == c) = false := by rw [beq_eq_false_iff_ne]; rintro rfl; simp [small] at hs
      have h59 : ¬ c = 59 := by rintro rfl; simp [small] at hs
      have h33 : ¬ c = 33 := by rintro rfl; simp [small] at hs
      have hl := partsOk_len c t hs
      have e1 : plainR (c :: t) = (nameLen (c :: t) == (c :: t).length) := by
        simp [plainR, hs, h46, h47, bareEnd, List.isPrefixOf]
      rw [e1]
      unfold Tk.plain
      cases hp : partsOk (c :: t) with
      | true => simpa using hl.1 hp
      | false =>
        have : ¬ nameLen (c :: t) = (c :: t).length := fun h => by rw [hl.2 h] at hp; cases hp
        simp only [Bool.false_eq_true, if_false]
        rw [show (nameLen (c :: t) == (c :: t).length) = false from by simpa using this]
        simp [h46, h59, h33, hg]
    | false =>
      have hp : partsOk (c :: t) = false := by rw [partsOk_cons, hs]; rfl
      unfold Tk.plain
      rw [hp]
      simp only [Bool.false_eq_true, if_false]
      rw [if_neg (by simp)]
      cases hg : sign c with
      | true =>
        have h59 : ¬ c = 59 := by rintro rfl; exact absurd hg (by decide)
        have h33 : ¬ c = 33 := by rintro rfl; exact absurd hg (by decide)
        by_cases he : (c :: t) = [46]
        · rw [if_pos he]
          simp [plainR, he]
        · rw [if_neg he, if_neg (by simp [h59]), if_neg (by simp [h33])]
          have ha := span_all sign t
          have hb : (1 + spanLen sign t == (c :: t).length) = t.all sign := by
            rw [Bool.eq_iff_iff, ← ha]
            simp
            omega
          unfold plainR
          simp only [hs, hg, Bool.false_or, Bool.true_or, Bool.true_and, List.all_cons, bareEnd, Bool.false_eq_true, if_false, if_true]
          rw [hb, show ((c :: t) == [46]) = false from by simpa using he]
          cases ([47, 42] : Bs).isPrefixOf (c :: t) <;> simp
      | false =>
        have h46 : ¬ c = 46 := by rintro rfl; exact absurd hg (by decide)
        have h47 : (47 == c) = false := by rw [beq_eq_false_iff_ne]; rintro rfl; exact absurd hg (by decide)
        rw [if_neg (by simp [h46])]
        by_cases h1 : c = 59
        · subst h1
          cases t <;> simp [plainR, hs, hg, bareEnd, List.isPrefixOf]
        · by_cases h2 : c = 33
          · subst h2
            cases t <;> simp [plainR, hs, hg, bareEnd, List.isPrefixOf]
          · simp [plainR, hs, hg, h1, h2]
end Go.Proofs.YtgeonilideojnaaGreatDoor.Rf
end
section
namespace Go.Proofs.YtgeonilideojnaaGreatDoor.Rf
open Go Go.RowKit Tk Go.Proofs.YtgeonilideojnaaGreatDoor.Pr Go.Proofs.YtgeonilideojnaaGreatDoorW.PrintWords
set_option linter.unusedVariables false
set_option linter.unusedSimpArgs false
section
set_option maxHeartbeats 1000000
set_option maxRecDepth 100000
theorem plain_walk (s : ByteArray) (c : UInt8) (b p r : Bool) (n : Nat) (w : World) (h0 : s.toList.isEmpty = false) (h0' : (s.toList == []) = false) (hc : ∀ h : 0 < s.size, s[0]'h = c) (h1 : 0 < s.size) (hs : s.size ≤ 65536) (h46 : (s.toList == [46]) = b) (hpre : (decide (1 < s.size) && (s.extract 0 2).toList == [47, 42]) = p)
    (hk : Ev (fun k => cinnabarref01_scanner_bare.f k s 0 [] 0 0 0) (s, (n : Int), 0, 0, 0)) (hr : (if (small c || (sign c || (c == 59 || c == 33))) && !b && !p then n == s.size else false) = r) :
    Calls Tryz.prog 37 #[.string s] w fun e w' => e = .returned (.bool r) ∧ Below w.heap.size w w' := by
  obtain ⟨k, hk⟩ := hk.rounds
  obtain ⟨k1, hk1⟩ := (sign_f c).rounds
  have hk := hide hk
  have hk1 := hide hk1
  have hr := hide hr
  have hb59 : ((c.toNat : Int) == 59) = (c == 59) := by rw [Bool.eq_iff_iff]; simp [← UInt8.toNat_inj]; omega
  have hb33 : ((c.toNat : Int) == 33) = (c == 33) := by rw [Bool.eq_iff_iff]; simp [← UInt8.toNat_inj]; omega
  have hI := IsS49.new w w none 0 s 0 [] 0 0 0 (Below.refl _ _) ⟨rfl, by simp, fun h => absurd h (by simp)⟩
  have hbl := hide ((Below.refl w.heap.size w).alloc (Nat.le_refl _) (.cells #[.string s, .int .i64 0, .slice none 0 0, .int .i64 0, .int .i64 0, .int .i64 0] 49))
  have hI := hide hI
  go_enter Tryz.func37, Tryz.ntmps37
  go_wp2_with (first | (go_at_call 67; refine (cinnabarref01_small.calls _ _ _ (small_f c)).mono ?_; rintro e w1 ⟨rfl, ⟨n1, rfl⟩⟩) | (go_at_call 73; refine (cinnabarref01_sign.calls _ _ _ _ hk1.out).mono ?_; rintro e w2 ⟨rfl, ⟨n2, rfl⟩⟩) | (go_at_call 91; refine (cinnabarref01_scanner_bare.calls k w.heap.size s 0 [] 0 0 0 s n 0 0 0 w _ (by first | exact hI.out.drewN _ | exact hI.out) (by repeat (first | exact hbl.out | apply pw_below_drewN)) hk.out).mono ?_; rintro e w3 ⟨rfl, hI3, hb3, hk3⟩; obtain ⟨A2, c2, hg3, -, -⟩ := hI3; have d1 := cellS49_1 hg3))
  all_goals
    go_ret
    refine ⟨ret_bool ?_, ?_⟩
    · have hr1 := hr.out
      clear hr hk hk1 hI hbl
      have e1 : ((n : Int) == (s.size : Int)) = (n == s.size) := by rw [Bool.eq_iff_iff]; simp; omega
      rw [← hr1, ← hpre]
      first
        | (simp [*]; done)
        | (rw [show decide (1 < s.size) = false from by simp; omega]; simp [*]; done)
        | (rw [show decide (1 < s.size) = true from by simp; omega]; simp [*]; done)
    · first
        | exact hb3
        | (repeat (first | exact hbl.out | apply pw_below_drewN))
theorem extract_two (l : Bs) : ((B l).extract 0 2).toList = l.take 2 := by
  rw [extract_B, toList_B]
  simp [cut]
theorem prefix_two : ∀ l : Bs, (decide (1 < l.length) && (l.take 2 == [47, 42])) = ([47, 42] : Bs).isPrefixOf l
  | [] => rfl
  | [a] => by simp [List.isPrefixOf]
  | a :: b :: t => by
    rw [Bool.eq_iff_iff]
    simp only [List.isPrefixOf, Bool.and_eq_true, decide_eq_true_eq, beq_iff_eq, List.take, List.length_cons, List.cons.injEq, and_true]
    constructor
    · rintro ⟨_, rfl, rfl⟩
      exact ⟨rfl, rfl⟩
    · rintro ⟨rfl, rfl⟩
      exact ⟨by omega, rfl, rfl⟩
theorem rplain_calls (l : Bs) (w : World) (hl : l.length ≤ 65536) : Calls Tryz.prog 37 #[.string (B l)] w fun e w' => e = .returned (.bool (plainR l)) ∧ Below w.heap.size w w' := by
  cases l with
  | nil =>
    have ht := toList_B []
    have hz := size_B []
    have hb : plainR [] = false := rfl
    rw [hb]
    have hbl := hide ((Below.refl w.heap.size w).alloc (Nat.le_refl _) (.cells #[.string (B []), .int .i64 0, .slice none 0 0, .int .i64 0, .int .i64 0, .int .i64 0] 49))
    go_enter Tryz.func37, Tryz.ntmps37
    go_wp2
    go_ret
    exact ⟨rfl, hbl.out⟩
  | cons c t =>
    have hne : (c :: t).isEmpty = false := rfl
    have e46 : ((c :: t) == [46]) = ((c :: t) == [46]) := rfl
    refine plain_walk (B (c :: t)) c ((c :: t) == [46]) (([47, 42] : Bs).isPrefixOf (c :: t)) (plainR (c :: t)) (bareEnd (c :: t)) w (by rw [toList_B]; rfl) (by rw [toList_B]; rfl) (B_get (l := c :: t) (i := 0) rfl) (by rw [size_B]; simp) (by rw [size_B]; exact hl) (by rw [toList_B]) (by rw [extract_two, size_B]; exact prefix_two _) ?_ ?_
    · exact bare_f c t [] 0 0 0 0 (by omega)
    · rw [size_B]
      rfl
end
end Go.Proofs.YtgeonilideojnaaGreatDoor.Rf
namespace Go.Proofs.YtgeonilideojnaaGreatDoor.TkRef
open Go Go.RowKit Tk
def plain.f (s : ByteArray) : Option Bool := if s.size ≤ 65536 then some (Tk.plain s.data.toList) else none
theorem plain.calls (s : ByteArray) (r : Bool) (w : World) (h : plain.f s = some r) :
    Calls Tryz.prog 37 #[.string s] w fun e w' => e = .returned (.bool r) ∧ Below w.heap.size w w' := by
  unfold plain.f at h
  split at h
  · rename_i hc
    injection h with h
    subst h
    have := Rf.rplain_calls s.data.toList w hc
    rw [B_of, Rf.plainR_eq] at this
    exact this
  · cases h
end Go.Proofs.YtgeonilideojnaaGreatDoor.TkRef
end
section
namespace Go.Proofs.YtgeonilideojnaaGreatDoor.Pr
open Go.RowKit Go.Proofs.YtgeonilideojnaaGreatDoorW.PrintWords Go.Proofs.YtgeonilideojnaaGreatDoorW.PrintLast Go.Proofs.YtgeonilideojnaaGreatDoorW.PrintMore
attribute [local go_sem] max2_int min2_int max_two min_two max_three min_three max_four min_four
set_option linter.unusedVariables false
set_option linter.unusedSimpArgs false
mutual
def cinnabarref01_long.j0 : Nat → ByteArray → Bool → Option (Bool)
  | 0, _, _ => none
  | k + 1, x0, x13 => if x13 = true then (some (decide ((x0.size : Int) > 40))) else (cinnabarref01_long.l0 k x0 0 0)
def cinnabarref01_long.l0 : Nat → ByteArray → Int → Int → Option (Bool)
  | 0, _, _, _ => none
  | k + 1, x0, x3, x4 => if x4 < (x0.size : Int) then (if 0 ≤ x4 then (if (bt x0 x4) = 46 then (if 0 > 40 then (some true) else (cinnabarref01_long.l0 k x0 0 (wrap64 (x4 + 1)))) else (if (wrap64 (x3 + 1)) > 40 then (some true) else (cinnabarref01_long.l0 k x0 (wrap64 (x3 + 1)) (wrap64 (x4 + 1))))) else (none)) else (some false)
end
def cinnabarref01_long.f (k : Nat) (a0 : ByteArray) : Option (Bool) := (TkRef.plain.f a0).bind fun t141 => (if t141 = true then (if 0 < (a0.size : Int) then ((cinnabarref01_small.f (bt a0 0)).bind fun t142 => (cinnabarref01_long.j0 k a0 (!t142))) else (none)) else (cinnabarref01_long.j0 k a0 true))
theorem cinnabarref01_long.mono_l : ∀ k, (∀ y0 y1, LeO (cinnabarref01_long.j0 k y0 y1) (cinnabarref01_long.j0 (k + 1) y0 y1)) ∧ (∀ y0 y1 y2, LeO (cinnabarref01_long.l0 k y0 y1 y2) (cinnabarref01_long.l0 (k + 1) y0 y1 y2))
  | 0 => ⟨fun _ _ r h => by simp [cinnabarref01_long.j0] at h, fun _ _ _ r h => by simp [cinnabarref01_long.l0] at h⟩
  | k + 1 => by
    obtain ⟨ih0, ih1⟩ := cinnabarref01_long.mono_l k
    refine ⟨?_, ?_⟩
    · intro y0 y1
      unfold cinnabarref01_long.j0
      repeat' first
      | (with_reducible exact ih0 _ _)
      | (with_reducible exact ih1 _ _ _)
      | (with_reducible exact LeO.refl _)
      | (with_reducible exact LeO.none _)
      | (with_reducible refine LeO.ite ?_ ?_)
      | (with_reducible refine LeO.bind ?_ (fun _ => ?_))
      | exact ih0 _ _
      | exact ih1 _ _ _
      | exact LeO.none _
      | refine LeO.ite ?_ ?_
      | refine LeO.bind ?_ (fun _ => ?_)
    · intro y0 y1 y2
      unfold cinnabarref01_long.l0
      repeat' first
      | (with_reducible exact ih0 _ _)
      | (with_reducible exact ih1 _ _ _)
      | (with_reducible exact LeO.refl _)
      | (with_reducible exact LeO.none _)
      | (with_reducible refine LeO.ite ?_ ?_)
      | (with_reducible refine LeO.bind ?_ (fun _ => ?_))
      | exact ih0 _ _
      | exact ih1 _ _ _
      | exact LeO.none _
      | refine LeO.ite ?_ ?_
      | refine LeO.bind ?_ (fun _ => ?_)
theorem cinnabarref01_long.mono : ∀ a0 k, LeO (cinnabarref01_long.f k a0) (cinnabarref01_long.f (k + 1) a0) := by
  intro a0 k
  obtain ⟨ih0, ih1⟩ := cinnabarref01_long.mono_l k
  unfold cinnabarref01_long.f
  repeat' first
      | (with_reducible exact ih0 _ _)
      | (with_reducible exact ih1 _ _ _)
      | (with_reducible exact LeO.refl _)
      | (with_reducible exact LeO.none _)
      | (with_reducible refine LeO.ite ?_ ?_)
      | (with_reducible refine LeO.bind ?_ (fun _ => ?_))
      | exact ih0 _ _
      | exact ih1 _ _ _
      | exact LeO.none _
      | refine LeO.ite ?_ ?_
      | refine LeO.bind ?_ (fun _ => ?_)
set_option maxHeartbeats 8000000 in
set_option maxRecDepth 100000 in
theorem cinnabarref01_long.calls (k : Nat) (a0 : ByteArray) (r : Bool) (w : World) (h : cinnabarref01_long.f k a0 = some r) :
    Calls Tryz.prog 42 #[.string a0] w fun e w' => e = .returned (.bool r) ∧ Below w.heap.size w w' := by
  have HB := Aside0.mk (Below.refl w.heap.size w)
  have H : ((TkRef.plain.f a0).bind fun t141 => (if t141 = true then (if 0 < (a0.size : Int) then ((cinnabarref01_small.f (bt a0 0)).bind fun t142 => (cinnabarref01_long.j0 k a0 (!t142))) else (none)) else (cinnabarref01_long.j0 k a0 true))) = some r := h
  clear h
  have HC2 := Aside0.mk H
  clear H
  go_enter Tryz.func42, Tryz.ntmps42
  go_upto_region 1 with (fail)
  go_cut [13] (fun v13 wc => ∃ (kq : Nat) (x13_1 : Bool), v13 = .bool x13_1 ∧ Aside0 (cinnabarref01_long.j0 kq a0 x13_1 = some r) ∧ Aside0 (kq ≤ k) ∧ Aside0 (Below w.heap.size w wc))
  case first =>
    have H := HC2.out
    clear HC2
    replace H := Option.bind_eq_some_iff.mp H
    obtain ⟨t141, A30, H⟩ := H
    replace H : (if t141 = true then (if 0 < (a0.size : Int) then ((cinnabarref01_small.f (bt a0 0)).bind fun t142 => (cinnabarref01_long.j0 k a0 (!t142))) else (none)) else (cinnabarref01_long.j0 k a0 true)) = some r := H
    have A3 := Aside0.mk A30
    clear A30
    by_cases c4 : t141 = true
    · subst c4
      have H1 : (if 0 < (a0.size : Int) then ((cinnabarref01_small.f (bt a0 0)).bind fun t142 => (cinnabarref01_long.j0 k a0 (!t142))) else (none)) = some r := by rw [if_pos rfl] at H; exact H
      clear H
      have H := H1
      clear H1
      by_cases c5 : 0 < (a0.size : Int)
      · rw [if_pos c5] at H
        have c5b0 : decide (0 < (a0.size : Int)) = true := decide_eq_true c5
        have c5b1 : decide (0 < a0.size) = true := decide_eq_true (by omega)
        clear c5
        (first | rw [c5b0] | (simp only [i64_w, i32_w]; rw [c5b0]) | skip)
        replace H := Option.bind_eq_some_iff.mp H
        obtain ⟨t142, A70, H⟩ := H
        replace H : (cinnabarref01_long.j0 k a0 (!t142)) = some r := H
        have A7 := Aside0.mk A70
        clear A70
        have H' := Aside0.mk H
        clear H
        go_wp2_with (first | ((with_reducible refine gate_callee (f := 37) rfl ?_); refine goesL_ (some 6) rfl rfl Tryz.func37 (by kernel_rfl) rfl #[.string a0] rfl (by (try simp only [List.map_toArray, List.map_cons, List.map_nil]); first | done | rfl | (simp only [List.length_drop, List.length_take]; rfl)) ?_; (with_reducible refine (TkRef.plain.calls a0 true _ A3.out).mono ?_); rintro e w8 ⟨rfl, hb⟩; refine ⟨_, rfl, ?_⟩; have n0_ := Aside0.mk (below_step (by repeat (first | (with_reducible first | exact HB.out | apply below_alloc | apply pw_below_drewN | apply below_drew1) | exact HB.out)) hb); clear HB; have HB := n0_; clear n0_; (try clear hb); (try clear hb2); (try clear hk); (try clear hi); have p6 : 0 ≤ (0 : Int) := (by omega); have q6 : 0 < a0.size := (by have : (0 : Int) < (a0.size : Int) := of_decide_eq_true (by first | (with_reducible assumption) | assumption); omega); have hx6 : ∀ h : 0 < a0.size, ((a0[0]'h).toNat : Int) = bt a0 0 := bt_at a0 0; clear p6; have qi6 : (0 < (a0.size : Int)) = True := eq_true (of_decide_eq_true (by first | (with_reducible assumption) | assumption)); replace q6 := eq_true q6) | (go_at_call 67; (with_reducible refine (cinnabarref01_small.calls (bt a0 0) t142 _ A7.out).mono ?_); rintro e w' ⟨rfl, ⟨nd, rfl⟩⟩))
        go_meet
        case rel => exact ⟨_, (!t142), (by first | rfl | (simp; done) | (simp [*]; done) | (simp [show ∀ l : List UInt8, (l != []) = !l.isEmpty from fun l => by cases l <;> rfl]; done)), H', ⟨by first | omega | exact Nat.le_refl _⟩, ⟨by repeat (first | (with_reducible first | exact HB.out | apply below_alloc | apply pw_below_drewN | apply below_drew1) | exact HB.out)⟩⟩
      · rw [if_neg c5] at H
        exact absurd H (by simp)
    · replace c4 := Bool.eq_false_iff.mpr c4
      subst c4
      have H1 : (cinnabarref01_long.j0 k a0 true) = some r := by rw [if_neg (show ¬ (false = true) by decide)] at H; exact H
      clear H
      have H := H1
      clear H1
      have H' := Aside0.mk H
      clear H
      go_wp2_with (first | ((with_reducible refine gate_callee (f := 37) rfl ?_); refine goesL_ (some 6) rfl rfl Tryz.func37 (by kernel_rfl) rfl #[.string a0] rfl (by (try simp only [List.map_toArray, List.map_cons, List.map_nil]); first | done | rfl | (simp only [List.length_drop, List.length_take]; rfl)) ?_; (with_reducible refine (TkRef.plain.calls a0 false _ A3.out).mono ?_); rintro e w9 ⟨rfl, hb⟩; refine ⟨_, rfl, ?_⟩; have n0_ := Aside0.mk (below_step (by repeat (first | (with_reducible first | exact HB.out | apply below_alloc | apply pw_below_drewN | apply below_drew1) | exact HB.out)) hb); clear HB; have HB := n0_; clear n0_; (try clear hb); (try clear hb2); (try clear hk); (try clear hi)))
      go_meet
      case rel => exact ⟨_, (true), (by first | rfl | (simp; done) | (simp [*]; done) | (simp [show ∀ l : List UInt8, (l != []) = !l.isEmpty from fun l => by cases l <;> rfl]; done)), H', ⟨by first | omega | exact Nat.le_refl _⟩, ⟨by repeat (first | (with_reducible first | exact HB.out | apply below_alloc | apply pw_below_drewN | apply below_drew1) | exact HB.out)⟩⟩
  case rest =>
    clear HC2
    try clear p2
    try clear c3
    try clear c4
    try clear c5
    try clear c5b0
    try clear c5b1
    try clear p6
    try clear q6
    try clear hx6
    try clear qi6
    try clear p6
    try clear q6
    obtain ⟨kq, x13_1, rfl, HA, HJ1, HB⟩ := hcut
    cases kq with
    | zero => exact absurd HA.out (by simp [cinnabarref01_long.j0])
    | succ kj1 =>
      have H := HA.out
      clear HA
      simp only [cinnabarref01_long.j0] at H
      by_cases c10 : x13_1 = true
      · subst c10
        have H1 : (some (decide ((a0.size : Int) > 40))) = some r := by rw [if_pos rfl] at H; exact H
        clear H
        have H := H1
        clear H1
        obtain rfl := Option.some.inj H
        go_wp2
        go_ret
        exact ⟨by first | rfl | (simp [errW_none, errW_some] <;> rfl) | (simp [*, errW_none, errW_some] <;> rfl), by repeat (first | (with_reducible first | exact HB.out | apply below_alloc | apply pw_below_drewN | apply below_drew1) | exact HB.out)⟩
      · replace c10 := Bool.eq_false_iff.mpr c10
        subst c10
        have H1 : (cinnabarref01_long.l0 kj1 a0 0 0) = some r := by rw [if_neg (show ¬ (false = true) by decide)] at H; exact H
        clear H
        have H := H1
        clear H1
        have H' := Aside0.mk H
        clear H
        go_wp2
        (try simp only [Go.Act.put, List.setIfInBounds_toArray, List.set_cons_succ, List.set_cons_zero])
        go_loopg [3, 4] kj1 (fun kq v3 v4 w' => ∃ (x3_2 : Int) (x4_2 : Int), v3 = .int .i64 x3_2 ∧ v4 = .int .i64 x4_2 ∧ Aside0 (cinnabarref01_long.l0 kq a0 x3_2 x4_2 = some r) ∧ Aside0 (kq ≤ kj1) ∧ Aside0 (Below w.heap.size w w'))
        case atStart => exact ⟨(0), (0), (by first | rfl | (simp; done) | (simp [*]; done) | (simp [show ∀ l : List UInt8, (l != []) = !l.isEmpty from fun l => by cases l <;> rfl]; done)), (by first | rfl | (simp; done) | (simp [*]; done) | (simp [show ∀ l : List UInt8, (l != []) = !l.isEmpty from fun l => by cases l <;> rfl]; done)), H', ⟨Nat.le_refl _⟩, ⟨by repeat (first | (with_reducible first | exact HB.out | apply below_alloc | apply pw_below_drewN | apply below_drew1) | exact HB.out)⟩⟩
        case round =>
          clear H'
          try clear c1
          try clear p2
          try clear c3
          try clear c4
          try clear c5
          try clear c5b0
          try clear c5b1
          try clear p6
          try clear q6
          try clear hx6
          try clear qi6
          try clear c10
          try clear p2
          try clear p6
          try clear q6
          obtain ⟨x3_2, x4_2, rfl, rfl, HA, HK2, HB⟩ := hrel
          cases gk with
          | zero => exact absurd HA.out (by simp [cinnabarref01_long.l0])
          | succ k2 =>
            have H := HA.out
            clear HA
            simp only [cinnabarref01_long.l0] at H
            by_cases c11 : x4_2 < (a0.size : Int)
            · rw [if_pos c11] at H
              have c11b0 : decide (x4_2 < (a0.size : Int)) = true := decide_eq_true c11
              clear c11
              by_cases c12 : 0 ≤ x4_2
              · rw [if_pos c12] at H
                have c12b0 : decide (0 ≤ x4_2) = true := decide_eq_true c12
                clear c12
                by_cases c14 : (bt a0 x4_2) = 46
                · rw [if_pos c14] at H
                  have c14b0 : ((bt a0 x4_2) == 46) = true := beq_iff_eq.mpr c14
                  have c14b1 : ((bt a0 x4_2) != 46) = false := bne_eq_false_iff_eq.mpr c14
                  clear c14
                  by_cases c15 : 0 > 40
                  · exact absurd c15 (by decide)
                  · rw [if_neg c15] at H
                    have c15b0 : decide (40 < 0) = false := decide_eq_false c15
                    clear c15
                    have H' := Aside0.mk H
                    clear H
                    have p13 : 0 ≤ (x4_2 : Int) := of_decide_eq_true (by first | (with_reducible assumption) | assumption)
                    have q13 : x4_2 < (a0.size : Int) := of_decide_eq_true (by first | (with_reducible assumption) | assumption)
                    have hx13 := bt_at a0 x4_2
                    replace p13 := eq_true p13
                    replace q13 := eq_true q13
                    go_wp2
                    go_roundg k2
                    case measure => have := HJ1.out; have := HK2.out; omega
                    case rel => exact ⟨(0), (wrap64 (x4_2 + 1)), (by first | rfl | (simp; done) | (simp [*]; done) | (simp [show ∀ l : List UInt8, (l != []) = !l.isEmpty from fun l => by cases l <;> rfl]; done)), (by first | rfl | (simp; done) | (simp [*]; done) | (simp [show ∀ l : List UInt8, (l != []) = !l.isEmpty from fun l => by cases l <;> rfl]; done)), H', ⟨by have := HJ1.out; have := HK2.out; omega⟩, ⟨by repeat (first | (with_reducible first | exact HB.out | apply below_alloc | apply pw_below_drewN | apply below_drew1) | exact HB.out)⟩⟩
                · rw [if_neg c14] at H
                  have c14b0 : ((bt a0 x4_2) == 46) = false := beq_eq_false_iff_ne.mpr c14
                  have c14b1 : ((bt a0 x4_2) != 46) = true := bne_iff_ne.mpr c14
                  by_cases c16 : (wrap64 (x3_2 + 1)) > 40
                  · rw [if_pos c16] at H
                    have c16b0 : decide (40 < (wrap64 (x3_2 + 1))) = true := decide_eq_true c16
                    clear c16
                    obtain rfl := Option.some.inj H
                    have p13 : 0 ≤ (x4_2 : Int) := of_decide_eq_true (by first | (with_reducible assumption) | assumption)
                    have q13 : x4_2 < (a0.size : Int) := of_decide_eq_true (by first | (with_reducible assumption) | assumption)
                    have hx13 := bt_at a0 x4_2
                    replace p13 := eq_true p13
                    replace q13 := eq_true q13
                    go_wp2
                    go_ret
                    exact ⟨by first | rfl | (simp [errW_none, errW_some] <;> rfl) | (simp [*, errW_none, errW_some] <;> rfl), by repeat (first | (with_reducible first | exact HB.out | apply below_alloc | apply pw_below_drewN | apply below_drew1) | exact HB.out)⟩
                  · rw [if_neg c16] at H
                    have c16b0 : decide (40 < (wrap64 (x3_2 + 1))) = false := decide_eq_false c16
                    clear c16
                    have H' := Aside0.mk H
                    clear H
                    have p13 : 0 ≤ (x4_2 : Int) := of_decide_eq_true (by first | (with_reducible assumption) | assumption)
                    have q13 : x4_2 < (a0.size : Int) := of_decide_eq_true (by first | (with_reducible assumption) | assumption)
                    have hx13 := bt_at a0 x4_2
                    replace p13 := eq_true p13
                    replace q13 := eq_true q13
                    go_wp2
                    go_roundg k2
                    case measure => have := HJ1.out; have := HK2.out; omega
                    case rel => exact ⟨(wrap64 (x3_2 + 1)), (wrap64 (x4_2 + 1)), (by first | rfl | (simp; done) | (simp [*]; done) | (simp [show ∀ l : List UInt8, (l != []) = !l.isEmpty from fun l => by cases l <;> rfl]; done)), (by first | rfl | (simp; done) | (simp [*]; done) | (simp [show ∀ l : List UInt8, (l != []) = !l.isEmpty from fun l => by cases l <;> rfl]; done)), H', ⟨by have := HJ1.out; have := HK2.out; omega⟩, ⟨by repeat (first | (with_reducible first | exact HB.out | apply below_alloc | apply pw_below_drewN | apply below_drew1) | exact HB.out)⟩⟩
              · rw [if_neg c12] at H
                exact absurd H (by simp)
            · rw [if_neg c11] at H
              have c11b0 : decide (x4_2 < (a0.size : Int)) = false := decide_eq_false c11
              clear c11
              obtain rfl := Option.some.inj H
              go_wp2
              go_ret
              exact ⟨by first | rfl | (simp [errW_none, errW_some] <;> rfl) | (simp [*, errW_none, errW_some] <;> rfl), by repeat (first | (with_reducible first | exact HB.out | apply below_alloc | apply pw_below_drewN | apply below_drew1) | exact HB.out)⟩
end Go.Proofs.YtgeonilideojnaaGreatDoor.Pr
end
