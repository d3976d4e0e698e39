/- A part of a proof over the package's statements: contracts of functions and plain facts, merged by a program of this session's. -/
import Derived.Test.YtgeonilideojnaaGreatDoorRG1x1
import Derived.Test.YtgeonilideojnaaGreatDoorRG1x2
import Derived.Test.YtgeonilideojnaaGreatDoorRG1x3
import Derived.Test.YtgeonilideojnaaGreatDoorRG1x4
import Derived.Test.YtgeonilideojnaaGreatDoorRG1x5
import Derived.Test.YtgeonilideojnaaGreatDoorRG1x6
import Derived.Test.YtgeonilideojnaaGreatDoorRG1x7
import Derived.Test.YtgeonilideojnaaGreatDoorRG1x8
import Derived.Test.YtgeonilideojnaaGreatDoorRG1x9
import Derived.Test.YtgeonilideojnaaGreatDoorRG1x10
section
namespace Go.Proofs.YtgeonilideojnaaGreatDoor.Bk
open Tk
set_option linter.unusedVariables false
set_option linter.unusedSimpArgs false
def pieceE (marks : Bs) (c : UInt8) : Bs := if c = 10 && marks.contains 110 then [92, 110] else if c = 9 && marks.contains 110 then [92, 116] else if c ≠ 110 && marks.contains c then [92, c] else [c]
theorem escapedS_cons (marks : Bs) (c : UInt8) (t : Bs) : escapedS marks (c :: t) = pieceE marks c ++ escapedS marks t := by
  conv => lhs; unfold escapedS
  rfl
end Go.Proofs.YtgeonilideojnaaGreatDoor.Bk
end
section
namespace Go.Proofs.YtgeonilideojnaaGreatDoor.Pr
open Go.RowKit Go.Proofs.YtgeonilideojnaaGreatDoorW.PrintWords Go.Proofs.YtgeonilideojnaaGreatDoorW.PrintLast Go.Proofs.YtgeonilideojnaaGreatDoorW.PrintMore
attribute [local go_sem] max2_int min2_int max_two min_two max_three min_three max_four min_four
set_option linter.unusedVariables false
set_option linter.unusedSimpArgs false
end Go.Proofs.YtgeonilideojnaaGreatDoor.Pr
end
section
namespace Go.Proofs.YtgeonilideojnaaGreatDoor.Lw
open Go Go.RowKit Tk Go.Proofs.YtgeonilideojnaaGreatDoor.Pr Go.Proofs.YtgeonilideojnaaGreatDoorW.PrintWords
set_option linter.unusedVariables false
set_option linter.unusedSimpArgs false
def see (x : STok) : Int × Bs := (x.f0, x.f1.data.toList)
theorem same_loop (xs ys : List STok) (hb : xs.length ≤ 100000) (h : xs.map see = ys.map see) : ∀ (d i : Nat), xs.length - i = d → i ≤ xs.length → Ev (fun k => cinnabarlaw01_Same.l0 k xs ys false (i : Int)) true := by
  have hl : xs.length = ys.length := by simpa using congrArg List.length h
  intro d
  induction d with
  | zero =>
    intro i hd hi
    refine Ev.step (f := fun k => some true) (fun k => ?_) (Ev.now _)
    simp only [cinnabarlaw01_Same.l0]
    rw [if_neg (by omega)]
  | succ d ih =>
    intro i hd hi
    have hlt : i < xs.length := by omega
    have hlt2 : i < ys.length := by omega
    have w := hide (wrap_nat i (by omega))
    have h1 : rd_T35 xs (i : Int) = xs[i] := by unfold rd_T35; simp [List.getElem?_eq_getElem hlt]
    have h2 : rd_T35 ys (i : Int) = ys[i] := by unfold rd_T35; simp [List.getElem?_eq_getElem hlt2]
    have he : see xs[i] = see ys[i] := by
      have : (xs.map see)[i]? = (ys.map see)[i]? := by rw [h]
      simpa [List.getElem?_eq_getElem hlt, List.getElem?_eq_getElem hlt2] using this
    injection he with e0 e1
    refine Ev.step (f := fun k => cinnabarlaw01_Same.l0 k xs ys false ((i + 1 : Nat) : Int)) (fun k => ?_) (ih (i + 1) (by omega) (by omega))
    simp only [cinnabarlaw01_Same.l0, h1, h2, w.out]
    rw [if_pos (by omega), if_pos (by omega), if_pos (by omega), if_pos e0, if_pos (by rw [toList_data, toList_data, e1]), if_neg (by decide)]
theorem same_f {xs ys : List STok} (hb : xs.length ≤ 100000) (h : xs.map see = ys.map see) : Ev (fun k => cinnabarlaw01_Same.f k xs ys false) true := by
  have hl : xs.length = ys.length := by simpa using congrArg List.length h
  refine Ev.congr (f := fun k => cinnabarlaw01_Same.l0 k xs ys false ((0 : Nat) : Int)) (fun k => ?_) (same_loop xs ys hb h _ 0 rfl (Nat.zero_le _))
  unfold cinnabarlaw01_Same.f
  rw [if_pos (by omega)]
  rfl
end Go.Proofs.YtgeonilideojnaaGreatDoor.Lw
end
section
namespace Go.Proofs.YtgeonilideojnaaGreatDoor.Gp
open Tk
set_option linter.unusedVariables false
set_option linter.unusedSimpArgs false
def Gap0 (w : Bs) : Prop := ∃ b v, w = b :: v ∧ (b = 32 ∨ b = 10)
theorem gap_facts {b : UInt8} (h : b = 32 ∨ b = 10) : letter b = false ∧ digit b = false ∧ sign b = false ∧ b ≠ 39 ∧ b ≠ 46 ∧ b ≠ 58 ∧ b ≠ 42 ∧ capital b = false ∧ small b = false ∧ b ≠ 47 ∧ Tk.blank b = true := by
  rcases h with rfl | rfl <;> decide
theorem pre_false {c : UInt8} {s u w : Bs} (hw : Gap0 w) (a b : UInt8) (hb : b = 42 ∨ b = 47) (h : ([a, b] : Bs).isPrefixOf (c :: (s ++ u)) = false) : ([a, b] : Bs).isPrefixOf (c :: (s ++ w)) = false := by
  match s with
  | [] =>
    obtain ⟨x, v, rfl, hx⟩ := hw
    have := gap_facts hx
    simp only [List.nil_append, List.isPrefixOf, Bool.and_true, Bool.and_eq_false_imp]
    intro _
    rcases hb with rfl | rfl
    · simpa using fun e => this.2.2.2.2.2.2.1 e.symm
    · simpa using fun e => this.2.2.2.2.2.2.2.2.2.1 e.symm
  | d :: s' => simpa [List.isPrefixOf] using h
theorem pre_true {c : UInt8} {s u : Bs} (a b : UInt8) (h : ([a, b] : Bs).isPrefixOf (c :: (s ++ u)) = true) : c = a ∧ ((s = [] ∧ ∃ u', u = b :: u') ∨ ∃ s', s = b :: s') := by
  match s with
  | [] =>
    match u with
    | [] => simp [List.isPrefixOf] at h
    | d :: u' =>
      simp [List.isPrefixOf] at h
      exact ⟨h.1.symm, .inl ⟨rfl, u', by rw [h.2]⟩⟩
  | d :: s' =>
    simp [List.isPrefixOf] at h
    exact ⟨h.1.symm, .inr ⟨s', by rw [h.2]⟩⟩
theorem skip0_f (f i : Nat) (s : Bs) : skipR 0 f i s = skipR 0 0 i s := by
  match s with
  | [] => simp [skipR]
  | [c] => simp [skipR]
  | c :: d :: t => rw [skipR, skipR]; simp
theorem skip_pre {w : Bs} (hw : Gap0 w) {u : Bs} (hu : u ≠ []) : ∀ (n : Nat) (s : Bs) (f i p : Nat) (a : Unit), s.length ≤ n →
    (skipR 0 f i (s ++ u) = .ok a p → p ≤ i + s.length → (p < i + s.length → skipR 0 f i (s ++ w) = .ok () p) ∧ (p = i + s.length → skipR 0 f i (s ++ w) = skipR 0 0 p w)) ∧
    (skipR 1 f i (s ++ u) = .ok a p → p ≤ i + s.length → (p < i + s.length → skipR 1 f i (s ++ w) = .ok () p) ∧ (p = i + s.length → skipR 1 f i (s ++ w) = skipR 0 0 p w)) ∧
    (skipR 2 f i (s ++ u) = .ok a p → p ≤ i + s.length → (p < i + s.length → skipR 2 f i (s ++ w) = .ok () p) ∧ (p = i + s.length → skipR 2 f i (s ++ w) = skipR 0 0 p w)) := by
  intro n
  induction n with
  | zero =>
    intro s f i p a hn
    obtain rfl : s = [] := List.eq_nil_of_length_eq_zero (by omega)
    simp only [List.nil_append, List.length_nil, Nat.add_zero]
    refine ⟨fun h hp => ⟨fun h2 => ?_, fun h2 => by rw [skip0_f, h2]⟩, fun h hp => ?_, fun h hp => ?_⟩
    · have := (Tk.skipR_bound _ _ _ _ _ _ _ (Nat.le_refl _) h).1
      omega
    · match u, hu with
      | c :: t, _ =>
        rw [skip1_cons] at h
        have : i + 1 ≤ p := by
          split at h
          · exact (Tk.skipR_bound _ _ _ _ _ _ _ (Nat.le_refl _) h).1
          · split at h
            · exact (Tk.skipR_bound _ _ _ _ _ _ _ (Nat.le_refl _) h).1
            · cases h
        omega
    · match u with
      | [] => rw [skip2_nil] at h; cases h
      | c :: t =>
        have : i + 1 ≤ p := by
          by_cases hx : ([42, 47] : Bs).isPrefixOf (c :: t) = true
          · obtain ⟨rfl, hx | ⟨t', rfl⟩⟩ := pre_true (s := t) (u := []) 42 47 (by simpa using hx)
            · obtain ⟨_, u', h'⟩ := hx; cases h'
            · rw [skip2_pre] at h
              have := (Tk.skipR_bound _ _ _ _ _ _ _ (Nat.le_refl _) h).1
              omega
          · rw [skip2_cons _ _ _ _ (eq_false_of_ne_true hx)] at h
            split at h
            · exact (Tk.skipR_bound _ _ _ _ _ _ _ (Nat.le_refl _) h).1
            · cases h
        omega
  | succ n ih =>
    intro s f i p a hn
    match s, hn with
    | [], _ => exact ih [] f i p a (Nat.zero_le _)
    | c :: s', hn =>
      simp at hn
      have e1 : ∀ x : Nat, i + (c :: s').length = (i + 1) + s'.length := fun _ => by simp; omega
      rw [e1 0]
      have low := fun m f i s u j h => (Tk.skipR_bound _ m f i s u j (Nat.le_refl _) h).1
      refine ⟨fun h hp => ?_, fun h hp => ?_, fun h hp => ?_⟩
      · simp only [List.cons_append] at h ⊢
        by_cases hx : ([47, 42] : Bs).isPrefixOf (c :: (s' ++ u)) = true
        · obtain ⟨rfl, ⟨rfl, u', rfl⟩ | ⟨s2, rfl⟩⟩ := pre_true 47 42 hx
          · have h' : skipR 0 f i (47 :: 42 :: u') = .ok a p := h
            rw [skip0_pre] at h'
            have := low _ _ _ _ _ _ h'
            simp at hp
            omega
          · simp only [List.cons_append] at h ⊢
            rw [skip0_pre] at h ⊢
            have := (ih s2 i (i + 2) p a (by simp at hn; omega)).2.2 h (by simp at hp; omega)
            rw [show i + 1 + (42 :: s2).length = i + 2 + s2.length by simp; omega]
            exact this
        · have hx' : ([47, 42] : Bs).isPrefixOf (c :: (s' ++ u)) = false := eq_false_of_ne_true hx
          rw [skip0_cons _ _ _ _ hx'] at h
          rw [skip0_cons _ _ _ _ (pre_false hw 47 42 (.inl rfl) hx')]
          by_cases hb : Tk.blank c = true
          · rw [if_pos hb] at h ⊢
            exact (ih s' 0 (i + 1) p a hn).1 h hp
          · rw [if_neg hb] at h ⊢
            by_cases h37 : c = 37
            · rw [if_pos h37] at h ⊢
              exact (ih s' 0 (i + 1) p a hn).2.1 h hp
            · rw [if_neg h37] at h ⊢
              injection h with _ h
              subst h
              exact ⟨fun _ => rfl, fun h => by omega⟩
      · simp only [List.cons_append] at h ⊢
        rw [skip1_cons] at h ⊢
        by_cases h10 : c = 10
        · rw [if_pos h10] at h ⊢
          exact (ih s' 0 (i + 1) p a hn).1 h hp
        · rw [if_neg h10] at h ⊢
          by_cases hq : permitted c = true
          · rw [if_pos hq] at h ⊢
            exact (ih s' 0 (i + 1) p a hn).2.1 h hp
          · rw [if_neg hq] at h
            cases h
      · simp only [List.cons_append] at h ⊢
        by_cases hx : ([42, 47] : Bs).isPrefixOf (c :: (s' ++ u)) = true
        · obtain ⟨rfl, ⟨rfl, u', rfl⟩ | ⟨s2, rfl⟩⟩ := pre_true 42 47 hx
          · have h' : skipR 2 f i (42 :: 47 :: u') = .ok a p := h
            rw [skip2_pre] at h'
            have := low _ _ _ _ _ _ h'
            simp at hp
            omega
          · simp only [List.cons_append] at h ⊢
            rw [skip2_pre] at h ⊢
            have := (ih s2 0 (i + 2) p a (by simp at hn; omega)).1 h (by simp at hp; omega)
            rw [show i + 1 + (47 :: s2).length = i + 2 + s2.length by simp; omega]
            exact this
        · have hx' : ([42, 47] : Bs).isPrefixOf (c :: (s' ++ u)) = false := eq_false_of_ne_true hx
          rw [skip2_cons _ _ _ _ hx'] at h
          rw [skip2_cons _ _ _ _ (pre_false hw 42 47 (.inr rfl) hx')]
          by_cases hq : permitted c = true
          · rw [if_pos hq] at h ⊢
            exact (ih s' f (i + 1) p a hn).2.2 h hp
          · rw [if_neg hq] at h
            cases h
theorem span_pre {p : UInt8 → Bool} {w : Bs} (hp : ∀ b v, w = b :: v → p b = false) (u : Bs) : ∀ (s : Bs), spanLen p (s ++ u) ≤ s.length → spanLen p (s ++ w) = spanLen p (s ++ u)
  | [], h => by
    have h0 : spanLen p u = 0 := by simpa using h
    show spanLen p w = spanLen p u
    rw [h0]
    match w with
    | [] => rfl
    | b :: v => rw [spanLen, hp b v rfl]; rfl
  | c :: s, h => by
    simp only [List.cons_append, spanLen] at h ⊢
    by_cases hc : p c = true
    · rw [if_pos hc] at h ⊢
      rw [if_pos hc, span_pre hp u s (by simp at h; omega)]
    · rw [if_neg hc, if_neg hc]
theorem name_pre {w : Bs} (hw : Gap0 w) (u : Bs) : ∀ (s : Bs), nameLen (s ++ u) ≤ s.length → nameLen (s ++ w) = nameLen (s ++ u)
  | [], h => by
    have h0 : nameLen u = 0 := by simpa using h
    show nameLen w = nameLen u
    rw [h0]
    obtain ⟨b, v, rfl, hb⟩ := hw
    have := gap_facts hb
    match v with
    | [] => simp [nameLen, this.1]
    | d :: v => simp [nameLen, this.1, this.2.2.2.2.1]
  | [c], h => by
    have hw' := hw
    obtain ⟨b, v, rfl, hb⟩ := hw
    have hf := gap_facts hb
    have hz : nameLen (b :: v) = 0 := by
      match v with
      | [] => simp [nameLen, hf.1]
      | d :: v => simp [nameLen, hf.1, hf.2.2.2.2.1]
    show nameLen (c :: b :: v) = nameLen (c :: u)
    rw [nameLen, hz, hf.2.2.2.2.2.2.2.2.1]
    match u, h with
    | [], h => simp [nameLen]
    | d :: t, h =>
      have h' : nameLen (c :: d :: t) ≤ 1 := h
      rw [nameLen] at h' ⊢
      cases hl : letter c with
      | true =>
        rw [hl] at h'
        simp at h' ⊢
        omega
      | false =>
        rw [hl] at h'
        cases hq : (c == 46 && small d) with
        | false => simp
        | true =>
          rw [hq] at h'
          have hs : small d = true := by simp at hq; exact hq.2
          have := Tk.nameLen_pos (s := d :: t) hs
          simp at h'
          omega
  | c :: d :: s, h => by
    have h' : nameLen (c :: d :: (s ++ u)) ≤ s.length + 2 := h
    show nameLen (c :: d :: (s ++ w)) = nameLen (c :: d :: (s ++ u))
    rw [nameLen] at h' ⊢
    rw [nameLen]
    split at h'
    · rename_i hc
      rw [if_pos hc, if_pos hc]
      have := name_pre hw u (d :: s) (by simp only [List.cons_append, List.length_cons]; omega)
      simp only [List.cons_append] at this
      rw [this]
    · rename_i hc
      rw [if_neg hc, if_neg hc]
theorem quoted_pre {mk : UInt8} {es : Bs} {f : Nat} (u w : Bs) : ∀ (n : Nat) (s acc r : Bs) (i j : Nat), s.length ≤ n → quotedR mk es f i (s ++ u) acc = .ok r j → j ≤ i + s.length → quotedR mk es f i (s ++ w) acc = .ok r j := by
  intro n
  induction n with
  | zero =>
    intro s acc r i j hn h hj
    obtain rfl : s = [] := List.eq_nil_of_length_eq_zero (by omega)
    have := (Tk.quotedR_bound mk es f _ _ _ _ _ _ (Nat.le_refl _) h).1
    simp at hj
    omega
  | succ n ih =>
    intro s acc r i j hn h hj
    match s, hn with
    | [], _ =>
      have := (Tk.quotedR_bound mk es f _ _ _ _ _ _ (Nat.le_refl _) h).1
      simp at hj
      omega
    | c :: s', hn =>
      simp at hn
      simp only [List.cons_append] at h ⊢
      rw [quotedR_cons] at h ⊢
      split at h
      · cases h
      · rename_i h1
        rw [if_neg h1]
        split at h
        · rename_i h2
          rw [if_pos h2]
          exact h
        · rename_i h2
          rw [if_neg h2]
          split at h
          · cases h
          · rename_i h3
            rw [if_neg h3]
            split at h
            · rename_i h4
              rw [if_pos h4]
              match s', hn with
              | [], _ =>
                match u with
                | [] => cases h
                | d :: u' =>
                  simp only [List.nil_append] at h
                  split at h
                  · cases h
                  · split at h
                    · have := (Tk.quotedR_bound mk es f _ _ _ _ _ _ (Nat.le_refl _) h).1
                      simp at hj
                      omega
                    · cases h
              | d :: s2, hn =>
                simp only [List.cons_append] at h ⊢
                split at h
                · cases h
                · rename_i h5
                  rw [if_neg h5]
                  split at h
                  · rename_i h6
                    rw [if_pos h6]
                    simp at hn
                    exact ih s2 _ _ _ _ (by omega) h (by simp at hj; omega)
                  · cases h
            · rename_i h4
              rw [if_neg h4]
              exact ih s' _ _ _ _ hn h (by simp at hj; omega)
theorem pk_drop {l u : Bs} {j k : Nat} (h : l.drop j = u) : pk l (j + k) = (u.drop k).headD 0 := by
  unfold pk
  rw [← h, List.drop_drop]
theorem cut_pre {l l' s u w : Bs} {q m : Nat} (hd : l.drop q = s ++ u) (hd' : l'.drop q = s ++ w) (hm : m ≤ q + s.length) : cut l' q m = cut l q m := by
  unfold cut
  rw [hd, hd', List.take_append_of_le_length (by omega), List.take_append_of_le_length (by omega)]
theorem drop_pre {l s u : Bs} {q m : Nat} (hd : l.drop q = s ++ u) (h1 : q ≤ m) (hm : m ≤ q + s.length) : l.drop m = s.drop (m - q) ++ u := by
  rw [show m = q + (m - q) by omega, ← List.drop_drop, hd, List.drop_append_of_le_length (by omega), show q + (m - q) - q = m - q by omega]
theorem char_pre {l l' s u w r : Bs} {q m : Nat} (hd : l.drop q = s ++ u) (hd' : l'.drop q = s ++ w) (h : charS l q = .ok r m) (hm : m ≤ q + s.length) : charS l' q = .ok r m := by
  have hb := Tk.charS_bound h
  match s, hm, hd, hd' with
  | [], hm, _, _ => simp at hm; omega
  | [_], hm, _, _ =>
    have : q + 3 ≤ m := ((Tk.charS_more l q).1 _ _ h).2
    simp at hm; omega
  | [_, _], hm, _, _ =>
    have : q + 3 ≤ m := ((Tk.charS_more l q).1 _ _ h).2
    simp at hm; omega
  | a :: b :: c :: s, hm, hd, hd' =>
    have e : l.drop (q + 2) = c :: (s ++ u) := by rw [← List.drop_drop, hd]; rfl
    have e' : l'.drop (q + 2) = c :: (s ++ w) := by rw [← List.drop_drop, hd']; rfl
    unfold charS at h ⊢
    rw [e] at h
    rw [e']
    simp only at h ⊢
    split at h
    · cases h
    · rename_i h1
      rw [if_neg h1]
      split at h
      · rename_i h2
        rw [if_pos h2]
        match s, hm with
        | [], hm =>
          match u, h with
          | [], h => cases h
          | d :: u', h =>
            simp only [List.nil_append] at h
            split at h
            · cases h
            · split at h
              · injection h with _ h
                simp at hm
                omega
              · cases h
        | d :: s', _ => exact h
      · rename_i h2
        rw [if_neg h2]
        exact h
theorem namedEnd_pre {l l' : Bs} {q : Nat} {c : UInt8} {s u w : Bs} (hw : Gap0 w) (hd : l.drop q = (c :: s) ++ u) (hd' : l'.drop q = (c :: s) ++ w) (hm : namedEnd l q c ≤ q + (s.length + 1))
    (hx : namedEnd l q c = q + (s.length + 1) → cut l q (namedEnd l q c) ≠ [33, 46] ∧ cut l q (namedEnd l q c) ≠ [33, 58]) : namedEnd l' q c = namedEnd l q c := by
  obtain ⟨b, v, hwe, hb⟩ := hw
  have hf := gap_facts hb
  have p1 := pk_drop (k := 1) hd
  have p2 := pk_drop (k := 2) hd
  have p1' := pk_drop (k := 1) hd'
  have p2' := pk_drop (k := 2) hd'
  have d1 : l.drop (q + 1) = s ++ u := by rw [← List.drop_drop, hd]; rfl
  have d1' : l'.drop (q + 1) = s ++ w := by rw [← List.drop_drop, hd']; rfl
  have hsp : spanLen sign (s ++ u) ≤ s.length → spanLen sign (s ++ w) = spanLen sign (s ++ u) := span_pre (fun x y e => by rw [hwe] at e; injection e with e _; rw [← e]; exact hf.2.2.1) u s
  by_cases h33 : c = 33
  · subst h33
    match s, hd, hd', hm, hx, p1, p2, p1', p2' with
    | [], hd, hd', hm, hx, p1, p2, p1', p2' =>
      subst hwe
      simp at p1' p2'
      unfold namedEnd at hm ⊢
      rw [p1', p2']
      simp only [hf.2.2.2.2.1, hf.2.2.2.2.2.1, beq_iff_eq, Bool.or_self, decide_false] at hm ⊢
      split at hm
      · simp at hm
      · rename_i hn
        rw [if_neg hn]
        simp [hf.2.2.2.2.1, hf.2.2.2.2.2.1]
    | [d], hd, hd', hm, hx, p1, p2, p1', p2' =>
      subst hwe
      simp at p1 p1' p2'
      unfold namedEnd at hm hx ⊢
      rw [p1', p2', hf.2.2.2.2.2.2.2.1]
      rw [p1] at hm hx ⊢
      rw [if_neg (by simp)]
      by_cases hn : ((decide ((33 : UInt8) = 33) && (d == 46 || d == 58)) && capital (pk l (q + 2))) = true
      · exfalso
        rw [if_pos hn] at hx
        have hcut : cut l q (q + 2) = [33, d] := by unfold cut; rw [hd]; simp
        have := hx rfl
        rw [hcut] at this
        simp only [Bool.and_eq_true, Bool.or_eq_true, beq_iff_eq] at hn
        rcases hn.1.2 with rfl | rfl
        · exact this.1 rfl
        · exact this.2 rfl
      · rw [if_neg hn]
        simp
    | d :: e :: s, hd, hd', hm, hx, p1, p2, p1', p2' =>
      simp at p1 p2 p1' p2'
      unfold namedEnd
      rw [p1, p2, p1', p2']
      simp
  · unfold namedEnd at hm ⊢
    rw [d1] at hm ⊢
    rw [d1']
    simp only [h33, decide_false, Bool.false_and, Bool.false_eq_true, if_false] at hm ⊢
    by_cases h59 : c = 59
    · subst h59
      simp
    · simp only [h59, h33, ne_eq, not_false_eq_true, decide_true, Bool.and_self, if_true] at hm ⊢
      rw [hsp (by omega)]
theorem raw_pre {l l' : Bs} {q : Nat} {c : UInt8} {s u w : Bs} (hw : Gap0 w) (hd : l.drop q = (c :: s) ++ u) (hd' : l'.drop q = (c :: s) ++ w) {t : Tk.Tok} {m : Nat} (h : tokenRaw l q c = .ok t m) (hm : m ≤ q + (s.length + 1))
    (hx : m = q + (s.length + 1) → t.text ≠ [33, 46] ∧ t.text ≠ [33, 58]) : tokenRaw l' q c = .ok t m := by
  have hw' := hw
  obtain ⟨b, v, hwe, hb⟩ := hw'
  have hf := gap_facts hb
  have hc := fun m hm => cut_pre (m := m) hd hd' hm
  have hlen : (c :: s).length = s.length + 1 := rfl
  have hsp : ∀ p : UInt8 → Bool, p b = false → spanLen p (c :: s ++ u) ≤ s.length + 1 → spanLen p (c :: s ++ w) = spanLen p (c :: s ++ u) := fun p hp => span_pre (fun x y e => by rw [hwe] at e; injection e with e _; rw [← e]; exact hp) u (c :: s)
  have hpk : pk l (q + 1) = 39 → s ≠ [] → pk l' (q + 1) = 39 := by
    intro h1 h2
    rw [pk_drop hd] at h1
    rw [pk_drop hd']
    match s, h2 with
    | d :: s, _ => exact h1
  have hpk2 : pk l (q + 1) ≠ 39 → pk l' (q + 1) ≠ 39 := by
    intro h1
    rw [pk_drop hd] at h1
    rw [pk_drop hd']
    match s with
    | d :: s => exact h1
    | [] => rw [hwe]; simpa using hf.2.2.2.1
  unfold tokenRaw at h ⊢
  rw [hd] at h
  rw [hd']
  split at h
  · rename_i h1
    rw [if_pos h1]
    injection h with h2 h3
    rw [name_pre hw u (c :: s) (by rw [hlen]; omega), h3, hc m hm, ← h2, h3]
  · rename_i h1
    rw [if_neg h1]
    split at h
    · rename_i h2
      rw [if_pos h2]
      injection h with h3 h4
      rw [hsp letter hf.1 (by omega), h4, hc m hm, ← h3, h4]
    · rename_i h2
      rw [if_neg h2]
      split at h
      · rename_i h3
        simp only [Bool.and_eq_true, decide_eq_true_eq, beq_iff_eq] at h3
        split at h
        · rename_i r j hq
          injection h with h4 h5
          subst h5
          have hlow := ((Tk.charS_more l q).1 _ _ hq).2
          have hs : s ≠ [] := by rintro rfl; simp at hm; omega
          rw [if_pos (by simp [h3.1, hpk h3.2 hs]), char_pre hd hd' hq hm]
          exact congrArg (fun x => Tk.R.ok x j) h4
        · cases h
      · rename_i h3
        rw [if_neg (by
          intro h4
          simp only [Bool.and_eq_true, decide_eq_true_eq, beq_iff_eq] at h3 h4
          exact hpk2 (fun e => h3 ⟨h4.1, e⟩) h4.2)]
        split at h
        · rename_i h4
          rw [if_pos h4]
          injection h with h5 h6
          rw [hsp digit hf.2.1 (by omega), h6, hc m hm, ← h5, h6]
        · rename_i h4
          rw [if_neg h4]
          have hq1 : ∀ (mk : UInt8) (es r : Bs) (j : Nat), quotedS mk es l q = .ok r j → j ≤ q + (s.length + 1) → quotedS mk es l' q = .ok r j := by
            intro mk es r j hq hj
            unfold quotedS at hq ⊢
            rw [show l.drop (q + 1) = s ++ u by rw [← List.drop_drop, hd]; rfl] at hq
            rw [show l'.drop (q + 1) = s ++ w by rw [← List.drop_drop, hd']; rfl]
            exact quoted_pre u w _ _ _ _ _ _ (Nat.le_refl _) hq (by omega)
          split at h
          · rename_i h5
            rw [if_pos h5]
            split at h
            · rename_i r j hq
              injection h with h6 h7
              subst h7
              rw [hq1 _ _ _ _ hq hm]
              exact congrArg (fun x => Tk.R.ok x j) h6
            · cases h
          · rename_i h5
            rw [if_neg h5]
            split at h
            · rename_i h6
              rw [if_pos h6]
              split at h
              · rename_i r j hq
                split at h
                · cases h
                · rename_i h7
                  injection h with h8 h9
                  subst h9
                  rw [hq1 _ _ _ _ hq hm]
                  simp only
                  rw [if_neg h7, h8]
              · cases h
            · rename_i h6
              rw [if_neg h6]
              split at h
              · rename_i h7
                rw [if_pos h7]
                exact h
              · rename_i h7
                rw [if_neg h7]
                split at h
                · rename_i h8
                  rw [if_pos h8]
                  simp only at h ⊢
                  have hge := Tk.named_ge l q c
                  have hj : namedEnd l q c = m := by
                    repeat' split at h
                    all_goals first | (cases h; done) | (injection h with _ h)
                  have hne : namedEnd l' q c = namedEnd l q c := by
                    refine namedEnd_pre hw hd hd' (by omega) fun he => ?_
                    have hxx := hx (by omega)
                    split at h
                    · rename_i h9
                      rw [h9]
                      decide
                    · injection h with h _
                      rw [← h] at hxx
                      exact hxx
                  rw [hne, hc _ (by omega)]
                  split at h
                  · rename_i h9
                    rw [if_pos h9]
                    rw [drop_pre hd (by omega) (by rw [hj]; exact hm)] at h
                    rw [drop_pre hd' (by omega) (by rw [hj]; exact hm)]
                    cases hs : (c :: s).drop (namedEnd l q c - q) with
                    | cons d s' =>
                      rw [hs] at h
                      exact h
                    | nil =>
                      rw [hwe]
                      simp only [List.nil_append]
                      rw [if_neg (by simp [hf.2.2.2.2.2.2.2.2.2.2])]
                      rw [hs] at h
                      simp only [List.nil_append] at h
                      repeat' split at h
                      all_goals first | (cases h; done) | exact h
                  · rename_i h9
                    rw [if_neg h9]
                    exact h
                · cases h
theorem tok_pre {l l' : Bs} {q : Nat} {s u w : Bs} (hw : Gap0 w) (hu : u ≠ []) (hd : l.drop q = s ++ u) (hd' : l'.drop q = s ++ w) {t : Tk.Tok} {m : Nat} (h : tokenS l q = .ok t m) (hm : m ≤ q + s.length)
    (hx : m = q + s.length → t.text ≠ [33, 46] ∧ t.text ≠ [33, 58]) : tokenS l' q = .ok t m := by
  match s, hd, hd', hm, hx with
  | [], hd, hd', hm, hx =>
    exfalso
    match u, hu with
    | c :: u', _ =>
      rw [Tk.tokenS_cons hd] at h
      cases hr : tokenRaw l q c with
      | bad a e => rw [hr] at h; cases h
      | ok k m0 =>
        have hb := (Tk.tokenRaw_bound hd hr).1
        rw [hr] at h
        unfold Tk.fin at h
        simp only at h
        split at h
        · injection h with _ h
          simp at hm
          omega
        · cases h
  | c :: s', hd, hd', hm, hx =>
    rw [Tk.tokenS_cons hd] at h
    rw [Tk.tokenS_cons hd']
    cases hr : tokenRaw l q c with
    | bad a e => rw [hr] at h; cases h
    | ok k m0 =>
      rw [hr] at h
      have hkm : k = t ∧ m0 = m := by
        unfold Tk.fin at h
        simp only at h
        split at h
        · injection h with h1 h2
          exact ⟨h1, h2⟩
        · cases h
      obtain ⟨rfl, rfl⟩ := hkm
      rw [raw_pre hw hd hd' hr hm hx]
      exact h
theorem skip_shift (d : Nat) : ∀ (n : Nat) (s : Bs) (m f f' i j : Nat) (a : Unit), s.length ≤ n → skipR m f i s = .ok a j → skipR m f' (i + d) s = .ok () (j + d) := by
  intro n
  induction n with
  | zero =>
    intro s m f f' i j a hn h
    obtain rfl : s = [] := List.eq_nil_of_length_eq_zero (by omega)
    rw [skipR] at h ⊢
    split at h
    · cases h
    · rename_i h1
      rw [if_neg h1]
      injection h with _ h
      rw [h]
  | succ n ih =>
    intro s m f f' i j a hn h
    match s, hn with
    | [], _ => exact ih [] m f f' i j a (Nat.zero_le _) h
    | [c], _ =>
      rw [skipR] at h ⊢
      repeat' split at h
      all_goals first
        | (cases h; done)
        | (injection h with _ h; subst h; simp [*, Nat.add_right_comm])
    | c :: e :: t, hn =>
      simp at hn
      have i2 := fun m f f' i j a h => ih t m f f' i j a (by omega) h
      have i1 := fun m f f' i j a h => ih (e :: t) m f f' i j a (by simp; omega) h
      have q1 : i + d + 1 = i + 1 + d := by omega
      have q2 : i + d + 2 = i + 2 + d := by omega
      rw [skipR] at h ⊢
      rw [q1, q2]
      split at h
      · rename_i h0
        rw [if_pos h0]
        split at h
        · rename_i h1
          rw [if_pos h1]
          exact i2 _ _ _ _ _ _ h
        · rename_i h1
          rw [if_neg h1]
          split at h
          · rename_i h2
            rw [if_pos h2]
            exact i1 _ _ _ _ _ _ h
          · cases h
      · rename_i h0
        rw [if_neg h0]
        split at h
        · rename_i h00
          rw [if_pos h00]
          split at h
          · rename_i h1
            rw [if_pos h1]
            exact i1 _ _ _ _ _ _ h
          · rename_i h1
            rw [if_neg h1]
            split at h
            · rename_i h2
              rw [if_pos h2]
              exact i1 _ _ _ _ _ _ h
            · cases h
        · rename_i h00
          rw [if_neg h00]
          split at h
          · rename_i h1
            rw [if_pos h1]
            exact i2 _ _ _ _ _ _ h
          · rename_i h1
            rw [if_neg h1]
            split at h
            · rename_i h2
              rw [if_pos h2]
              exact i1 _ _ _ _ _ _ h
            · rename_i h2
              rw [if_neg h2]
              split at h
              · rename_i h3
                rw [if_pos h3]
                exact i1 _ _ _ _ _ _ h
              · rename_i h3
                rw [if_neg h3]
                injection h with _ h
                rw [h]
theorem quoted_shift (d : Nat) {mk : UInt8} {es : Bs} {f f' : Nat} : ∀ (n : Nat) (s acc r : Bs) (i j : Nat), s.length ≤ n → quotedR mk es f i s acc = .ok r j → quotedR mk es f' (i + d) s acc = .ok r (j + d) := by
  intro n
  induction n with
  | zero =>
    intro s acc r i j hn h
    obtain rfl : s = [] := List.eq_nil_of_length_eq_zero (by omega)
    rw [quotedR_nil] at h
    cases h
  | succ n ih =>
    intro s acc r i j hn h
    match s, hn with
    | [], _ => rw [quotedR_nil] at h; cases h
    | c :: t, hn =>
      simp at hn
      rw [quotedR_cons] at h ⊢
      rw [show i + d + 1 = i + 1 + d by omega, show i + d + 2 = i + 2 + d by omega]
      split at h
      · cases h
      · rename_i h1
        rw [if_neg h1]
        split at h
        · rename_i h2
          rw [if_pos h2]
          injection h with h3 h4
          rw [h3, h4]
        · rename_i h2
          rw [if_neg h2]
          split at h
          · cases h
          · rename_i h3
            rw [if_neg h3]
            split at h
            · rename_i h4
              rw [if_pos h4]
              match t, hn, h with
              | [], _, h => cases h
              | x :: u, hn, h =>
                simp only at h ⊢
                split at h
                · cases h
                · rename_i h5
                  rw [if_neg h5]
                  split at h
                  · rename_i h6
                    rw [if_pos h6]
                    exact ih u _ _ _ _ (by simp at hn; omega) h
                  · cases h
            · rename_i h4
              rw [if_neg h4]
              exact ih t _ _ _ _ hn h
section
variable {l l' : Bs} {i d : Nat}
theorem drop_sh (hd : l'.drop (i + d) = l.drop i) (k : Nat) : l'.drop (i + d + k) = l.drop (i + k) := by rw [← List.drop_drop, hd, List.drop_drop]
theorem pk_sh (hd : l'.drop (i + d) = l.drop i) (k : Nat) : pk l' (i + d + k) = pk l (i + k) := by unfold pk; rw [drop_sh hd]
theorem cut_sh (hd : l'.drop (i + d) = l.drop i) (m : Nat) : cut l' (i + d) (m + d) = cut l i m := by unfold cut; rw [hd]; congr 1; omega
theorem char_sh (hd : l'.drop (i + d) = l.drop i) {r : Bs} {j : Nat} (h : charS l i = .ok r j) : charS l' (i + d) = .ok r (j + d) := by
  unfold charS at h ⊢
  rw [drop_sh hd]
  rw [show i + d + 3 = i + 3 + d by omega, show i + d + 4 = i + 4 + d by omega]
  cases hq : l.drop (i + 2) with
  | nil => rw [hq] at h; cases h
  | cons c t =>
    rw [hq] at h
    simp only at h ⊢
    split at h
    · cases h
    · rename_i h1
      rw [if_neg h1]
      split at h
      · rename_i h2
        rw [if_pos h2]
        match t, h with
        | [], h => cases h
        | x :: u, h =>
          simp only at h ⊢
          split at h
          · cases h
          · rename_i h3
            rw [if_neg h3]
            split at h
            · rename_i h4
              rw [if_pos h4]
              injection h with h5 h6
              rw [h5, h6]
            · cases h
      · rename_i h2
        rw [if_neg h2]
        split at h
        · cases h
        · rename_i h3
          rw [if_neg h3]
          injection h with h5 h6
          rw [h5, h6]
theorem named_sh (hd : l'.drop (i + d) = l.drop i) (c : UInt8) : namedEnd l' (i + d) c = namedEnd l i c + d := by
  unfold namedEnd
  rw [pk_sh hd, pk_sh hd, drop_sh hd]
  split
  · omega
  · split <;> omega
def mv (d : Nat) (t : Tk.Tok) : Tk.Tok := { t with at_ := t.at_ + d }
theorem raw_sh (hd : l'.drop (i + d) = l.drop i) (c : UInt8) {t : Tk.Tok} {m : Nat} (h : tokenRaw l i c = .ok t m) : tokenRaw l' (i + d) c = .ok (mv d t) (m + d) := by
  have hat : ((i + d : Nat) : Int) = (i : Int) + d := by omega
  have hq1 : ∀ (mk : UInt8) (es r : Bs) (j : Nat), quotedS mk es l i = .ok r j → quotedS mk es l' (i + d) = .ok r (j + d) := by
    intro mk es r j hq
    unfold quotedS at hq ⊢
    rw [drop_sh hd, show i + d + 1 = i + 1 + d by omega]
    exact quoted_shift d _ _ _ _ _ _ (Nat.le_refl _) hq
  have hcut : ∀ x, cut l' (i + d) (i + d + x) = cut l i (i + x) := by
    intro x
    rw [show i + d + x = i + x + d by omega, cut_sh hd]
  unfold tokenRaw at h ⊢
  rw [hd, hcut, hcut, hcut, pk_sh hd]
  split at h
  · rename_i h1
    rw [if_pos h1]
    injection h with h2 h3
    subst h2 h3
    exact congr (congrArg _ (by simp [mv, hat])) (by omega)
  · rename_i h1
    rw [if_neg h1]
    split at h
    · rename_i h2
      rw [if_pos h2]
      injection h with h2 h3
      subst h2 h3
      exact congr (congrArg _ (by simp [mv, hat])) (by omega)
    · rename_i h2
      rw [if_neg h2]
      split at h
      · rename_i h3
        rw [if_pos h3]
        split at h
        · rename_i r j hq
          injection h with h4 h5
          subst h4 h5
          rw [char_sh hd hq]
          simp [mv, hat]
        · cases h
      · rename_i h3
        rw [if_neg h3]
        split at h
        · rename_i h4
          rw [if_pos h4]
          injection h with h2 h3
          subst h2 h3
          exact congr (congrArg _ (by simp [mv, hat])) (by omega)
        · rename_i h4
          rw [if_neg h4]
          split at h
          · rename_i h5
            rw [if_pos h5]
            split at h
            · rename_i r j hq
              injection h with h6 h7
              subst h6 h7
              rw [hq1 _ _ _ _ hq]
              simp [mv, hat]
            · cases h
          · rename_i h5
            rw [if_neg h5]
            split at h
            · rename_i h6
              rw [if_pos h6]
              split at h
              · rename_i r j hq
                split at h
                · cases h
                · rename_i h7
                  injection h with h8 h9
                  subst h8 h9
                  rw [hq1 _ _ _ _ hq]
                  simp only
                  rw [if_neg h7]
                  simp [mv, hat]
              · cases h
            · rename_i h6
              rw [if_neg h6]
              split at h
              · rename_i h7
                rw [if_pos h7]
                injection h with h8 h9
                subst h8 h9
                exact congr (congrArg _ (by simp [mv, hat])) (by omega)
              · rename_i h7
                rw [if_neg h7]
                split at h
                · rename_i h8
                  rw [if_pos h8]
                  simp only at h ⊢
                  have hdm : l'.drop (namedEnd l i c + d) = l.drop (namedEnd l i c) := by
                    have := drop_sh hd (namedEnd l i c - i)
                    have hge := Tk.named_ge l i c
                    rw [show i + d + (namedEnd l i c - i) = namedEnd l i c + d by omega, show i + (namedEnd l i c - i) = namedEnd l i c by omega] at this
                    exact this
                  rw [named_sh hd, cut_sh hd, hdm]
                  split at h
                  · rename_i h9
                    rw [if_pos h9]
                    cases hq : l.drop (namedEnd l i c) with
                    | nil =>
                      rw [hq] at h
                      injection h with h10 h11
                      subst h10 h11
                      simp [mv, hat]
                    | cons x u =>
                      rw [hq] at h
                      simp only at h ⊢
                      split at h
                      · cases h
                      · rename_i h10
                        rw [if_neg h10]
                        injection h with h11 h12
                        subst h11 h12
                        simp [mv, hat]
                  · rename_i h9
                    rw [if_neg h9]
                    injection h with h10 h11
                    subst h10 h11
                    simp [mv, hat]
                · cases h
theorem tok_sh (hd : l'.drop (i + d) = l.drop i) {t : Tk.Tok} {m : Nat} (h : tokenS l i = .ok t m) : tokenS l' (i + d) = .ok (mv d t) (m + d) := by
  cases hq : l.drop i with
  | nil =>
    unfold tokenS at h ⊢
    rw [hd, hq]
    rw [hq] at h
    injection h with h1 h2
    subst h1 h2
    simp [mv]
  | cons c u =>
    have hq' : l'.drop (i + d) = c :: u := by rw [hd, hq]
    rw [Tk.tokenS_cons hq] at h
    rw [Tk.tokenS_cons hq']
    cases hr : tokenRaw l i c with
    | bad a e => rw [hr] at h; cases h
    | ok k m0 =>
      rw [hr] at h
      rw [raw_sh hd c hr]
      unfold Tk.fin at h ⊢
      simp only at h ⊢
      split at h
      · rename_i h1
        rw [if_pos (by exact h1)]
        injection h with h2 h3
        subst h2 h3
        rfl
      · cases h
theorem skipS_sh (hd : l'.drop (i + d) = l.drop i) {j : Nat} {a : Unit} (h : skipS l i = .ok a j) : skipS l' (i + d) = .ok () (j + d) := by
  unfold skipS at h ⊢
  rw [hd]
  exact skip_shift d _ _ _ _ _ _ _ _ (Nat.le_refl _) h
end
def kt (t : Tk.Tok) : Int × Bs := (t.kind, t.text)
theorem called_sim {acc acc' : List Tk.Tok} (h : acc'.map kt = acc.map kt) {i i' : Nat} {t t' : Tk.Tok} (ht : kt t' = kt t) (hi : ((i' : Int) = t'.at_) ↔ ((i : Int) = t.at_)) : kt (called acc' i' t') = kt (called acc i t) := by
  have hl : acc'.getLast?.map kt = acc.getLast?.map kt := by rw [← List.getLast?_map, ← List.getLast?_map, h]
  obtain ⟨k, tx, a⟩ := t
  obtain ⟨k', tx', a'⟩ := t'
  simp only [kt, Prod.mk.injEq] at ht hi
  obtain ⟨rfl, rfl⟩ := ht
  unfold called
  cases h1 : acc.getLast? with
  | none =>
    rw [h1] at hl
    cases h2 : acc'.getLast? with
    | none => rfl
    | some p => rw [h2] at hl; cases hl
  | some p =>
    rw [h1] at hl
    cases h2 : acc'.getLast? with
    | none => rw [h2] at hl; cases hl
    | some p' =>
      rw [h2] at hl
      simp only [Option.map_some, Option.some.injEq, kt, Prod.mk.injEq] at hl
      simp only [hl.1, hi]
      split <;> rfl
theorem loop_sh (l l' : Bs) (d : Nat) : ∀ (k e i : Nat) (acc acc' ts : List Tk.Tok), l'.drop (i + d) = l.drop i → acc'.map kt = acc.map kt → loopS l k i acc = .toks ts → ∃ ts', loopS l' (k + e) (i + d) acc' = .toks ts' ∧ ts'.map kt = ts.map kt
  | 0, _, _, _, _, _, _, _, h => by unfold loopS at h; cases h
  | k + 1, e, i, acc, acc', ts, hd, ha, h => by
    rw [show k + 1 + e = (k + e) + 1 by omega]
    unfold loopS at h ⊢
    cases hs : skipS l i with
    | bad a e => rw [hs] at h; cases h
    | ok u j =>
      rw [hs] at h
      rw [skipS_sh hd hs]
      simp only at h ⊢
      have hij : i ≤ j := (Tk.skipR_bound _ _ _ _ _ _ _ (Nat.le_refl _) hs).1
      have hdj : l'.drop (j + d) = l.drop j := by
        have := drop_sh hd (j - i)
        rw [show i + d + (j - i) = j + d by omega, show i + (j - i) = j by omega] at this
        exact this
      cases ht : tokenS l j with
      | bad a e => rw [ht] at h; cases h
      | ok t m =>
        rw [ht] at h
        rw [tok_sh hdj ht]
        simp only at h ⊢
        have hc : kt (called acc' (i + d) (mv d t)) = kt (called acc i t) := called_sim ha rfl (by show (((i + d : Nat) : Int) = t.at_ + d) ↔ _; omega)
        have hacc : (acc' ++ [called acc' (i + d) (mv d t)]).map kt = (acc ++ [called acc i t]).map kt := by
          rw [List.map_append, List.map_append, ha]
          simp only [List.map_cons, List.map_nil, hc]
        split at h
        · rename_i h0
          rw [if_pos (by exact h0)]
          injection h with h
          subst h
          exact ⟨_, rfl, hacc⟩
        · rename_i h0
          rw [if_neg (by exact h0)]
          have hjm : j ≤ m := by
            cases hq : l.drop j with
            | nil =>
              unfold tokenS at ht
              rw [hq] at ht
              injection ht with _ ht
              omega
            | cons c v =>
              rw [Tk.tokenS_cons hq] at ht
              cases hr : tokenRaw l j c with
              | bad a e => rw [hr] at ht; cases ht
              | ok k0 m0 =>
                rw [hr] at ht
                have := (Tk.tokenRaw_bound hq hr).1
                unfold Tk.fin at ht
                simp only at ht
                split at ht
                · injection ht with _ ht
                  omega
                · cases ht
          refine loop_sh l l' d k e m _ _ ts ?_ hacc h
          have := drop_sh hdj (m - j)
          rw [show j + d + (m - j) = m + d by omega, show j + (m - j) = m by omega] at this
          exact this
theorem tok_up {l : Bs} {j m : Nat} {t : Tk.Tok} (h : tokenS l j = .ok t m) : j ≤ m ∧ t.at_ = j := by
  cases hq : l.drop j with
  | nil =>
    unfold tokenS at h
    rw [hq] at h
    injection h with h1 h2
    subst h1
    exact ⟨by omega, rfl⟩
  | cons c v =>
    rw [Tk.tokenS_cons hq] at h
    cases hr : tokenRaw l j c with
    | bad a e => rw [hr] at h; cases h
    | ok k0 m0 =>
      rw [hr] at h
      have := Tk.tokenRaw_bound hq hr
      unfold Tk.fin at h
      simp only at h
      split at h
      · injection h with h1 h2
        subst h1
        exact ⟨by omega, this.2.2.2⟩
      · cases h
theorem loop_rest (l : Bs) : ∀ (k i : Nat) (acc ts : List Tk.Tok), loopS l k i acc = .toks ts → ∃ r, ts = acc ++ r ∧ ∀ t ∈ r, (i : Int) ≤ t.at_
  | 0, _, _, _, h => by unfold loopS at h; cases h
  | k + 1, i, acc, ts, h => by
    unfold loopS at h
    cases hs : skipS l i with
    | bad a e => rw [hs] at h; cases h
    | ok u j =>
      rw [hs] at h
      simp only at h
      have hij : i ≤ j := (Tk.skipR_bound _ _ _ _ _ _ _ (Nat.le_refl _) hs).1
      cases ht : tokenS l j with
      | bad a e => rw [ht] at h; cases h
      | ok t m =>
        rw [ht] at h
        simp only at h
        have hb := tok_up ht
        have hc := (Tk.called_same acc i t).2.1
        split at h
        · injection h with h
          exact ⟨[called acc i t], h.symm, fun x hx => by rw [List.mem_singleton.1 hx, hc, hb.2]; omega⟩
        · obtain ⟨r, hr, hall⟩ := loop_rest l k m _ ts h
          refine ⟨called acc i t :: r, by rw [hr]; simp, fun x hx => ?_⟩
          rcases List.mem_cons.1 hx with rfl | hx
          · rw [hc, hb.2]
            omega
          · have := hall x hx
            omega
theorem called_un {acc : List Tk.Tok} {i : Nat} {t : Tk.Tok} (h : (called acc i t).text ≠ [40, 40]) : called acc i t = t := by
  unfold called at h ⊢
  split
  · rfl
  · rename_i p hp
    rw [hp] at h
    simp only at h
    split
    · rename_i hc
      rw [if_pos hc] at h
      exact absurd rfl h
    · rfl
theorem called_far {acc : List Tk.Tok} {i : Nat} {t : Tk.Tok} (h : (i : Int) ≠ t.at_) : called acc i t = t := by
  unfold called
  split
  · rfl
  · rw [if_neg (fun hc => h hc.2.2.1)]
theorem skip_idem : ∀ (n : Nat) (s : Bs) (m f i j : Nat) (a : Unit), s.length ≤ n → skipR m f i s = .ok a j → skipR 0 0 j (s.drop (j - i)) = .ok () j := by
  intro n
  induction n with
  | zero =>
    intro s m f i j a hn h
    obtain rfl : s = [] := List.eq_nil_of_length_eq_zero (by omega)
    simp [skip0_nil]
  | succ n ih =>
    intro s m f i j a hn h
    match s, hn with
    | [], _ => simp [skip0_nil]
    | [c], _ =>
      have h0 := h
      rw [skipR] at h
      repeat' split at h
      all_goals first
        | (cases h; done)
        | (injection h with _ h
           subst h
           first
             | (rw [show i + 1 - i = 1 by omega]; exact skip0_nil _ _)
             | (rw [Nat.sub_self, List.drop_zero]; simp [skipR, *]))
    | c :: e :: t, hn =>
      simp at hn
      have low := fun m f i s u j h => (Tk.skipR_bound _ m f i s u j (Nat.le_refl _) h).1
      have i2 : ∀ m f, skipR m f (i + 2) t = .ok a j → skipR 0 0 j ((c :: e :: t).drop (j - i)) = .ok () j := by
        intro m f h
        have h1 := low _ _ _ _ _ _ h
        have h2 := ih t m f (i + 2) j a (by omega) h
        rw [show j - i = (j - (i + 2)) + 1 + 1 by omega]
        exact h2
      have i1 : ∀ m f, skipR m f (i + 1) (e :: t) = .ok a j → skipR 0 0 j ((c :: e :: t).drop (j - i)) = .ok () j := by
        intro m f h
        have h1 := low _ _ _ _ _ _ h
        have h2 := ih (e :: t) m f (i + 1) j a (by simp; omega) h
        rw [show j - i = (j - (i + 1)) + 1 by omega]
        exact h2
      have h0 := h
      rw [skipR] at h
      repeat' split at h
      all_goals first
        | (cases h; done)
        | exact i2 _ _ h
        | exact i1 _ _ h
        | (injection h with _ h
           subst h
           rw [Nat.sub_self, List.drop_zero, skipR]
           simp [*])
theorem loop_gap (l g : Bs) (jn : Nat) (hu : l.drop jn ≠ []) (hg : Gap0 (g ++ l.drop jn)) (hgl : 0 < g.length) (hsk : ∀ p, skipR 0 0 p (g ++ l.drop jn) = skipR 0 0 (p + g.length) (l.drop jn)) (n : Nat) (ts : List Tk.Tok) (hn : n < ts.length)
    (hat : ts[n].at_ = jn) (h40 : ts[n].text ≠ [40, 40]) (hprev : ∀ h : n - 1 < ts.length, 0 < n → ts[n - 1].text ≠ [33, 46] ∧ ts[n - 1].text ≠ [33, 58]) (hsort : ts.Pairwise fun a b => a.at_ < b.at_) :
    ∀ (k e i : Nat) (acc : List Tk.Tok), loopS l k i acc = .toks ts → i ≤ jn → acc.length ≤ n → ∃ ts', loopS (l.take jn ++ (g ++ l.drop jn)) (k + e) i acc = .toks ts' ∧ ts'.map kt = ts.map kt
  | 0, _, _, _, h, _, _ => by unfold loopS at h; cases h
  | k + 1, e, i, acc, h, hi, hacc => by
    have hjl : jn < l.length := by
      rcases Nat.lt_or_ge jn l.length with h | h
      · exact h
      · exact absurd (List.drop_eq_nil_of_le h) hu
    have hdr : ∀ q, q ≤ jn → l.drop q = (l.take jn).drop q ++ l.drop jn := by
      intro q hq
      have := List.take_append_drop jn l
      conv => lhs; rw [← this]
      rw [List.drop_append_of_le_length (by simp; omega)]
    have hdr' : ∀ q, q ≤ jn → (l.take jn ++ (g ++ l.drop jn)).drop q = (l.take jn).drop q ++ (g ++ l.drop jn) := fun q hq => by rw [List.drop_append_of_le_length (by simp; omega)]
    have hsl : ∀ q, q ≤ jn → q + ((l.take jn).drop q).length = jn := fun q hq => by simp; omega
    have hdd : (l.take jn ++ (g ++ l.drop jn)).drop (jn + g.length) = l.drop jn := by
      rw [← List.append_assoc, List.drop_left' (by simp; omega)]
    rw [show k + 1 + e = (k + e) + 1 by omega]
    have h' := h
    unfold loopS at h ⊢
    cases hs : skipS l i with
    | bad a e => rw [hs] at h; cases h
    | ok u j =>
      rw [hs] at h
      simp only at h
      cases ht : tokenS l j with
      | bad a e => rw [ht] at h; cases h
      | ok t m =>
        rw [ht] at h
        simp only at h
        have hij : i ≤ j := (Tk.skipR_bound _ _ _ _ _ _ _ (Nat.le_refl _) hs).1
        have hb := tok_up ht
        have hcs := Tk.called_same acc i t
        have hs0 := hs
        unfold skipS at hs0
        rw [hdr i hi] at hs0
        have hform : ∃ r, ts = acc ++ called acc i t :: r ∧ (t.kind = 0 → r = []) ∧ ∀ x ∈ r, (m : Int) ≤ x.at_ := by
          split at h
          · injection h with h
            exact ⟨[], h.symm, fun _ => rfl, by simp⟩
          · rename_i h0
            obtain ⟨r, hr, hall⟩ := loop_rest l k m _ ts h
            exact ⟨r, by rw [hr]; simp, fun e => absurd e h0, hall⟩
        obtain ⟨r, hts, hr0, hrm⟩ := hform
        rcases Nat.lt_or_ge acc.length n with hlt | hge
        ·
          have hnr : n - acc.length - 1 < r.length := by
            rw [hts] at hn
            simp at hn
            omega
          have hget : ts[n] = r[n - acc.length - 1] := by
            subst hts
            rw [List.getElem_append_right (by omega), List.getElem_cons]
            rw [dif_neg (by omega)]
          have hk0 : t.kind ≠ 0 := fun e => by rw [hr0 e] at hnr; simp at hnr
          have hmj : m ≤ jn := by
            have := hrm _ (List.getElem_mem hnr)
            rw [← hget, hat] at this
            omega
          have hjm : j < m := by
            cases hq : l.drop j with
            | nil =>
              unfold tokenS at ht
              rw [hq] at ht
              injection ht with ht _
              rw [← ht] at hk0
              exact absurd rfl hk0
            | cons c v =>
              rw [Tk.tokenS_cons hq] at ht
              cases hr : tokenRaw l j c with
              | bad a e => rw [hr] at ht; cases ht
              | ok k0 m0 =>
                rw [hr] at ht
                have := (Tk.tokenRaw_bound hq hr).1
                unfold Tk.fin at ht
                simp only at ht
                split at ht
                · injection ht with _ ht
                  omega
                · cases ht
          have hskip : skipS (l.take jn ++ (g ++ l.drop jn)) i = .ok () j := by
            unfold skipS
            rw [hdr' i hi]
            exact ((skip_pre hg hu _ _ 0 i j u (Nat.le_refl _)).1 hs0 (by rw [hsl i hi]; omega)).1 (by rw [hsl i hi]; omega)
          have htok : tokenS (l.take jn ++ (g ++ l.drop jn)) j = .ok t m := by
            refine tok_pre hg hu (hdr j (by omega)) (hdr' j (by omega)) ht (by rw [hsl j (by omega)]; exact hmj) fun he => ?_
            rw [hsl j (by omega)] at he
            have hn1 : n = acc.length + 1 := by
              rcases Nat.lt_or_ge (acc.length + 1) n with h1 | h1
              · exfalso
                have h2 : 0 < r.length := by omega
                have h3 := hrm _ (List.getElem_mem h2)
                have h4 : ts[acc.length + 1]'(by omega) = r[0] := by
                  subst hts
                  rw [List.getElem_append_right (by omega), List.getElem_cons]
                  rw [dif_neg (by omega)]
                  congr 1
                  omega
                have h5 := List.pairwise_iff_getElem.1 hsort (acc.length + 1) n (by omega) hn h1
                rw [h4, hat] at h5
                omega
              · omega
            have hp := hprev (by omega) (by omega)
            have hg1 : ts[n - 1]'(by omega) = called acc i t := by
              subst hts
              rw [List.getElem_append_right (by omega), List.getElem_cons]
              rw [dif_pos (by omega)]
            rw [hg1] at hp
            rcases hcs.2.2 with h1 | h1
            · rw [h1] at hp
              exact hp
            · constructor
              all_goals
                intro h2
                have h3 : (called acc i t).text ≠ t.text := by
                  rw [h1.2, h2]
                  decide
                have h4 : t.text = [40] := by
                  unfold called at h3
                  split at h3
                  · exact absurd rfl h3
                  · split at h3
                    · rename_i hc
                      exact hc.2.1
                    · exact absurd rfl h3
                rw [h4] at h2
                revert h2
                decide
          rw [hskip]
          simp only
          rw [htok]
          simp only
          rw [if_neg hk0] at h ⊢
          exact loop_gap l g jn hu hg hgl hsk n ts hn hat h40 hprev hsort k e m _ h hmj (by simp; omega)
        ·
          have hn1 : n = acc.length := by omega
          have hgn : ts[n] = called acc i t := by
            subst hts
            rw [List.getElem_append_right (by omega), List.getElem_cons]
            rw [dif_pos (by omega)]
          rw [hgn] at hat h40
          have hjj : j = jn := by
            rw [hcs.2.1, hb.2] at hat
            omega
          subst hjj
          have h00 : skipR 0 0 j (l.drop j) = .ok () j := by
            have := skip_idem _ _ 0 0 i j u (Nat.le_refl _) hs
            rw [List.drop_drop, show i + (j - i) = j by omega] at this
            exact this
          have hskip : skipS (l.take j ++ (g ++ l.drop j)) i = .ok () (j + g.length) := by
            unfold skipS
            rw [hdr' i hi, ((skip_pre hg hu _ _ 0 i j u (Nat.le_refl _)).1 hs0 (by rw [hsl i hi]; omega)).2 (hsl i hi).symm, hsk]
            have := skip_shift g.length _ _ 0 0 0 j j () (Nat.le_refl _) h00
            exact this
          rw [hskip]
          simp only
          rw [tok_sh (i := j) (d := g.length) hdd ht]
          simp only
          have hc : called acc i t = t := called_un h40
          have hc' : called acc i (mv g.length t) = mv g.length t := called_far (by show (i : Int) ≠ t.at_ + g.length; rw [hb.2]; omega)
          rw [hc] at h
          rw [hc']
          have hacc : (acc ++ [mv g.length t]).map kt = (acc ++ [t]).map kt := by simp [kt, mv]
          split at h
          · rename_i h0
            rw [if_pos (by exact h0)]
            injection h with h
            subst h
            exact ⟨_, rfl, hacc⟩
          · rename_i h0
            rw [if_neg (by exact h0)]
            refine loop_sh l _ g.length k e m _ _ ts ?_ hacc h
            have := drop_sh (i := j) (d := g.length) hdd (m - j)
            rw [show j + g.length + (m - j) = m + g.length by omega, show j + (m - j) = m by omega] at this
            exact this
def gapL : List Bs := [[32], [10, 9], [32, 47, 42, 32, 97, 32, 37, 32, 98, 32, 10, 32, 42, 47, 32], [32, 37, 32, 99, 32, 39, 100, 32, 10]]
theorem skip2_run (f : Nat) (r : Bs) : ∀ (s : Bs) (i : Nat), (∀ c ∈ s, permitted c = true ∧ c ≠ 42) → skipR 2 f i (s ++ 42 :: 47 :: r) = skipR 0 0 (i + s.length + 2) r
  | [], i, _ => skip2_pre f i r
  | c :: s, i, h => by
    have hc := h c List.mem_cons_self
    rw [List.cons_append, skip2_cons _ _ _ _ (by simp [List.isPrefixOf, hc.2.symm]), if_pos hc.1, skip2_run f r s (i + 1) (fun d hd => h d (List.mem_cons_of_mem _ hd))]
    congr 1
    simp
    omega
theorem skip1_run (f : Nat) (r : Bs) : ∀ (s : Bs) (i : Nat), (∀ c ∈ s, permitted c = true ∧ c ≠ 10) → skipR 1 f i (s ++ 10 :: r) = skipR 0 0 (i + s.length + 1) r
  | [], i, _ => by
    show skipR 1 f i (10 :: r) = _
    rw [skip1_cons, if_pos rfl]
    rfl
  | c :: s, i, h => by
    have hc := h c List.mem_cons_self
    rw [List.cons_append, skip1_cons, if_neg hc.2, if_pos hc.1, skip1_run 0 r s (i + 1) (fun d hd => h d (List.mem_cons_of_mem _ hd))]
    congr 1
    simp
    omega
theorem gap_skip {g u : Bs} (hg : g ∈ gapL) (p : Nat) : skipR 0 0 p (g ++ u) = skipR 0 0 (p + g.length) u := by
  have e32 : ∀ q u, skipR 0 0 q (32 :: u) = skipR 0 0 (q + 1) u := fun q u => by rw [skip0_cons _ _ _ _ (by simp [List.isPrefixOf]), if_pos (by decide)]
  have e10 : ∀ q u, skipR 0 0 q (10 :: u) = skipR 0 0 (q + 1) u := fun q u => by rw [skip0_cons _ _ _ _ (by simp [List.isPrefixOf]), if_pos (by decide)]
  have e9 : ∀ q u, skipR 0 0 q (9 :: u) = skipR 0 0 (q + 1) u := fun q u => by rw [skip0_cons _ _ _ _ (by simp [List.isPrefixOf]), if_pos (by decide)]
  have e37 : ∀ q u, skipR 0 0 q (37 :: u) = skipR 1 0 (q + 1) u := fun q u => by rw [skip0_cons _ _ _ _ (by simp [List.isPrefixOf]), if_neg (by decide), if_pos rfl]
  unfold gapL at hg
  simp only [List.mem_cons, List.not_mem_nil, or_false] at hg
  rcases hg with rfl | rfl | rfl | rfl
  · exact e32 p u
  · show skipR 0 0 p (10 :: 9 :: u) = _
    rw [e10, e9]
    rfl
  · show skipR 0 0 p (32 :: 47 :: 42 :: ([32, 97, 32, 37, 32, 98, 32, 10, 32] ++ 42 :: 47 :: 32 :: u)) = _
    rw [e32, skip0_pre, skip2_run _ _ _ _ (by decide), e32]
    rfl
  · show skipR 0 0 p (32 :: 37 :: ([32, 99, 32, 39, 100, 32] ++ 10 :: u)) = _
    rw [e32, e37, skip1_run _ _ _ _ (by decide)]
    rfl
theorem gap_zero {g u : Bs} (hg : g ∈ gapL) : Gap0 (g ++ u) ∧ 0 < g.length := by
  unfold gapL at hg
  simp only [List.mem_cons, List.not_mem_nil, or_false] at hg
  rcases hg with rfl | rfl | rfl | rfl
  · exact ⟨⟨32, _, rfl, .inl rfl⟩, by decide⟩
  · exact ⟨⟨10, _, rfl, .inr rfl⟩, by decide⟩
  · exact ⟨⟨32, _, rfl, .inl rfl⟩, by decide⟩
  · exact ⟨⟨32, _, rfl, .inl rfl⟩, by decide⟩
theorem gap_law {l : Bs} {ts : List Tk.Tok} {n : Nat} {g : Bs} (h : tokensS l = .toks ts) (hl : l.length ≤ 400) (hsort : ts.Pairwise fun a b => a.at_ < b.at_) (hn : n < ts.length) (hk : ts[n].kind ≠ 0) (h40 : ts[n].text ≠ [40, 40])
    (hprev : ∀ h : n - 1 < ts.length, 0 < n → ts[n - 1].text ≠ [33, 46] ∧ ts[n - 1].text ≠ [33, 58]) (hg : g ∈ gapL) (hg2 : g.length ≤ 20) :
    ∃ j : Nat, ts[n].at_ = j ∧ j < l.length ∧ ∃ ts', tokensS (l.take j ++ (g ++ l.drop j)) = .toks ts' ∧ ts'.map kt = ts.map kt := by
  have hi := Tk.tokens_inv l
  rw [h] at hi
  obtain ⟨body, rfl, ha⟩ := hi
  have hnb : n < body.length := by
    rcases Nat.lt_or_ge n body.length with hb | hb
    · exact hb
    · exfalso
      have e : n = body.length := by simp at hn; omega
      subst e
      simp at hk
  have he : (body ++ [(⟨0, [], l.length⟩ : Tk.Tok)])[n] = body[n] := List.getElem_append_left hnb
  have hb := ha.each _ (List.getElem_mem hnb)
  obtain ⟨j, hj⟩ := Int.eq_ofNat_of_zero_le hb.2.2.1
  have hjl : j < l.length := by
    have := hb.2.2.2.1
    rw [hj] at this
    omega
  have hu : l.drop j ≠ [] := by
    intro e
    have := drop_nil e
    omega
  have hz := gap_zero (u := l.drop j) hg
  unfold tokensS at h
  rw [if_neg (by omega)] at h
  obtain ⟨ts', h1, h2⟩ := loop_gap l g j hu hz.1 hz.2 (fun p => gap_skip hg p) n _ hn (by rw [he, hj]) h40 hprev hsort (l.length + 1) g.length 0 [] h (Nat.zero_le _) (Nat.zero_le _)
  refine ⟨j, by rw [he, hj], hjl, ts', ?_, h2⟩
  have hlen : (l.take j ++ (g ++ l.drop j)).length = l.length + g.length := by simp; omega
  unfold tokensS
  rw [if_neg (by omega), hlen, show l.length + g.length + 1 = l.length + 1 + g.length by omega]
  exact h1
end Go.Proofs.YtgeonilideojnaaGreatDoor.Gp
end
