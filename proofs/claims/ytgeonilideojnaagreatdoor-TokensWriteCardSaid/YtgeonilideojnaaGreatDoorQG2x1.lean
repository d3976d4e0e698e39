/- A part of a proof over the package's statements: contracts of functions and plain facts, merged by a program of this session's. -/
import Derived.Test.YtgeonilideojnaaGreatDoorQG1x1
import Derived.Test.YtgeonilideojnaaGreatDoorQG1x2
import Derived.Test.YtgeonilideojnaaGreatDoorQG1x3
import Derived.Test.YtgeonilideojnaaGreatDoorQG1x4
section
namespace Go.Proofs.YtgeonilideojnaaGreatDoor.Tk
open Go Go.RowKit
set_option linter.unusedVariables false
set_option linter.unusedSimpArgs false
theorem skipR_code : ∀ (n m f i : Nat) (s : Bs) (a e : Nat), s.length ≤ n → skipR m f i s = .bad a e → e ≠ 0
  | n, m, f, i, [], a, e, hn, h => by
    simp only [skipR] at h
    split at h
    · injection h with _ h2; omega
    · cases h
  | n, m, f, i, [c], a, e, hn, h => by
    simp only [skipR] at h
    repeat' split at h
    all_goals first | (cases h; done) | (injection h with _ h2; omega)
  | 0, m, f, i, c :: d :: t, a, e, hn, h => by simp at hn
  | n + 1, m, f, i, c :: d :: t, a, e, hn, h => by
    simp at hn
    have ih := fun m f i s hs => skipR_code n m f i s a e hs
    rw [skipR] at h
    repeat' split at h
    all_goals first | (cases h; done) | (injection h with _ h2; omega) | (exact ih _ _ _ _ (by simp; omega) h) | (exact ih _ _ _ _ (by omega) h)
theorem quotedR_more (mk : UInt8) (es : Bs) (f : Nat) : ∀ (n i : Nat) (s acc : Bs), s.length ≤ n →
    (∀ r j, quotedR mk es f i s acc = .ok r j → r.length + i ≤ acc.length + j) ∧ (∀ a e, quotedR mk es f i s acc = .bad a e → e ≠ 0) := by
  intro n
  induction n with
  | zero =>
    intro i s acc hn
    match s, hn with
    | [], _ =>
      refine ⟨fun r j h => ?_, fun a e h => ?_⟩
      · rw [quotedR_nil] at h; cases h
      · rw [quotedR_nil] at h; injection h with _ h2; omega
  | succ n ih =>
    intro i s acc hn
    match s, hn with
    | [], _ =>
      refine ⟨fun r j h => ?_, fun a e h => ?_⟩
      · rw [quotedR_nil] at h; cases h
      · rw [quotedR_nil] at h; injection h with _ h2; omega
    | c :: t, hn =>
      simp at hn
      rw [quotedR_cons]
      split
      · exact ⟨fun r j h => (by cases h), fun a e h => by injection h with _ h2; omega⟩
      · split
        · exact ⟨fun r j h => (by injection h with h1 h2; subst h1 h2; omega), fun a e h => by cases h⟩
        · split
          · exact ⟨fun r j h => (by cases h), fun a e h => by injection h with _ h2; omega⟩
          · split
            · match t, hn with
              | [], _ => exact ⟨fun r j h => (by cases h), fun a e h => by injection h with _ h2; omega⟩
              | d :: u, hn =>
                simp only
                split
                · exact ⟨fun r j h => (by cases h), fun a e h => by injection h with _ h2; omega⟩
                · split
                  · have := ih (i + 2) u (acc ++ [unesc d]) (by simp at hn; omega)
                    refine ⟨fun r j h => ?_, this.2⟩
                    have := this.1 r j h
                    simp at this
                    omega
                  · exact ⟨fun r j h => (by cases h), fun a e h => by injection h with _ h2; omega⟩
            · have := ih (i + 1) t (acc ++ [c]) hn
              refine ⟨fun r j h => ?_, this.2⟩
              have := this.1 r j h
              simp at this
              omega
theorem charS_more (l : Bs) (i : Nat) : (∀ r j, charS l i = .ok r j → r.length = 1 ∧ i + 3 ≤ j) ∧ (∀ a e, charS l i = .bad a e → e ≠ 0) := by
  unfold charS
  repeat' split
  all_goals exact ⟨fun r j h => (by first | (cases h; done) | (injection h with h1 h2; subst h1 h2; exact ⟨rfl, by omega⟩)), fun a e h => by first | (cases h; done) | (injection h with _ h2; omega)⟩
theorem cut_len (l : Bs) (i j : Nat) : (cut l i j).length ≤ l.length := by
  unfold cut; simp; omega
theorem tokenRaw_text {l : Bs} {i : Nat} {c : UInt8} {t : Bs} (hd : l.drop i = c :: t) {k : Tok} {m : Nat} (h : tokenRaw l i c = .ok k m) : k.text.length ≤ l.length ∧ 1 ≤ k.kind ∧ k.kind ≤ 7 := by
  obtain ⟨hl, -, -⟩ := drop_at hd
  have hc1 := cut_len l i
  unfold tokenRaw at h
  split at h
  · injection h with h1 h2; subst h1; exact ⟨hc1 _, by simp, by simp⟩
  · split at h
    · injection h with h1 h2; subst h1; exact ⟨hc1 _, by simp, by simp⟩
    · split at h
      · split at h
        · rename_i s j hq
          injection h with h1 h2
          subst h1
          have h3 := (charS_more l i).1 _ _ hq
          exact ⟨by simp only; omega, by simp, by simp⟩
        · cases h
      · split at h
        · injection h with h1 h2; subst h1; exact ⟨hc1 _, by simp, by simp⟩
        · split at h
          · split at h
            · rename_i s j hq
              injection h with h1 h2
              subst h1
              have h3 := (quotedR_more 34 [110, 116, 92, 34] i (l.drop (i + 1)).length (i + 1) (l.drop (i + 1)) [] (Nat.le_refl _)).1 _ _ hq
              have h4 := quotedR_bound _ _ _ _ _ _ _ _ _ (Nat.le_refl _) hq
              rw [List.length_drop] at h4
              simp at h3
              exact ⟨by simp only; omega, by simp, by simp⟩
            · cases h
          · split at h
            · split at h
              · rename_i s j hq
                split at h
                · cases h
                · injection h with h1 h2
                  subst h1
                  have h3 := (quotedR_more 39 [92, 39] i (l.drop (i + 1)).length (i + 1) (l.drop (i + 1)) [] (Nat.le_refl _)).1 _ _ hq
                  have h4 := quotedR_bound _ _ _ _ _ _ _ _ _ (Nat.le_refl _) hq
                  rw [List.length_drop] at h4
                  simp at h3
                  exact ⟨by simp only; omega, by simp, by simp⟩
              · cases h
            · split at h
              · injection h with h1 h2; subst h1; exact ⟨by simp; omega, by simp, by simp⟩
              · split at h
                · simp only at h
                  split at h
                  · split at h
                    · injection h with h1 h2; subst h1; exact ⟨by simp; omega, by simp, by simp⟩
                    · split at h
                      · cases h
                      · injection h with h1 h2; subst h1; exact ⟨by simp; omega, by simp, by simp⟩
                  · injection h with h1 h2; subst h1; exact ⟨hc1 _, by simp, by simp⟩
                · cases h
theorem tokenRaw_code {l : Bs} {i : Nat} {c : UInt8} {a e : Nat} (h : tokenRaw l i c = .bad a e) : e ≠ 0 := by
  unfold tokenRaw at h
  split at h
  · cases h
  · split at h
    · cases h
    · split at h
      · split at h
        · cases h
        · rename_i a0 e0 hq
          injection h with h1 h2
          subst h2
          exact (charS_more l i).2 _ _ hq
      · split at h
        · cases h
        · split at h
          · split at h
            · cases h
            · rename_i a0 e0 hq
              injection h with h1 h2
              subst h2
              exact (quotedR_more 34 [110, 116, 92, 34] i (l.drop (i + 1)).length (i + 1) (l.drop (i + 1)) [] (Nat.le_refl _)).2 _ _ hq
          · split at h
            · split at h
              · split at h
                · injection h with _ h2; omega
                · cases h
              · rename_i a0 e0 hq
                injection h with h1 h2
                subst h2
                exact (quotedR_more 39 [92, 39] i (l.drop (i + 1)).length (i + 1) (l.drop (i + 1)) [] (Nat.le_refl _)).2 _ _ hq
            · split at h
              · cases h
              · split at h
                · simp only at h
                  split at h
                  · split at h
                    · cases h
                    · split at h
                      · injection h with _ h2; omega
                      · cases h
                  · cases h
                · injection h with _ h2; omega
theorem tokenS_more (l : Bs) (i : Nat) : (∀ k m, tokenS l i = .ok k m → k.text.length ≤ l.length ∧ 0 ≤ k.kind ∧ k.kind ≤ 7) ∧ (∀ a e, tokenS l i = .bad a e → e ≠ 0) := by
  cases hd : l.drop i with
  | nil =>
    have e1 : tokenS l i = .ok ⟨0, [], i⟩ i := by unfold tokenS; rw [hd]
    rw [e1]
    exact ⟨fun k m h => (by injection h with h1 h2; subst h1; exact ⟨Nat.zero_le _, by simp, by simp⟩), fun a e h => by cases h⟩
  | cons c t =>
    rw [tokenS_cons hd]
    have hr := And.intro (fun k m (h : tokenRaw l i c = .ok k m) => tokenRaw_text hd h) (fun a e (h : tokenRaw l i c = .bad a e) => tokenRaw_code h)
    cases hq : tokenRaw l i c with
    | bad a e => exact ⟨fun k m h => (by cases h), fun a' e' h => by injection h with h1 h2; subst h2; exact hr.2 _ _ hq⟩
    | ok k m =>
      have := hr.1 _ _ hq
      unfold fin
      simp only
      split
      · exact ⟨fun k' m' h => (by injection h with h1 h2; subst h1; exact ⟨this.1, by omega, this.2.2⟩), fun a e h => by cases h⟩
      · rename_i hn
        exact ⟨fun k' m' h => (by (cases h)), fun a e h => by injection h with h1 h2; subst h2; exact hn⟩
structure AccOk (l : Bs) (acc : List Tok) (i : Nat) : Prop where
  each : ∀ t ∈ acc, t.kind ≠ 0 ∧ checkS t.kind t.text = 0 ∧ 0 ≤ t.at_ ∧ t.at_ < i ∧ t.text.length ≤ l.length + 2 ∧ 0 ≤ t.kind ∧ t.kind ≤ 7
  sorted : acc.Pairwise fun a b => a.at_ < b.at_
theorem called_same (acc : List Tok) (i : Nat) (t : Tok) : (called acc i t).kind = t.kind ∧ (called acc i t).at_ = t.at_ ∧ ((called acc i t).text = t.text ∨ (t.kind = 6 ∧ (called acc i t).text = [40, 40])) := by
  unfold called
  split
  · exact ⟨rfl, rfl, .inl rfl⟩
  · split
    · rename_i h
      exact ⟨rfl, rfl, .inr ⟨h.1, rfl⟩⟩
    · exact ⟨rfl, rfl, .inl rfl⟩
def ResOk (l : Bs) : Res → Prop
  | .fault _ e => e ≠ 0
  | .toks ts => ∃ body, ts = body ++ [⟨0, [], l.length⟩] ∧ AccOk l body l.length
theorem loop_inv (l : Bs) : ∀ (k i : Nat) (acc : List Tok), i ≤ l.length → l.length + 1 ≤ i + k → AccOk l acc i → ResOk l (loopS l k i acc)
  | 0, i, acc, hi, hk, _ => by omega
  | k + 1, i, acc, hi, hk, ha => by
    unfold loopS
    cases hs : skipS l i with
    | bad a e => exact skipR_code _ _ _ _ _ _ _ (Nat.le_refl _) hs
    | ok u j =>
      have hj := skipS_bound hi hs
      simp only
      cases ht : tokenS l j with
      | bad a e => exact (tokenS_more l j).2 _ _ ht
      | ok t m =>
        have hb := tokenS_bound hj.2 ht
        have hm := (tokenS_more l j).1 _ _ ht
        have hc := called_same acc i t
        simp only
        by_cases h0 : t.kind = 0
        · rw [if_pos h0]
          have hjl : l.length ≤ j := hb.2.2.2.2.1.1 h0
          have e1 : t = ⟨0, [], l.length⟩ := by
            have e2 := ht
            rw [show tokenS l j = .ok ⟨0, [], j⟩ j by unfold tokenS; rw [List.drop_eq_nil_of_le hjl]] at e2
            injection e2 with e2 _
            rw [← e2, show j = l.length by omega]
          have e2 : called acc i t = t := by
            rcases hc.2.2 with h | h
            · have h1 := hc.1
              have h2 := hc.2.1
              cases hcc : called acc i t
              rw [hcc] at h h1 h2
              simp only at h h1 h2
              subst h h1 h2
              rfl
            · omega
          refine ⟨acc, by rw [e2, e1], ⟨fun t ht => ?_, ha.sorted⟩⟩
          have := ha.each t ht
          exact ⟨this.1, this.2.1, this.2.2.1, by omega, this.2.2.2.2⟩
        · rw [if_neg h0]
          have hjm := hb.2.1 h0
          refine loop_inv l k m _ hb.1 (by omega) ⟨fun x hx => ?_, ?_⟩
          · rcases List.mem_append.1 hx with hx | hx
            · have := ha.each x hx
              exact ⟨this.1, this.2.1, this.2.2.1, by omega, this.2.2.2.2⟩
            · rw [List.mem_singleton.1 hx]
              refine ⟨by rw [hc.1]; exact h0, ?_, by rw [hc.2.1, hb.2.2.2.1]; omega, by rw [hc.2.1, hb.2.2.2.1]; omega, ?_, by rw [hc.1]; exact hm.2.1, by rw [hc.1]; exact hm.2.2⟩
              · rcases hc.2.2 with h | h
                · rw [hc.1, h]; exact hb.2.2.2.2.2
                · rw [hc.1, h.1, h.2]; decide
              · rcases hc.2.2 with h | h
                · rw [h]; omega
                · rw [h.2]; simp
          · rw [List.pairwise_append]
            refine ⟨ha.sorted, by simp, fun a h1 b h2 => ?_⟩
            rw [List.mem_singleton.1 h2, hc.2.1, hb.2.2.2.1]
            have := (ha.each a h1).2.2.2.1
            omega
theorem tokens_inv (l : Bs) : ResOk l (tokensS l) := by
  unfold tokensS
  split
  · show (6 : Nat) ≠ 0
    decide
  · exact loop_inv l _ 0 [] (Nat.zero_le _) (by omega) ⟨by simp, List.Pairwise.nil⟩
end Go.Proofs.YtgeonilideojnaaGreatDoor.Tk
end
