/- A part of a proof over the package's statements: contracts of functions and plain facts, merged by a program of this session's out of the texts in wip/src. -/
import Derived.Test.YtgeonilideojnaaGreatDoorMCk3
import Derived.Test.YtgeonilideojnaaGreatDoorMCk4
import Derived.Test.YtgeonilideojnaaGreatDoorMA5
import Derived.Test.YtgeonilideojnaaGreatDoorMA6
import Derived.Test.YtgeonilideojnaaGreatDoorMA9
/- Name and Check of the reference of layer 1 come to the same as those of the package tokens. -/
namespace Go.Proofs.YtgeonilideojnaaGreatDoor.Rf
open Go Go.RowKit Tk Go.Proofs.YtgeonilideojnaaGreatDoor.Pr Go.Proofs.YtgeonilideojnaaGreatDoorW.PrintWords
set_option linter.unusedVariables false
set_option linter.unusedSimpArgs false
theorem extract_one {l : Bs} {i : Nat} {c : UInt8} {t : Bs} (h : l.drop i = c :: t) : (B l).extract (i : Int).toNat ((i + 1 : Nat) : Int).toNat = B [c] := by
  simp only [Int.toNat_natCast]
  rw [extract_B]
  unfold cut
  rw [h]
  simp
theorem B_app (a b : Bs) : B a ++ B b = B (a ++ b) := by
  apply ByteArray.ext
  rw [ByteArray.data_append]
  simp [B]
theorem eqN (c d : UInt8) (n : Int) (h : (d.toNat : Int) = n) : ((c.toNat : Int) = n) ↔ c = d := by
  rw [← h]
  exact cast_eq
theorem plain_f (l : Bs) (h : l.length ≤ 65536) : TkRef.plain.f (B l) = some (Tk.plain l) := by
  unfold TkRef.plain.f
  rw [if_pos (by rw [size_B]; exact h)]
  simp [B]
theorem esc39 (c : UInt8) : esc1 [92, 39] c = if c = 39 ∨ c = 92 then [92, c] else [c] := by
  have := u8_all (fun c => decide (esc1 [92, 39] c = if c = 39 ∨ c = 92 then [92, c] else [c])) (by decide +kernel) c
  simpa using this
theorem name_l0 (l : Bs) (hl : l.length ≤ 65536) : ∀ (t : Bs) (i : Nat) (out : Bs), l.drop i = t → out.length + 2 * t.length ≤ 1000000 →
    Ev (fun k => cinnabarref01_Name.l0 k (B l) (B out) (i : Int)) (B (out ++ escapedS [92, 39] t ++ [39]))
  | [], i, out, h, ho => by
    refine Ev.step (f := fun _ => some (B (out ++ [39]))) (fun k => ?_) (by simpa [escapedS] using Ev.now _)
    simp only [cinnabarref01_Name.l0]
    rw [if_neg (nlt_nil h), if_pos (by rw [size_B]; omega), show (⟨#[39]⟩ : ByteArray) = B [39] from rfl, B_app]
  | c :: t, i, out, h, ho => by
    obtain ⟨hi, _, h2⟩ := drop_at h
    have hw := wrap_succ i (by omega)
    have hx := extract_one h
    simp only [List.length_cons] at ho
    have ih := name_l0 l hl t (i + 1) (out ++ esc1 [92, 39] c) h2 (by
      have := esc1_len [92, 39] c
      rw [List.length_append]
      omega)
    rw [escapedS_cons, ← List.append_assoc out]
    refine Ev.step (f := fun k => cinnabarref01_Name.l0 k (B l) (B (out ++ esc1 [92, 39] c)) ((i + 1 : Nat) : Int)) (fun k => ?_) ih
    simp only [cinnabarref01_Name.l0]
    rw [if_pos (lt_cons h), if_pos (nn i), bt_cons h]
    simp only [hw, eqN c 39 39 rfl, eqN c 92 92 rfl, hx, show (⟨#[92]⟩ : ByteArray) = B [92] from rfl, B_app, size_B]
    have h1 : (i : Int) ≤ ((i + 1 : Nat) : Int) := by omega
    have h3 : ((i + 1 : Nat) : Int) ≤ (l.length : Int) := by omega
    rw [esc39]
    by_cases e1 : c = 39
    · simp only [e1, true_or, if_true, List.length_append, List.length_cons, List.length_nil]
      rw [if_pos (by omega), if_pos h1, if_pos h3, if_pos (by omega), List.append_assoc]
      rfl
    · by_cases e2 : c = 92
      · simp only [e2, if_true, List.length_append, List.length_cons, List.length_nil, or_true]
        rw [if_neg (by decide), if_pos (by omega), if_pos h1, if_pos h3, if_pos (by omega), List.append_assoc]
        rfl
      · simp only [e1, e2, if_false, or_self, List.length_append, List.length_cons, List.length_nil]
        rw [if_pos h1, if_pos h3, if_pos (by omega)]
theorem Name_f (l : Bs) (hl : l.length ≤ 65536) : Ev (fun k => cinnabarref01_Name.f k (B l)) (B (nameS l)) := by
  have hn := name_l0 l hl l 0 [39] rfl (by simp; omega)
  refine Ev.congr (f := fun k => if Tk.plain l = true then some (B l) else cinnabarref01_Name.l0 k (B l) (B [39]) 0) (fun k => ?_) ?_
  · unfold cinnabarref01_Name.f
    rw [plain_f l hl]
    rfl
  · unfold nameS
    cases Tk.plain l with
    | true => exact Ev.now _
    | false => simpa using hn
/-! ### long and great -/
/-- The longest run without a point is longer than 40, counting on from n. -/
def longRun : Nat → Bs → Bool
  | _, [] => false
  | n, c :: t => if c = 46 then longRun 0 t else decide (40 < n + 1) || longRun (n + 1) t
theorem long_l0 (l : Bs) (hl : l.length ≤ 65536) : ∀ (t : Bs) (i n : Nat), l.drop i = t → n ≤ 40 → Ev (fun k => cinnabarref01_long.l0 k (B l) (n : Int) (i : Int)) (longRun n t)
  | [], i, n, h, hn => Ev.step (f := fun _ => some false) (fun k => by simp only [cinnabarref01_long.l0]; rw [if_neg (nlt_nil h)]) (Ev.now _)
  | c :: t, i, n, h, hn => by
    obtain ⟨hi, _, h2⟩ := drop_at h
    have hw := wrap_succ i (by omega)
    have hwn := wrap_succ n (by omega)
    by_cases e : c = 46
    · have e2 : longRun n (c :: t) = longRun 0 t := by simp [longRun, e]
      rw [e2]
      refine Ev.step (f := fun k => cinnabarref01_long.l0 k (B l) ((0 : Nat) : Int) ((i + 1 : Nat) : Int)) (fun k => ?_) (long_l0 l hl t (i + 1) 0 h2 (by omega))
      simp only [cinnabarref01_long.l0]
      rw [if_pos (lt_cons h), if_pos (nn i), bt_cons h, if_pos ((eqN c 46 46 rfl).2 e), if_neg (by decide), hw]
      rfl
    · by_cases hn2 : 40 < n + 1
      · have e2 : longRun n (c :: t) = true := by simp [longRun, e, hn2]
        rw [e2]
        refine Ev.step (f := fun k => some true) (fun k => ?_) (Ev.now _)
        simp only [cinnabarref01_long.l0]
        rw [if_pos (lt_cons h), if_pos (nn i), bt_cons h, if_neg (fun x => e ((eqN c 46 46 rfl).1 x)), hwn, if_pos (by omega)]
      · have e2 : longRun n (c :: t) = longRun (n + 1) t := by simp [longRun, e, hn2]
        rw [e2]
        refine Ev.step (f := fun k => cinnabarref01_long.l0 k (B l) ((n + 1 : Nat) : Int) ((i + 1 : Nat) : Int)) (fun k => ?_) (long_l0 l hl t (i + 1) (n + 1) h2 (by omega))
        simp only [cinnabarref01_long.l0]
        rw [if_pos (lt_cons h), if_pos (nn i), bt_cons h, if_neg (fun x => e ((eqN c 46 46 rfl).1 x)), hwn, if_neg (by omega), hw]
def longR (l : Bs) : Bool := if Tk.plain l && small (l.headD 0) then longRun 0 l else decide (40 < l.length)
theorem plain_ne {l : Bs} (h : Tk.plain l = true) : l ≠ [] := by
  rintro rfl
  revert h
  decide
theorem long_f (l : Bs) (hl : l.length ≤ 65536) : Ev (fun k => cinnabarref01_long.f k (B l)) (longR l) := by
  have h0 := long_l0 l hl l 0 0 rfl (by omega)
  have hj : ∀ b : Bool, Ev (fun k => cinnabarref01_long.j0 k (B l) b) (if b = true then decide (40 < l.length) else longRun 0 l) := by
    intro b
    refine Ev.step (f := fun k => if b = true then some (decide (((B l).size : Int) > 40)) else cinnabarref01_long.l0 k (B l) 0 0) (fun k => ?_) ?_
    · simp only [cinnabarref01_long.j0]
    · cases b with
      | true =>
        simp only [if_true]
        have : decide (((B l).size : Int) > 40) = decide (40 < l.length) := by
          rw [size_B, Bool.eq_iff_iff]; simp; omega
        rw [this]
        exact Ev.now _
      | false => simpa using h0
  unfold longR
  cases hp : Tk.plain l with
  | false =>
    refine Ev.congr (f := fun k => cinnabarref01_long.j0 k (B l) true) (fun k => ?_) (by simpa using hj true)
    unfold cinnabarref01_long.f
    rw [plain_f l hl, hp]
    rfl
  | true =>
    cases l with
    | nil => exact absurd rfl (plain_ne hp)
    | cons c t =>
      have hb : bt (B (c :: t)) 0 = (c.toNat : Int) := bt_cons (l := c :: t) (i := 0) rfl
      have hq : (0 : Int) < ((B (c :: t)).size : Int) := lt_cons (l := c :: t) (i := 0) rfl
      refine Ev.congr (f := fun k => cinnabarref01_long.j0 k (B (c :: t)) (!small c)) (fun k => ?_) ?_
      · unfold cinnabarref01_long.f
        rw [plain_f _ hl, hp]
        simp only [Option.bind_some, if_true]
        rw [if_pos hq, hb, small_f]
        rfl
      · have := hj (!small c)
        simp only [List.headD_cons, Bool.true_and]
        cases hs : small c <;> rw [hs] at this <;> simpa using this
def greatR : Nat → Bs → Bool
  | _, [] => false
  | n, c :: t => decide ((4611686018427387903 - (c.toNat - 48)) / 10 < n) || greatR (10 * n + (c.toNat - 48)) t
theorem wrap_in (x : Int) (h1 : -9223372036854775808 ≤ x) (h2 : x < 9223372036854775808) : wrap64 x = x := by
  unfold wrap64
  omega
theorem wrap_ten (n d : Nat) (h : 10 * n + d ≤ 4611686018427387903) : wrap64 (wrap64 (10 * (n : Int)) + (d : Int)) = ((10 * n + d : Nat) : Int) := by
  rw [wrap_in (10 * (n : Int)) (by omega) (by omega), wrap_in _ (by omega) (by omega)]
  omega
theorem great_lim (n d : Nat) (h : ¬ (4611686018427387903 - d) / 10 < n) (hd : d ≤ 9) : 10 * n + d ≤ 4611686018427387903 := by omega
theorem great_int (n d : Nat) (hd : d ≤ 9) : ((n : Int) > (4611686018427387903 - (d : Int)) / 10) ↔ (4611686018427387903 - d) / 10 < n := by omega
theorem great_l0 (l : Bs) (hl : l.length ≤ 65536) : ∀ (t : Bs) (i n : Nat), l.drop i = t → n ≤ 4611686018427387903 → t.all digit = true → Ev (fun k => cinnabarref01_great.l0 k (B l) (n : Int) (i : Int)) (greatR n t)
  | [], i, n, h, hn, _ => Ev.step (f := fun _ => some false) (fun k => by simp only [cinnabarref01_great.l0]; rw [if_neg (nlt_nil h)]) (Ev.now _)
  | c :: t, i, n, h, hn, hd => by
    obtain ⟨hi, _, h2⟩ := drop_at h
    have hw := wrap_succ i (by omega)
    simp only [List.all_cons, Bool.and_eq_true] at hd
    obtain ⟨hc, ht⟩ := hd
    have hc2 : 48 ≤ c.toNat ∧ c.toNat ≤ 57 := by simpa [digit] using hc
    have hm : ((c.toNat : Int) - 48) % 256 = ((c.toNat - 48 : Nat) : Int) := by omega
    have hd9 : c.toNat - 48 ≤ 9 := by omega
    have hgi := great_int n (c.toNat - 48) hd9
    generalize hdd : c.toNat - 48 = d at *
    by_cases hg : (4611686018427387903 - d) / 10 < n
    · have e2 : greatR n (c :: t) = true := by simp [greatR, hdd, hg]
      rw [e2]
      refine Ev.step (f := fun k => some true) (fun k => ?_) (Ev.now _)
      simp only [cinnabarref01_great.l0]
      rw [if_pos (lt_cons h), if_pos (nn i), bt_cons h, hm, if_pos (hgi.2 hg)]
    · have e2 : greatR n (c :: t) = greatR (10 * n + d) t := by simp [greatR, hdd, hg]
      have hl2 := great_lim n d hg hd9
      rw [e2]
      refine Ev.step (f := fun k => cinnabarref01_great.l0 k (B l) ((10 * n + d : Nat) : Int) ((i + 1 : Nat) : Int)) (fun k => ?_) (great_l0 l hl t (i + 1) _ h2 hl2 ht)
      simp only [cinnabarref01_great.l0]
      rw [if_pos (lt_cons h), if_pos (nn i), bt_cons h, hm, if_neg (fun x => hg (hgi.1 x)), wrap_ten n d hl2, hw]
theorem great_f (l : Bs) (hl : l.length ≤ 65536) (hd : l.all digit = true) : Ev (fun k => cinnabarref01_great.f k (B l)) (greatR 0 l) := great_l0 l hl l 0 0 rfl (by omega) hd
theorem greatR_val : ∀ (t : Bs) (n : Nat), t.all digit = true → n ≤ 4611686018427387903 → greatR n t = decide (4611686018427387903 < t.foldl (fun n c => n * 10 + (c.toNat - 48)) n)
  | [], n, _, hn => by simp only [greatR, List.foldl_nil]; exact (decide_eq_false (by omega)).symm
  | c :: t, n, hd, hn => by
    simp only [List.all_cons, Bool.and_eq_true] at hd
    obtain ⟨hc, ht⟩ := hd
    have hc2 : 48 ≤ c.toNat ∧ c.toNat ≤ 57 := by simpa [digit] using hc
    have hmono : ∀ (t : Bs) (m : Nat), m ≤ t.foldl (fun n c => n * 10 + (c.toNat - 48)) m := by
      intro t
      induction t with
      | nil => intro m; exact Nat.le_refl _
      | cons d u ih =>
        intro m
        have := ih (m * 10 + (d.toNat - 48))
        simp only [List.foldl_cons]
        omega
    simp only [greatR, List.foldl_cons]
    by_cases hg : (4611686018427387903 - (c.toNat - 48)) / 10 < n
    · have := hmono t (n * 10 + (c.toNat - 48))
      simp only [hg, decide_true, Bool.true_or]
      exact (decide_eq_true (by omega)).symm
    · simp only [hg, decide_false, Bool.false_or]
      rw [Nat.mul_comm 10 n]
      exact greatR_val t _ ht (by omega)
end Go.Proofs.YtgeonilideojnaaGreatDoor.Rf
/- Check of the reference of layer 1 comes to the same as that of the package tokens. -/
namespace Go.Proofs.YtgeonilideojnaaGreatDoor.Rf
open Go Go.RowKit Tk Go.Proofs.YtgeonilideojnaaGreatDoor.Pr Go.Proofs.YtgeonilideojnaaGreatDoorW.PrintWords
set_option linter.unusedVariables false
set_option linter.unusedSimpArgs false
/-- What stands behind the look at the form. -/
def endR (ok : Bool) (kd : Int) (l : Bs) : Nat := if !ok then 2 else if (kd == 1 || kd == 2) && longR l then 6 else if kd == 3 && greatR 0 l then 5 else 0
theorem j4_f (l : Bs) (b : Bool) (kd at_ : Int) (hl : l.length ≤ 65536) (hd : kd = 3 → l.all digit = true) :
    Ev (fun k => cinnabarref01_Check.j4 k (B l) b kd (B l) at_) ((if b then 6 else if kd == 3 && greatR 0 l then 5 else 0 : Nat) : Int) := by
  cases b with
  | true => exact Ev.step (f := fun _ => some 6) (fun k => by simp only [cinnabarref01_Check.j4]; rfl) (Ev.now _)
  | false =>
    by_cases h3 : kd = 3
    · have hg := great_f l hl (hd h3)
      refine Ev.step (f := fun k => (cinnabarref01_great.f k (B l)).bind fun t => if t = true then some 5 else some 0) (fun k => ?_) (Ev.bind (f := fun _ t => if t = true then some 5 else some 0) hg ?_)
      · simp only [cinnabarref01_Check.j4]
        rw [if_neg (by decide), if_pos h3]
      · cases hgr : greatR 0 l <;> simp [h3] <;> exact Ev.now _
    · refine Ev.step (f := fun _ => some 0) (fun k => ?_) (by simpa [h3] using Ev.now _)
      simp only [cinnabarref01_Check.j4]
      rw [if_neg (by decide), if_neg h3]
theorem j3_f (l : Bs) (ok : Bool) (kd at_ : Int) (hl : l.length ≤ 65536) (hd : ok = true → kd = 3 → l.all digit = true) :
    Ev (fun k => cinnabarref01_Check.j3 k (B l) ok kd (B l) at_) (endR ok kd l : Int) := by
  cases ok with
  | false => exact Ev.step (f := fun _ => some 2) (fun k => by simp only [cinnabarref01_Check.j3]; rfl) (Ev.now _)
  | true =>
    have h4 := fun b => j4_f l b kd at_ hl (hd rfl)
    by_cases h1 : kd = 1
    · have e : (endR true kd l : Int) = ((if longR l then 6 else if kd == 3 && greatR 0 l then 5 else 0 : Nat) : Int) := by simp [endR, h1]
      rw [e]
      refine Ev.step (f := fun k => (cinnabarref01_long.f k (B l)).bind fun t => cinnabarref01_Check.j4 k (B l) t kd (B l) at_) (fun k => ?_) (Ev.bind (f := fun k t => cinnabarref01_Check.j4 k (B l) t kd (B l) at_) (long_f l hl) (h4 _))
      simp only [cinnabarref01_Check.j3, if_true]
      rw [if_pos h1]
    · by_cases h2 : kd = 2
      · have e : (endR true kd l : Int) = ((if longR l then 6 else if kd == 3 && greatR 0 l then 5 else 0 : Nat) : Int) := by simp [endR, h2]
        rw [e]
        refine Ev.step (f := fun k => (cinnabarref01_long.f k (B l)).bind fun t => cinnabarref01_Check.j4 k (B l) t kd (B l) at_) (fun k => ?_) (Ev.bind (f := fun k t => cinnabarref01_Check.j4 k (B l) t kd (B l) at_) (long_f l hl) (h4 _))
        simp only [cinnabarref01_Check.j3, if_true]
        rw [if_neg h1, if_pos h2]
      · have e : (endR true kd l : Int) = ((if false then 6 else if kd == 3 && greatR 0 l then 5 else 0 : Nat) : Int) := by simp [endR, h1, h2]
        rw [e]
        refine Ev.step (f := fun k => cinnabarref01_Check.j4 k (B l) false kd (B l) at_) (fun k => ?_) (h4 false)
        simp only [cinnabarref01_Check.j3, if_true]
        rw [if_neg h1, if_neg h2]
theorem word_l0 (l : Bs) (kd at_ : Int) (hl : l.length ≤ 65536) (h3 : kd ≠ 3) : ∀ (t : Bs) (i : Nat) (ok : Bool), l.drop i = t → Ev (fun k => cinnabarref01_Check.l0 k (B l) ok (i : Int) kd (B l) at_) (endR (ok && t.all letter) kd l : Int)
  | [], i, ok, h => by
    refine Ev.step (f := fun k => cinnabarref01_Check.j3 k (B l) ok kd (B l) at_) (fun k => ?_) (by simpa using j3_f l ok kd at_ hl (fun _ h => absurd h h3))
    simp only [cinnabarref01_Check.l0]
    rw [if_neg (nlt_nil h)]
  | c :: t, i, ok, h => by
    obtain ⟨hi, _, h2⟩ := drop_at h
    have hw := wrap_succ i (by omega)
    cases ok with
    | false =>
      refine Ev.step (f := fun k => cinnabarref01_Check.l0 k (B l) false ((i + 1 : Nat) : Int) kd (B l) at_) (fun k => ?_) (by simpa using word_l0 l kd at_ hl h3 t (i + 1) false h2)
      simp only [cinnabarref01_Check.l0]
      rw [if_pos (lt_cons h), if_neg (by decide), hw]
    | true =>
      refine Ev.step (f := fun k => cinnabarref01_Check.l0 k (B l) (letter c) ((i + 1 : Nat) : Int) kd (B l) at_) (fun k => ?_) (by simpa using word_l0 l kd at_ hl h3 t (i + 1) (letter c) h2)
      simp only [cinnabarref01_Check.l0, if_true]
      rw [if_pos (lt_cons h), if_pos (nn i), bt_cons h, word_f, hw]
      rfl
theorem digit_l1 (l : Bs) (kd at_ : Int) (hl : l.length ≤ 65536) : ∀ (t : Bs) (i : Nat) (ok : Bool), l.drop i = t → (ok = true → (l.take i).all digit = true) → Ev (fun k => cinnabarref01_Check.l1 k (B l) ok (i : Int) kd (B l) at_) (endR (ok && t.all digit) kd l : Int)
  | [], i, ok, h, hp => by
    refine Ev.step (f := fun k => cinnabarref01_Check.j3 k (B l) ok kd (B l) at_) (fun k => ?_) (by simpa using j3_f l ok kd at_ hl (fun ho _ => by have := hp ho; rwa [List.take_of_length_le (drop_nil h)] at this))
    simp only [cinnabarref01_Check.l1]
    rw [if_neg (nlt_nil h)]
  | c :: t, i, ok, h, hp => by
    obtain ⟨hi, h1, h2⟩ := drop_at h
    have hw := wrap_succ i (by omega)
    cases ok with
    | false =>
      refine Ev.step (f := fun k => cinnabarref01_Check.l1 k (B l) false ((i + 1 : Nat) : Int) kd (B l) at_) (fun k => ?_) (by simpa using digit_l1 l kd at_ hl t (i + 1) false h2 (fun h => by cases h))
      simp only [cinnabarref01_Check.l1]
      rw [if_pos (lt_cons h), if_neg (by decide), hw]
    | true =>
      refine Ev.step (f := fun k => cinnabarref01_Check.l1 k (B l) (digit c) ((i + 1 : Nat) : Int) kd (B l) at_) (fun k => ?_) (by simpa using digit_l1 l kd at_ hl t (i + 1) (digit c) h2 (fun hc => by
        rw [List.take_succ_eq_append_getElem hi, List.all_append, hp rfl, h1]
        simp [hc]))
      simp only [cinnabarref01_Check.l1, if_true]
      rw [if_pos (lt_cons h), if_pos (nn i), bt_cons h, digit_f, hw]
      rfl
/-! ### the two checks are one -/
theorem run_h1 (n L : Nat) : (decide (40 < n + 1) || (decide (40 < n + 1 + L) && decide (0 < L))) = (decide (40 < n + (L + 1)) && decide (0 < L + 1)) := by
  by_cases h1 : 40 < n + 1 <;> by_cases h2 : 40 < n + 1 + L <;> by_cases h3 : 0 < L <;> by_cases h4 : 40 < n + (L + 1) <;> simp only [h1, h2, h3, h4, decide_true, decide_false, Bool.true_and, Bool.and_true, Bool.false_and, Bool.and_false, Bool.or_true, Bool.true_or, Bool.or_false, Bool.false_or] <;> first | rfl | (simp; done) | (exfalso; omega)
theorem run_h0 (n L : Nat) : (decide (40 < 0 + L) && decide (0 < L)) = decide (40 < L) := by
  by_cases h2 : 40 < L <;> by_cases h3 : 0 < L <;> simp [h2, h3] <;> omega
def big (x : Bs) : Bool := decide (40 < x.length)
theorem run_any (l : Bs) : ∀ (n : Nat) (p : Bs) (ps : List Bs), splitDot l = p :: ps → longRun n l = (ps.any big || (decide (40 < n + p.length) && decide (0 < p.length))) := by
  induction l with
  | nil =>
    intro n p ps h
    simp only [splitDot, List.cons.injEq] at h
    obtain ⟨rfl, rfl⟩ := h
    simp [longRun]
  | cons c t ih =>
    intro n p ps h
    obtain ⟨q, qs, h2⟩ := split_ne t
    by_cases e : c = 46
    · have i0 := ih 0 q qs h2
      simp only [splitDot, e, if_true, h2, List.cons.injEq] at h
      obtain ⟨rfl, rfl⟩ := h
      rw [run_h0 0] at i0
      simp only [longRun, e, if_true, i0, List.any_cons]
      rw [Bool.or_comm]
      simp [big]
    · have i1 := ih (n + 1) q qs h2
      simp only [splitDot, e, if_false, h2, List.cons.injEq] at h
      obtain ⟨rfl, rfl⟩ := h
      simp only [longRun, e, if_false, i1]
      rw [List.length_cons, ← run_h1]
      cases qs.any big <;> simp
theorem run_parts (l : Bs) : longRun 0 l = (splitDot l).any (fun x => decide (40 < x.length)) := by
  obtain ⟨p, ps, h⟩ := split_ne l
  rw [run_any l 0 p ps h, h, run_h0 0, Bool.or_comm]
  rfl
theorem perm_letter (c : UInt8) (h : letter c = true) : (permitted c && (false || decide (32 ≤ c.toNat))) = true := by
  have := u8_all (fun c => !letter c || (permitted c && (false || decide (32 ≤ c.toNat)))) (by decide +kernel) c
  simpa [h] using this
theorem perm_sign (c : UInt8) (h : sign c = true) : (permitted c && (false || decide (32 ≤ c.toNat))) = true := by
  have := u8_all (fun c => !sign c || (permitted c && (false || decide (32 ≤ c.toNat)))) (by decide +kernel) c
  simpa [h] using this
theorem rest_printable : ∀ (n : Nat) (t : Bs), t.length ≤ n → restOk t = true → printable t false = true
  | _, [], _, _ => rfl
  | 0, c :: t, h, _ => by simp at h
  | n + 1, c :: t, h, hr => by
    have hn : t.length ≤ n := by simpa using h
    rw [restOk_cons] at hr
    unfold printable
    rw [List.all_cons]
    by_cases hc : c = 46
    · rw [if_pos hc] at hr
      cases t with
      | nil => exact absurd hr (by decide)
      | cons d u =>
        rw [partsOk_cons] at hr
        simp only [Bool.and_eq_true] at hr
        have h1 := rest_printable n u (by simp at hn; omega) hr.2
        have h2 := perm_letter d (small_letter hr.1)
        unfold printable at h1
        rw [List.all_cons, h1, h2, hc]
        decide
    · rw [if_neg hc] at hr
      simp only [Bool.and_eq_true] at hr
      have h1 := rest_printable n t hn hr.2
      unfold printable at h1
      rw [h1, perm_letter c hr.1]
      rfl
theorem parts_printable (l : Bs) (h : partsOk l = true) : printable l false = true ∧ small (l.headD 0) = true ∧ l ≠ [] := by
  cases l with
  | nil => exact absurd h (by decide)
  | cons c t =>
    rw [partsOk_cons] at h
    simp only [Bool.and_eq_true] at h
    refine ⟨?_, h.1, by simp⟩
    have h1 := rest_printable _ t (Nat.le_refl _) h.2
    unfold printable at h1 ⊢
    rw [List.all_cons, h1, perm_letter c (small_letter h.1)]
    rfl
theorem signs_printable (l : Bs) (h : l.all sign = true) : printable l false = true := by
  unfold printable
  rw [List.all_eq_true] at h ⊢
  intro c hc
  exact perm_sign c (h c hc)
theorem plain_signs (l : Bs) (hp : partsOk l = false) (h : Tk.plain l = true) : printable l false = true ∧ small (l.headD 0) = false := by
  unfold Tk.plain at h
  rw [hp] at h
  simp only [Bool.false_eq_true, if_false] at h
  split at h
  · cases h
  · split at h
    · cases h
    · split at h
      · rename_i h1; subst h1; decide
      · split at h
        · rename_i h1; subst h1; decide
        · simp only [Bool.and_eq_true] at h
          refine ⟨signs_printable l h.2, ?_⟩
          cases l with
          | nil => decide
          | cons c t =>
            have hc := List.all_eq_true.1 h.2 c List.mem_cons_self
            cases hs : small c with
            | true => rw [small_not_sign c hs] at hc; cases hc
            | false => simpa using hs
theorem name_check (l : Bs) : endR (decide (l ≠ []) && printable l false && (Tk.plain l || l == [33, 46] || !l.contains 46)) 1 l = Tk.checkName l := by
  unfold endR Tk.checkName
  cases hp : partsOk l with
  | true =>
    obtain ⟨h1, h2, h3⟩ := parts_printable l hp
    have hpl : Tk.plain l = true := by simp [Tk.plain, hp]
    simp only [h1, h3, hpl, ne_eq, not_false_eq_true, decide_true, Bool.true_or, Bool.and_self, Bool.not_true, Bool.false_eq_true, if_false, if_true, longR, h2, run_parts]
    simp
  | false =>
    simp only [Bool.false_eq_true, if_false]
    by_cases h0 : l = []
    · simp [h0]
    · by_cases h46 : l = [46]
      · subst h46; decide
      · have hlong : longR l = decide (40 < l.length) := by
          unfold longR
          cases hpl : Tk.plain l with
          | true => rw [(plain_signs l hp hpl).2]; simp
          | false => simp
        rw [hlong]
        cases hpl : Tk.plain l with
        | true =>
          have hq := (plain_signs l hp hpl).1
          simp [h0, h46, hq, limitS]
        | false =>
          by_cases hx : l = [33, 46]
          · subst hx; decide
          · have hx2 : (l == [33, 46]) = false := by simpa using hx
            cases hpr : printable l false <;> cases hc : l.contains 46 <;> simp [h0, h46, hx, limitS] <;> simp_all
theorem puncts_check (l : Bs) : (if l = [40, 40] then true else if l.length = 1 then ([40, 41, 91, 93, 123, 125, 44, 124] : Bs).contains (l.headD 0) else false) = puncts.contains l := by
  match l with
  | [] => decide
  | [c] =>
    have := u8_all (fun c => (([40, 41, 91, 93, 123, 125, 44, 124] : Bs).contains c) == puncts.contains [c]) (by decide +kernel) c
    simpa using this
  | a :: b :: t =>
    by_cases h : a :: b :: t = [40, 40]
    · rw [if_pos h, h]; decide
    · rw [if_neg h, if_neg (by simp)]
      symm
      rw [Bool.eq_false_iff]
      intro hc
      simp only [puncts, List.contains_iff_mem, List.mem_cons, List.cons.injEq, List.mem_nil_iff, or_false] at hc
      simp at hc h
      exact h hc.1 hc.2.1 hc.2.2
theorem Check_f (kd at_ : Int) (l : Bs) (hl : l.length ≤ 65536) : Ev (fun k => cinnabarref01_Check.f k kd (B l) at_) (checkS kd l : Int) := by
  have hj := fun ok hd => j3_f l ok kd at_ hl hd
  have ht := toList_B l
  have hsz := size_B l
  unfold cinnabarref01_Check.f checkS
  simp only [ht]
  by_cases h0 : kd = 0
  · simp only [if_pos h0]
    have e : endR (l == []) kd l = form (l == []) := by simp only [endR, form, h0]; cases l == [] <;> simp
    rw [← e]
    exact hj _ (fun _ h => by omega)
  · simp only [if_neg h0]
    by_cases h1 : kd = 1
    · subst h1
      rw [if_neg (by decide)]
      simp only [if_true]
      rw [← name_check l]
      by_cases hn : l = []
      · simp only [if_pos hn]
        have e : (decide (l ≠ []) && printable l false && (Tk.plain l || l == [33, 46] || !l.contains 46)) = false := by simp [hn]
        rw [e]
        exact hj false (fun _ h => by omega)
      · simp only [if_neg hn]
        refine Ev.bind (f := fun k t => if t = true then (TkRef.plain.f (B l)).bind fun t109 => (if t109 = true then (cinnabarref01_Check.j3 k (B l) true 1 (B l) at_) else (if l = ([33, 46] : List UInt8) then (cinnabarref01_Check.j3 k (B l) true 1 (B l) at_) else ((cinnabarref01_has.f k (B l) 46).bind fun t110 => (cinnabarref01_Check.j3 k (B l) (!t110) 1 (B l) at_)))) else cinnabarref01_Check.j3 k (B l) false 1 (B l) at_) (all_f l false (by omega)) ?_
        cases hpr : printable l false with
        | false =>
          simp only [Bool.false_eq_true, if_false, Bool.and_false, Bool.false_and]
          exact hj false (fun _ h => by omega)
        | true =>
          simp only [if_true, plain_f l hl, Option.bind_some]
          cases hpl : Tk.plain l with
          | true =>
            simp only [if_true, Bool.true_or, Bool.and_true, hn, ne_eq, not_false_eq_true, decide_true]
            exact hj true (fun _ h => by omega)
          | false =>
            simp only [Bool.false_eq_true, if_false, Bool.false_or, hn, ne_eq, not_false_eq_true, decide_true, Bool.true_and]
            by_cases hx : l = [33, 46]
            · simp only [if_pos hx]
              have e : (l == [33, 46] || !l.contains 46) = true := by simp [hx]
              rw [e]
              exact hj true (fun _ h => by omega)
            · simp only [if_neg hx]
              have e : (l == [33, 46] || !l.contains 46) = !l.contains 46 := by
                have : (l == [33, 46]) = false := by simpa using hx
                rw [this, Bool.false_or]
              rw [e]
              exact Ev.bind (f := fun k t => cinnabarref01_Check.j3 k (B l) (!t) 1 (B l) at_) (has_f l 46 (by omega)) (hj _ (fun _ h => by omega))
    · simp only [if_neg h1]
      by_cases h2 : kd = 2
      · subst h2
        rw [if_neg (by decide)]
        simp only [if_true]
        have e : endR (word capital l) 2 l = if word capital l = true then limitS l.length else 2 := by
          unfold endR
          cases hw : word capital l with
          | false => rfl
          | true =>
            have hlong : longR l = decide (40 < l.length) := by
              unfold longR
              cases l with
              | nil => rw [show Tk.plain [] = false from by decide]; simp
              | cons c t =>
                have hs : small c = false := by
                  have hc : capital c = true := by
                    simp only [word, Bool.and_eq_true] at hw
                    exact hw.1
                  have := u8_all (fun c => !capital c || !small c) (by decide +kernel) c
                  simpa [hc] using this
                simp [hs]
            simp [hlong, limitS]
        rw [← e]
        have hl0 := fun ok => word_l0 l 2 at_ hl (by decide) l 0 ok rfl
        have hj0 : ∀ ok, Ev (fun k => cinnabarref01_Check.j0 k (B l) ok 2 (B l) at_) (endR (ok && l.all letter) 2 l : Int) := fun ok =>
          Ev.step (f := fun k => cinnabarref01_Check.l0 k (B l) ok 0 2 (B l) at_) (fun k => by simp only [cinnabarref01_Check.j0]) (hl0 ok)
        cases l with
        | nil => simpa [word] using hj0 false
        | cons c t =>
          have hb : bt (B (c :: t)) 0 = (c.toNat : Int) := bt_cons (l := c :: t) (i := 0) rfl
          have hq : (0 : Int) < ((B (c :: t)).size : Int) := lt_cons (l := c :: t) (i := 0) rfl
          have hne : ¬ (c :: t = []) := by simp
          simp only [if_neg hne, if_pos hq, hb, capital_f, Option.bind_some]
          have := hj0 (capital c)
          simpa [word] using this
      · simp only [if_neg h2]
        by_cases h3 : kd = 3
        · subst h3
          rw [if_neg (by decide)]
          simp only [if_true]
          have hd := digit_l1 l 3 at_ hl l 0 (l != []) rfl (fun _ => rfl)
          have e : endR ((l != []) && l.all digit) 3 l = checkInt l := by
            unfold endR checkInt
            by_cases hn : l = []
            · simp [hn]
            · cases hda : l.all digit with
              | false => simp [hn]
              | true =>
                have := greatR_val l 0 hda (by omega)
                simp only [hn, bne_iff_ne, ne_eq, not_false_eq_true]
                rw [show (l != []) = true from by simpa using hn, this]
                simp [decVal]
                rfl
          rw [← e]
          exact hd
        · simp only [if_neg h3]
          by_cases h4 : kd = 4
          · subst h4
            rw [if_neg (by decide)]
            simp only [if_true]
            have e : endR (l.length == 1 && printable l true) 4 l = form (l.length == 1 && printable l true) := by
              unfold endR form
              cases (l.length == 1 && printable l true) <;> simp
            rw [← e]
            by_cases h1l : l.length = 1
            · rw [hsz]
              simp only [if_pos (show (l.length : Int) = 1 by omega), h1l, beq_self_eq_true, Bool.true_and]
              exact Ev.bind (f := fun k t => cinnabarref01_Check.j3 k (B l) t 4 (B l) at_) (all_f l true (by omega)) (hj _ (fun _ h => by omega))
            · rw [hsz]
              simp only [if_neg (show ¬ (l.length : Int) = 1 by omega)]
              rw [show (l.length == 1) = false from by simpa using h1l, Bool.false_and]
              exact hj false (fun _ h => by omega)
          · simp only [if_neg h4]
            by_cases h5 : kd = 5
            · subst h5
              rw [if_neg (by decide)]
              simp only [if_true]
              have e : endR (printable l true) 5 l = form (printable l true) := by
                unfold endR form
                cases (printable l true) <;> simp
              rw [← e]
              exact Ev.bind (f := fun k t => cinnabarref01_Check.j3 k (B l) t 5 (B l) at_) (all_f l true (by omega)) (hj _ (fun _ h => by omega))
            · simp only [if_neg h5]
              by_cases h6 : kd = 6
              · subst h6
                rw [if_neg (by decide)]
                simp only [if_true]
                rw [← puncts_check l]
                have e : ∀ b, endR b 6 l = form b := by
                  intro b
                  unfold endR form
                  cases b <;> simp
                rw [← e]
                by_cases hx : l = [40, 40]
                · simp only [if_pos hx]
                  exact hj true (fun _ h => by omega)
                · simp only [if_neg hx]
                  by_cases h1l : l.length = 1
                  · rw [hsz]
                    simp only [if_pos (show (l.length : Int) = 1 by omega), if_pos (show (0 : Int) < (l.length : Int) by omega), if_pos h1l]
                    cases l with
                    | nil => simp at h1l
                    | cons c t =>
                      have hb : bt (B (c :: t)) 0 = (c.toNat : Int) := bt_cons (l := c :: t) (i := 0) rfl
                      rw [hb]
                      exact Ev.bind (f := fun k t1 => cinnabarref01_Check.j3 k (B (c :: t)) t1 6 (B (c :: t)) at_) (has_f [40, 41, 91, 93, 123, 125, 44, 124] c (by decide)) (hj _ (fun _ h => by omega))
                  · rw [hsz]
                    simp only [if_neg (show ¬ (l.length : Int) = 1 by omega), if_neg h1l]
                    exact hj false (fun _ h => by omega)
              · simp only [if_neg h6]
                by_cases h7 : kd = 7
                · subst h7
                  simp only [if_true]
                  have e : endR (l == [46]) 7 l = form (l == [46]) := by
                    unfold endR form
                    cases (l == [46]) <;> simp
                  rw [← e]
                  exact hj _ (fun _ h => by omega)
                · simp only [if_neg h7]
                  exact Ev.now _
end Go.Proofs.YtgeonilideojnaaGreatDoor.Rf
namespace Go.Proofs.YtgeonilideojnaaGreatDoor.Pr
open Go.RowKit Go.Proofs.YtgeonilideojnaaGreatDoorW.PrintWords Go.Proofs.YtgeonilideojnaaGreatDoorW.PrintLast Go.Proofs.YtgeonilideojnaaGreatDoorW.PrintMore
attribute [local go_sem] max2_int min2_int max_two min_two max_three min_three max_four min_four   -- for this text's walks alone
set_option linter.unusedVariables false
set_option linter.unusedSimpArgs false
/-! ### cinnabarlaw01_TokensCheck: function 5 -/
def cinnabarlaw01_TokensCheck.f (k : Nat) (a0_0 : Int) (a0_1 : ByteArray) (a0_2 : Int) : Option (Bool) := if (a0_1.size : Int) > 400 then ((cinnabarlaw01_awake.f k).bind fun t204 => (some t204)) else ((TkC.Check.f a0_0 a0_1 a0_2).bind fun t205 => ((cinnabarref01_Check.f k a0_0 a0_1 a0_2).bind fun t206 => (if t205 = t206 then ((tokens_Name.f a0_1).bind fun t207 => ((cinnabarref01_Name.f k a0_1).bind fun t208 => (if t207.toList = t208.toList then ((cinnabarlaw01_awake.f k).bind fun t209 => (some t209)) else (some false)))) else (some false))))
def cinnabarlaw01_TokensCheck.T3 : Bool × List (List Nat × List Nat) := (true, [([], []), ([0], [0]), ([], []), ([2, 1], [2]), ([1, 3], [1, 3]), ([4, 3], [4]), ([5], [5]), ([6, 5], [5, 6]), ([7, 5, 5], [5, 7]), ([5], [5]), ([9, 5], [5, 9]), ([10, 8, 5], [5, 10]), ([8, 11, 5], [5, 8, 11]), ([5, 12], [5, 12]), ([13, 11], [13]), ([14, 14], [14]), ([14, 15], [14, 15]), ([16, 15, 0, 1, 2, 3, 4, 5, 6, 7, 8, 9, 10, 11, 12, 13, 14, 15, 16], [16])])
def cinnabarlaw01_TokensCheck.B3 : List Nat := [0, 1, 0, 7, 15, 31, 63, 127, 255, 63, 575, 2047, 4095, 8191, 16383, 32767, 65535, 131071]
theorem cinnabarlaw01_TokensCheck.tab3 : rtab .any (opsOf Tryz.f5 3) = cinnabarlaw01_TokensCheck.T3 := by kernel_rfl
theorem cinnabarlaw01_TokensCheck.bits3 : waitsOk cinnabarlaw01_TokensCheck.T3.2 cinnabarlaw01_TokensCheck.B3 = true := by kernel_rfl
set_option maxHeartbeats 8000000 in
set_option maxRecDepth 100000 in
theorem cinnabarlaw01_TokensCheck.calls (k : Nat) (a0_0 : Int) (a0_1 : ByteArray) (a0_2 : Int) (r : Bool) (w : World) (hEnv : EnvW w) (h : cinnabarlaw01_TokensCheck.f k a0_0 a0_1 a0_2 = some r) :
    Calls Tryz.prog 5 #[.agg #[.int .i64 a0_0, .string a0_1, .int .i64 a0_2]] w fun e w' => e = .returned (.bool r) ∧ Below w.heap.size w w' := by
  have hu35 := Tryz.underlying35
  have HB := Aside0.mk (Below.refl w.heap.size w)
  have H : (if (a0_1.size : Int) > 400 then ((cinnabarlaw01_awake.f k).bind fun t204 => (some t204)) else ((TkC.Check.f a0_0 a0_1 a0_2).bind fun t205 => ((cinnabarref01_Check.f k a0_0 a0_1 a0_2).bind fun t206 => (if t205 = t206 then ((tokens_Name.f a0_1).bind fun t207 => ((cinnabarref01_Name.f k a0_1).bind fun t208 => (if t207.toList = t208.toList then ((cinnabarlaw01_awake.f k).bind fun t209 => (some t209)) else (some false)))) else (some false))))) = some r := h
  clear h
  by_cases c2 : (a0_1.size : Int) > 400
  · rw [if_pos c2] at H
    have c2b0 : decide (400 < (a0_1.size : Int)) = true := decide_eq_true c2
    have c2b1 : decide (400 < a0_1.size) = true := decide_eq_true (by omega)
    clear c2
    replace H := Option.bind_eq_some_iff.mp H
    obtain ⟨t204, A30, H⟩ := H
    replace H : (some t204) = some r := H
    have A3 := Aside0.mk A30
    clear A30
    obtain rfl := Option.some.inj H
    go_enter Tryz.func5, Tryz.ntmps5
    go_wp2_with (first | ((with_reducible refine gate_dst (N := 1) rfl ?_); refine box_event ?hg (N := 1) ?hd (cs := #[.int .i64 a0_0, .string a0_1, .int .i64 a0_2]) (t := 35) ?hr ?_; (case hd => rfl); (case hg => rfl); (case hr => first | (go_simp; done) | (go_simp; rfl)); intro gb203 hg w4 hbox hb; have n0_ := Aside0.mk (below_step (by repeat (first | (with_reducible first | exact HB.out | apply below_alloc | apply pw_below_drewN | apply below_drew1) | exact HB.out)) hb); have n1_ := Aside0.mk (hbox); have n2_ := Aside0.mk ((by rw [hg]; exact (below_size (by repeat (first | (with_reducible first | exact HB.out | apply below_alloc | apply pw_below_drewN | apply below_drew1) | exact HB.out))) : w.heap.size ≤ gb203)); have n3_ := Aside0.mk ((by rw [hg]; exact (below_size (by repeat (first | (with_reducible first | exact HB.out | apply below_alloc | apply pw_below_drewN | apply below_drew1) | exact HB.out))) : w.heap.size ≤ gb203)); clear HB; have HB := n0_; have BK203 := n1_; have GW203 := n2_; have GE203 := n3_; clear n0_ n1_ n2_ n3_; clear hb hbox hg; have hcz5_0 : w4.cell? ⟨gb203, 0, none⟩ = some (.int .i64 a0_0) := (blk_cell BK203.out 0).trans rfl; have hcz5_1 : w4.cell? ⟨gb203, 1, none⟩ = some (.string a0_1) := (blk_cell BK203.out 1).trans rfl; have hcz5_2 : w4.cell? ⟨gb203, 2, none⟩ = some (.int .i64 a0_2) := (blk_cell BK203.out 2).trans rfl; have hfz5_0 := blk_frozen BK203.out 0; have hfz5_1 := blk_frozen BK203.out 1; have hfz5_2 := blk_frozen BK203.out 2) | ((with_reducible refine gate_callee (f := 9) rfl ?_); refine goesL_ (some 7) rfl rfl Tryz.func9 (by kernel_rfl) rfl #[] rfl (by (try simp only [List.map_toArray, List.map_cons, List.map_nil]); first | done | rfl | (simp only [List.length_drop, List.length_take]; rfl)) ?_; (with_reducible refine (cinnabarlaw01_awake.calls k  t204 _ ?side1 A3.out).mono ?_); (case side1 => first | exact hEnv | exact EnvW.below hEnv (by repeat (first | (with_reducible first | exact HB.out | apply below_alloc | apply pw_below_drewN | apply below_drew1 | refine below_set ?_ GE203.out) | exact HB.out)) | exact hEnv.drewN _); rintro e w6 ⟨rfl, hb⟩; refine ⟨_, rfl, ?_⟩; have n0_ := Aside0.mk (blk_below (g := gb203) (o := .cells #[.int .i64 a0_0, .string a0_1, .int .i64 a0_2] 35 (0, 0)) (by (with_reducible repeat (first | refine blk_drewN ?_ _ | refine blk_drew ?_ | refine blk_alloc ?_ _)); exact BK203.out) hb); have n1_ := Aside0.mk (below_step (by repeat (first | (with_reducible first | exact HB.out | apply below_alloc | apply pw_below_drewN | apply below_drew1 | refine below_set ?_ GE203.out) | exact HB.out)) hb); clear BK203; clear HB; have BK203 := n0_; have HB := n1_; clear n0_ n1_; (try clear hb); (try clear hb2); (try clear hk); (try clear hi)))
    go_ret
    exact ⟨by first | rfl | (simp [errW_none, errW_some] <;> rfl) | (simp [*, errW_none, errW_some] <;> rfl), by repeat (first | (with_reducible first | exact HB.out | apply below_alloc | apply pw_below_drewN | apply below_drew1 | refine below_set ?_ GE203.out) | exact HB.out)⟩
  · as_aux_lemma =>
      rw [if_neg c2] at H
      have c2b0 : decide (400 < (a0_1.size : Int)) = false := decide_eq_false c2
      have c2b1 : decide (400 < a0_1.size) = false := decide_eq_false (by omega)
      clear c2
      replace H := Option.bind_eq_some_iff.mp H
      obtain ⟨t205, A70, H⟩ := H
      replace H : ((cinnabarref01_Check.f k a0_0 a0_1 a0_2).bind fun t206 => (if t205 = t206 then ((tokens_Name.f a0_1).bind fun t207 => ((cinnabarref01_Name.f k a0_1).bind fun t208 => (if t207.toList = t208.toList then ((cinnabarlaw01_awake.f k).bind fun t209 => (some t209)) else (some false)))) else (some false))) = some r := H
      have A7 := Aside0.mk A70
      clear A70
      replace H := Option.bind_eq_some_iff.mp H
      obtain ⟨t206, A80, H⟩ := H
      replace H : (if t205 = t206 then ((tokens_Name.f a0_1).bind fun t207 => ((cinnabarref01_Name.f k a0_1).bind fun t208 => (if t207.toList = t208.toList then ((cinnabarlaw01_awake.f k).bind fun t209 => (some t209)) else (some false)))) else (some false)) = some r := H
      have A8 := Aside0.mk A80
      clear A80
      by_cases c9 : t205 = t206
      · as_aux_lemma =>
          rw [if_pos c9] at H
          have c9b0 : (t205 == t206) = true := beq_iff_eq.mpr c9
          have c9b1 : (t205 != t206) = false := bne_eq_false_iff_eq.mpr c9
          clear c9
          replace H := Option.bind_eq_some_iff.mp H
          obtain ⟨t207, A100, H⟩ := H
          replace H : ((cinnabarref01_Name.f k a0_1).bind fun t208 => (if t207.toList = t208.toList then ((cinnabarlaw01_awake.f k).bind fun t209 => (some t209)) else (some false))) = some r := H
          have A10 := Aside0.mk A100
          clear A100
          replace H := Option.bind_eq_some_iff.mp H
          obtain ⟨t208, A110, H⟩ := H
          replace H : (if t207.toList = t208.toList then ((cinnabarlaw01_awake.f k).bind fun t209 => (some t209)) else (some false)) = some r := H
          have A11 := Aside0.mk A110
          clear A110
          by_cases c12 : t207.toList = t208.toList
          · as_aux_lemma =>
              rw [if_pos c12] at H
              have c12b0 : (t207.toList == t208.toList) = true := beq_iff_eq.mpr c12
              have c12b1 : (t207.toList != t208.toList) = false := bne_eq_false_iff_eq.mpr c12
              clear c12
              replace H := Option.bind_eq_some_iff.mp H
              obtain ⟨t209, A130, H⟩ := H
              replace H : (some t209) = some r := H
              have A13 := Aside0.mk A130
              clear A130
              obtain rfl := Option.some.inj H
              go_enter Tryz.func5, Tryz.ntmps5
              try go_wp2_with (first | ((with_reducible refine gate_dst (N := 1) rfl ?_); refine box_event ?hg (N := 1) ?hd (cs := #[.int .i64 a0_0, .string a0_1, .int .i64 a0_2]) (t := 35) ?hr ?_; (case hd => rfl); (case hg => rfl); (case hr => first | (go_simp; done) | (go_simp; rfl)); intro gb203 hg w14 hbox hb; have n0_ := Aside0.mk (below_step (by repeat (first | (with_reducible first | exact HB.out | apply below_alloc | apply pw_below_drewN | apply below_drew1) | exact HB.out)) hb); have n1_ := Aside0.mk (hbox); have n2_ := Aside0.mk ((by rw [hg]; exact (below_size (by repeat (first | (with_reducible first | exact HB.out | apply below_alloc | apply pw_below_drewN | apply below_drew1) | exact HB.out))) : w.heap.size ≤ gb203)); have n3_ := Aside0.mk ((by rw [hg]; exact (below_size (by repeat (first | (with_reducible first | exact HB.out | apply below_alloc | apply pw_below_drewN | apply below_drew1) | exact HB.out))) : w.heap.size ≤ gb203)); clear HB; have HB := n0_; have BK203 := n1_; have GW203 := n2_; have GE203 := n3_; clear n0_ n1_ n2_ n3_; clear hb hbox hg; have hcz15_0 : w14.cell? ⟨gb203, 0, none⟩ = some (.int .i64 a0_0) := (blk_cell BK203.out 0).trans rfl; have hcz15_1 : w14.cell? ⟨gb203, 1, none⟩ = some (.string a0_1) := (blk_cell BK203.out 1).trans rfl; have hcz15_2 : w14.cell? ⟨gb203, 2, none⟩ = some (.int .i64 a0_2) := (blk_cell BK203.out 2).trans rfl; have hfz15_0 := blk_frozen BK203.out 0; have hfz15_1 := blk_frozen BK203.out 1; have hfz15_2 := blk_frozen BK203.out 2))
              have n0_ := Aside0.mk (blk_drew BK203.out)
              have n1_ := Aside0.mk (below_drew1 HB.out)
              clear BK203
              clear HB
              have BK203 := n0_
              have HB := n1_
              clear n0_ n1_
              refine start_ (n := 18) (S := fun w' => w'.cell? ⟨gb203, 0, none⟩ = some (.int .i64 a0_0) ∧ w'.cell? ⟨gb203, 1, none⟩ = some (.string a0_1) ∧ w'.cell? ⟨gb203, 2, none⟩ = some (.int .i64 a0_2)) (ds := []) #[false, false, false, false, false, false, false, false, false, false, false, false, false, false, false, false, false, false] (by kernel_rfl) rfl rfl ⟨(blk_cell BK203.out 0).trans rfl, (blk_cell BK203.out 1).trans rfl, (blk_cell BK203.out 2).trans rfl⟩ (fun hHeld => ?_); refine with_tabW cinnabarlaw01_TokensCheck.tab3 cinnabarlaw01_TokensCheck.bits3 (fun HT_ HW_ => ?_)
              generalize w14.drew = w16 at BK203 HB hHeld ⊢
              refine take_ (i := 0) (N := some 8) (v := ?_) (a' := ?_) #[true, false, false, false, false, false, false, false, false, false, false, false, false, false, false, false, false, false] rfl rfl (take_ofW HT_.out HW_.out (by kernel_rfl)) (fun _ _ _ h => h) (Or.inl ⟨by rfl, ?_⟩) hHeld ?_ ?_
              rotate_left
              · rintro w' ⟨s0, s1, s2⟩
                go_simp
                with_reducible rfl
              rotate_left
              · simp only [Act.put, List.setIfInBounds_toArray, List.set_cons_zero, List.set_cons_succ, i64_w, i32_w]
                rfl
              refine take_ (i := 2) (N := some 10) (v := ?_) (a' := ?_) #[true, false, true, false, false, false, false, false, false, false, false, false, false, false, false, false, false, false] rfl rfl (take_ofW HT_.out HW_.out (by kernel_rfl)) (fun _ _ _ h => h) (Or.inl ⟨by rfl, ?_⟩) hHeld ?_ ?_
              rotate_left
              · rintro w' ⟨s0, s1, s2⟩
                go_simp
                with_reducible rfl
              rotate_left
              · simp only [Act.put, List.setIfInBounds_toArray, List.set_cons_zero, List.set_cons_succ, i64_w, i32_w]
                rfl
              refine one_ (i := 1) (N := some 9) #[true, true, true, false, false, false, false, false, false, false, false, false, false, false, false, false, false, false] rfl rfl (one_of HT_.out (by kernel_rfl)) (by decide) (fun K hK => ?_)
              refine goes_ Tryz.func16 (by kernel_rfl) rfl #[.agg #[.int .i64 a0_0, .string a0_1, .int .i64 a0_2]] (by rfl) rfl rfl (by (try simp only [List.map_toArray, List.map_cons, List.map_nil]); first | done | rfl | (simp only [List.length_drop, List.length_take]; rfl)) ?_
              with_reducible refine (TkC.Check.calls a0_0 a0_1 a0_2 t205 _ ?side1 A7.out).mono ?_
              (case side1 => first | exact hEnv | exact EnvW.below hEnv (by repeat (first | (with_reducible first | exact HB.out | apply below_alloc | apply pw_below_drewN | apply below_drew1 | refine below_set ?_ GE203.out) | exact HB.out)) | exact hEnv.drewN _)
              rintro e w17 ⟨rfl, hb⟩
              refine ⟨_, rfl, ?_⟩
              have n0_ := Aside0.mk (blk_below (g := gb203) (o := .cells #[.int .i64 a0_0, .string a0_1, .int .i64 a0_2] 35 (0, 0)) (by (with_reducible repeat (first | refine blk_drewN ?_ _ | refine blk_drew ?_ | refine blk_alloc ?_ _)); exact BK203.out) hb)
              have n1_ := Aside0.mk (below_step (by repeat (first | (with_reducible first | exact HB.out | apply below_alloc | apply pw_below_drewN | apply below_drew1 | refine below_set ?_ GE203.out) | exact HB.out)) hb)
              clear BK203
              clear HB
              have BK203 := n0_
              have HB := n1_
              clear n0_ n1_
              (try clear hb)
              (try clear hb2)
              (try clear hk)
              (try clear hi)
              refine hK.out _ _ ⟨(blk_cell BK203.out 0).trans rfl, (blk_cell BK203.out 1).trans rfl, (blk_cell BK203.out 2).trans rfl⟩ (fun hHeld => ?_)
              clear hK K
              refine norm_ (a' := ?_) ?_ ?_
              rotate_left
              · show Act.put _ (some 9) _ = _
                simp only [Act.put, List.setIfInBounds_toArray, List.set_cons_zero, List.set_cons_succ, i64_w, i32_w]
                rfl
              refine one_ (i := 3) (N := some 11) #[true, true, true, true, false, false, false, false, false, false, false, false, false, false, false, false, false, false] rfl rfl (one_of HT_.out (by kernel_rfl)) (by decide) (fun K hK => ?_)
              refine goes_ Tryz.func17 (by kernel_rfl) rfl #[.agg #[.int .i64 a0_0, .string a0_1, .int .i64 a0_2]] (by rfl) rfl rfl (by (try simp only [List.map_toArray, List.map_cons, List.map_nil]); first | done | rfl | (simp only [List.length_drop, List.length_take]; rfl)) ?_
              with_reducible refine (cinnabarref01_Check.calls k a0_0 a0_1 a0_2 t206 _ A8.out).mono ?_
              rintro e w18 ⟨rfl, hb⟩
              refine ⟨_, rfl, ?_⟩
              have n0_ := Aside0.mk (blk_below (g := gb203) (o := .cells #[.int .i64 a0_0, .string a0_1, .int .i64 a0_2] 35 (0, 0)) (by (with_reducible repeat (first | refine blk_drewN ?_ _ | refine blk_drew ?_ | refine blk_alloc ?_ _)); exact BK203.out) hb)
              have n1_ := Aside0.mk (below_step (by repeat (first | (with_reducible first | exact HB.out | apply below_alloc | apply pw_below_drewN | apply below_drew1 | refine below_set ?_ GE203.out) | exact HB.out)) hb)
              clear BK203
              clear HB
              have BK203 := n0_
              have HB := n1_
              clear n0_ n1_
              (try clear hb)
              (try clear hb2)
              (try clear hk)
              (try clear hi)
              refine hK.out _ _ ⟨(blk_cell BK203.out 0).trans rfl, (blk_cell BK203.out 1).trans rfl, (blk_cell BK203.out 2).trans rfl⟩ (fun hHeld => ?_)
              clear hK K
              refine norm_ (a' := ?_) ?_ ?_
              rotate_left
              · show Act.put _ (some 11) _ = _
                simp only [Act.put, List.setIfInBounds_toArray, List.set_cons_zero, List.set_cons_succ, i64_w, i32_w]
                rfl
              refine pure_ (i := 4) (N := some 12) (v := ?_) (a' := ?_) #[true, true, true, true, true, false, false, false, false, false, false, false, false, false, false, false, false, false] rfl rfl (any_of HT_.out (by kernel_rfl)) (fun _ _ _ h => h) (Or.inl ⟨by rfl, ?_⟩) ?_ ?_
              rotate_left
              · intro w'
                go_simp
                with_reducible rfl
              rotate_left
              · simp only [Act.put, List.setIfInBounds_toArray, List.set_cons_zero, List.set_cons_succ, i64_w, i32_w]
                rfl
              refine pure_ (i := 5) (N := some 13) (v := ?_) (a' := ?_) #[true, true, true, true, true, true, false, false, false, false, false, false, false, false, false, false, false, false] rfl rfl (any_of HT_.out (by kernel_rfl)) (fun _ _ _ h => h) (Or.inl ⟨by rfl, ?_⟩) ?_ ?_
              rotate_left
              · intro w'
                go_simp
                with_reducible rfl
              rotate_left
              · simp only [Act.put, List.setIfInBounds_toArray, List.set_cons_zero, List.set_cons_succ, i64_w, i32_w]
                rfl
              refine pure_ (i := 6) (N := some 14) (v := ?_) (a' := ?_) #[true, true, true, true, true, true, true, false, false, false, false, false, false, false, false, false, false, false] rfl rfl (any_of HT_.out (by kernel_rfl)) (fun _ _ _ h => h) (Or.inl ⟨by rfl, ?_⟩) ?_ ?_
              rotate_left
              · intro w'
                go_simp
                with_reducible rfl
              rotate_left
              · simp only [Act.put, List.setIfInBounds_toArray, List.set_cons_zero, List.set_cons_succ, i64_w, i32_w]
                rfl
              refine pure_ (i := 9) (N := some 17) (v := ?_) (a' := ?_) #[true, true, true, true, true, true, true, false, false, true, false, false, false, false, false, false, false, false] rfl rfl (any_of HT_.out (by kernel_rfl)) (fun _ _ _ h => h) (Or.inl ⟨by rfl, ?_⟩) ?_ ?_
              rotate_left
              · intro w'
                go_simp
                with_reducible rfl
              rotate_left
              · simp only [Act.put, List.setIfInBounds_toArray, List.set_cons_zero, List.set_cons_succ, i64_w, i32_w]
                rfl
              refine take_ (i := 7) (N := some 15) (v := ?_) (a' := ?_) #[true, true, true, true, true, true, true, true, false, true, false, false, false, false, false, false, false, false] rfl rfl (take_ofW HT_.out HW_.out (by kernel_rfl)) (fun _ _ _ h => h) (Or.inl ⟨by rfl, ?_⟩) hHeld ?_ ?_
              rotate_left
              · rintro w' ⟨s0, s1, s2⟩
                go_simp
                with_reducible rfl
              rotate_left
              · simp only [Act.put, List.setIfInBounds_toArray, List.set_cons_zero, List.set_cons_succ, i64_w, i32_w]
                rfl
              refine take_ (i := 10) (N := some 18) (v := ?_) (a' := ?_) #[true, true, true, true, true, true, true, true, false, true, true, false, false, false, false, false, false, false] rfl rfl (take_ofW HT_.out HW_.out (by kernel_rfl)) (fun _ _ _ h => h) (Or.inl ⟨by rfl, ?_⟩) hHeld ?_ ?_
              rotate_left
              · rintro w' ⟨s0, s1, s2⟩
                go_simp
                with_reducible rfl
              rotate_left
              · simp only [Act.put, List.setIfInBounds_toArray, List.set_cons_zero, List.set_cons_succ, i64_w, i32_w]
                rfl
              refine one_ (i := 8) (N := some 16) #[true, true, true, true, true, true, true, true, true, true, true, false, false, false, false, false, false, false] rfl rfl (one_of HT_.out (by kernel_rfl)) (by decide) (fun K hK => ?_)
              refine goes_ Tryz.func18 (by kernel_rfl) rfl #[.string a0_1] (by rfl) rfl rfl (by (try simp only [List.map_toArray, List.map_cons, List.map_nil]); first | done | rfl | (simp only [List.length_drop, List.length_take]; rfl)) ?_
              with_reducible refine (tokens_Name.calls a0_1 t207 _ ?side1 A10.out).mono ?_
              (case side1 => first | exact hEnv | exact EnvW.below hEnv (by repeat (first | (with_reducible first | exact HB.out | apply below_alloc | apply pw_below_drewN | apply below_drew1 | refine below_set ?_ GE203.out) | exact HB.out)) | exact hEnv.drewN _)
              rintro e w19 ⟨rfl, hb⟩
              refine ⟨_, rfl, ?_⟩
              have n0_ := Aside0.mk (blk_below (g := gb203) (o := .cells #[.int .i64 a0_0, .string a0_1, .int .i64 a0_2] 35 (0, 0)) (by (with_reducible repeat (first | refine blk_drewN ?_ _ | refine blk_drew ?_ | refine blk_alloc ?_ _)); exact BK203.out) hb)
              have n1_ := Aside0.mk (below_step (by repeat (first | (with_reducible first | exact HB.out | apply below_alloc | apply pw_below_drewN | apply below_drew1 | refine below_set ?_ GE203.out) | exact HB.out)) hb)
              clear BK203
              clear HB
              have BK203 := n0_
              have HB := n1_
              clear n0_ n1_
              (try clear hb)
              (try clear hb2)
              (try clear hk)
              (try clear hi)
              refine hK.out _ _ ⟨(blk_cell BK203.out 0).trans rfl, (blk_cell BK203.out 1).trans rfl, (blk_cell BK203.out 2).trans rfl⟩ (fun hHeld => ?_)
              clear hK K
              refine norm_ (a' := ?_) ?_ ?_
              rotate_left
              · show Act.put _ (some 16) _ = _
                simp only [Act.put, List.setIfInBounds_toArray, List.set_cons_zero, List.set_cons_succ, i64_w, i32_w]
                rfl
              refine one_ (i := 11) (N := some 19) #[true, true, true, true, true, true, true, true, true, true, true, true, false, false, false, false, false, false] rfl rfl (one_of HT_.out (by kernel_rfl)) (by decide) (fun K hK => ?_)
              refine goes_ Tryz.func19 (by kernel_rfl) rfl #[.string a0_1] (by rfl) rfl rfl (by (try simp only [List.map_toArray, List.map_cons, List.map_nil]); first | done | rfl | (simp only [List.length_drop, List.length_take]; rfl)) ?_
              with_reducible refine (cinnabarref01_Name.calls k a0_1 t208 _ A11.out).mono ?_
              rintro e w20 ⟨rfl, hb⟩
              refine ⟨_, rfl, ?_⟩
              have n0_ := Aside0.mk (blk_below (g := gb203) (o := .cells #[.int .i64 a0_0, .string a0_1, .int .i64 a0_2] 35 (0, 0)) (by (with_reducible repeat (first | refine blk_drewN ?_ _ | refine blk_drew ?_ | refine blk_alloc ?_ _)); exact BK203.out) hb)
              have n1_ := Aside0.mk (below_step (by repeat (first | (with_reducible first | exact HB.out | apply below_alloc | apply pw_below_drewN | apply below_drew1 | refine below_set ?_ GE203.out) | exact HB.out)) hb)
              clear BK203
              clear HB
              have BK203 := n0_
              have HB := n1_
              clear n0_ n1_
              (try clear hb)
              (try clear hb2)
              (try clear hk)
              (try clear hi)
              refine hK.out _ _ ⟨(blk_cell BK203.out 0).trans rfl, (blk_cell BK203.out 1).trans rfl, (blk_cell BK203.out 2).trans rfl⟩ (fun hHeld => ?_)
              clear hK K
              refine norm_ (a' := ?_) ?_ ?_
              rotate_left
              · show Act.put _ (some 19) _ = _
                simp only [Act.put, List.setIfInBounds_toArray, List.set_cons_zero, List.set_cons_succ, i64_w, i32_w]
                rfl
              refine pure_ (i := 12) (N := some 20) (v := ?_) (a' := ?_) #[true, true, true, true, true, true, true, true, true, true, true, true, true, false, false, false, false, false] rfl rfl (any_of HT_.out (by kernel_rfl)) (fun _ _ _ h => h) (Or.inl ⟨by rfl, ?_⟩) ?_ ?_
              rotate_left
              · intro w'
                go_simp
                with_reducible rfl
              rotate_left
              · simp only [Act.put, List.setIfInBounds_toArray, List.set_cons_zero, List.set_cons_succ, i64_w, i32_w]
                rfl
              refine pure_ (i := 13) (N := some 21) (v := ?_) (a' := ?_) #[true, true, true, true, true, true, true, true, true, true, true, true, true, true, false, false, false, false] rfl rfl (any_of HT_.out (by kernel_rfl)) (fun _ _ _ h => h) (Or.inl ⟨by rfl, ?_⟩) ?_ ?_
              rotate_left
              · intro w'
                go_simp
                with_reducible rfl
              rotate_left
              · simp only [Act.put, List.setIfInBounds_toArray, List.set_cons_zero, List.set_cons_succ, i64_w, i32_w]
                rfl
              refine pure_ (i := 14) (N := some 22) (v := ?_) (a' := ?_) #[true, true, true, true, true, true, true, true, true, true, true, true, true, true, true, false, false, false] rfl rfl (any_of HT_.out (by kernel_rfl)) (fun _ _ _ h => h) (Or.inl ⟨by rfl, ?_⟩) ?_ ?_
              rotate_left
              · intro w'
                go_simp
                with_reducible rfl
              rotate_left
              · simp only [Act.put, List.setIfInBounds_toArray, List.set_cons_zero, List.set_cons_succ, i64_w, i32_w]
                rfl
              refine one_ (i := 15) (N := some 23) #[true, true, true, true, true, true, true, true, true, true, true, true, true, true, true, true, false, false] rfl rfl (one_of HT_.out (by kernel_rfl)) (by decide) (fun K hK => ?_)
              refine goes_ Tryz.func9 (by kernel_rfl) rfl #[] (by rfl) rfl rfl (by (try simp only [List.map_toArray, List.map_cons, List.map_nil]); first | done | rfl | (simp only [List.length_drop, List.length_take]; rfl)) ?_
              with_reducible refine (cinnabarlaw01_awake.calls k  t209 _ ?side1 A13.out).mono ?_
              (case side1 => first | exact hEnv | exact EnvW.below hEnv (by repeat (first | (with_reducible first | exact HB.out | apply below_alloc | apply pw_below_drewN | apply below_drew1 | refine below_set ?_ GE203.out) | exact HB.out)) | exact hEnv.drewN _)
              rintro e w21 ⟨rfl, hb⟩
              refine ⟨_, rfl, ?_⟩
              have n0_ := Aside0.mk (blk_below (g := gb203) (o := .cells #[.int .i64 a0_0, .string a0_1, .int .i64 a0_2] 35 (0, 0)) (by (with_reducible repeat (first | refine blk_drewN ?_ _ | refine blk_drew ?_ | refine blk_alloc ?_ _)); exact BK203.out) hb)
              have n1_ := Aside0.mk (below_step (by repeat (first | (with_reducible first | exact HB.out | apply below_alloc | apply pw_below_drewN | apply below_drew1 | refine below_set ?_ GE203.out) | exact HB.out)) hb)
              clear BK203
              clear HB
              have BK203 := n0_
              have HB := n1_
              clear n0_ n1_
              (try clear hb)
              (try clear hb2)
              (try clear hk)
              (try clear hi)
              refine hK.out _ _ ⟨(blk_cell BK203.out 0).trans rfl, (blk_cell BK203.out 1).trans rfl, (blk_cell BK203.out 2).trans rfl⟩ (fun hHeld => ?_)
              clear hK K
              refine norm_ (a' := ?_) ?_ ?_
              rotate_left
              · show Act.put _ (some 23) _ = _
                simp only [Act.put, List.setIfInBounds_toArray, List.set_cons_zero, List.set_cons_succ, i64_w, i32_w]
                rfl
              refine pure_ (i := 16) (N := some 24) (v := ?_) (a' := ?_) #[true, true, true, true, true, true, true, true, true, true, true, true, true, true, true, true, true, false] rfl rfl (any_of HT_.out (by kernel_rfl)) (fun _ _ _ h => h) (Or.inl ⟨by rfl, ?_⟩) ?_ ?_
              rotate_left
              · intro w'
                go_simp
                with_reducible rfl
              rotate_left
              · simp only [Act.put, List.setIfInBounds_toArray, List.set_cons_zero, List.set_cons_succ, i64_w, i32_w]
                rfl
              refine pure_ (i := 17) (N := some 2) (v := ?_) (a' := ?_) #[true, true, true, true, true, true, true, true, true, true, true, true, true, true, true, true, true, true] rfl rfl (any_of HT_.out (by kernel_rfl)) (fun _ _ _ h => h) (Or.inl ⟨by rfl, ?_⟩) ?_ ?_
              rotate_left
              · intro w'
                go_simp
                with_reducible rfl
              rotate_left
              · simp only [Act.put, List.setIfInBounds_toArray, List.set_cons_zero, List.set_cons_succ, i64_w, i32_w]
                rfl
              refine done_ (done_of HT_.out (by kernel_rfl)) ?_
              try go_wp2
              go_ret
              exact ⟨by first | rfl | (simp [errW_none, errW_some] <;> rfl) | (simp [*, errW_none, errW_some] <;> rfl), by repeat (first | (with_reducible first | exact HB.out | apply below_alloc | apply pw_below_drewN | apply below_drew1 | refine below_set ?_ GE203.out) | exact HB.out)⟩
          · as_aux_lemma =>
              rw [if_neg c12] at H
              have c12b0 : (t207.toList == t208.toList) = false := beq_eq_false_iff_ne.mpr c12
              have c12b1 : (t207.toList != t208.toList) = true := bne_iff_ne.mpr c12
              obtain rfl := Option.some.inj H
              go_enter Tryz.func5, Tryz.ntmps5
              try go_wp2_with (first | ((with_reducible refine gate_dst (N := 1) rfl ?_); refine box_event ?hg (N := 1) ?hd (cs := #[.int .i64 a0_0, .string a0_1, .int .i64 a0_2]) (t := 35) ?hr ?_; (case hd => rfl); (case hg => rfl); (case hr => first | (go_simp; done) | (go_simp; rfl)); intro gb203 hg w22 hbox hb; have n0_ := Aside0.mk (below_step (by repeat (first | (with_reducible first | exact HB.out | apply below_alloc | apply pw_below_drewN | apply below_drew1) | exact HB.out)) hb); have n1_ := Aside0.mk (hbox); have n2_ := Aside0.mk ((by rw [hg]; exact (below_size (by repeat (first | (with_reducible first | exact HB.out | apply below_alloc | apply pw_below_drewN | apply below_drew1) | exact HB.out))) : w.heap.size ≤ gb203)); have n3_ := Aside0.mk ((by rw [hg]; exact (below_size (by repeat (first | (with_reducible first | exact HB.out | apply below_alloc | apply pw_below_drewN | apply below_drew1) | exact HB.out))) : w.heap.size ≤ gb203)); clear HB; have HB := n0_; have BK203 := n1_; have GW203 := n2_; have GE203 := n3_; clear n0_ n1_ n2_ n3_; clear hb hbox hg; have hcz23_0 : w22.cell? ⟨gb203, 0, none⟩ = some (.int .i64 a0_0) := (blk_cell BK203.out 0).trans rfl; have hcz23_1 : w22.cell? ⟨gb203, 1, none⟩ = some (.string a0_1) := (blk_cell BK203.out 1).trans rfl; have hcz23_2 : w22.cell? ⟨gb203, 2, none⟩ = some (.int .i64 a0_2) := (blk_cell BK203.out 2).trans rfl; have hfz23_0 := blk_frozen BK203.out 0; have hfz23_1 := blk_frozen BK203.out 1; have hfz23_2 := blk_frozen BK203.out 2))
              have n0_ := Aside0.mk (blk_drew BK203.out)
              have n1_ := Aside0.mk (below_drew1 HB.out)
              clear BK203
              clear HB
              have BK203 := n0_
              have HB := n1_
              clear n0_ n1_
              refine start_ (n := 18) (S := fun w' => w'.cell? ⟨gb203, 0, none⟩ = some (.int .i64 a0_0) ∧ w'.cell? ⟨gb203, 1, none⟩ = some (.string a0_1) ∧ w'.cell? ⟨gb203, 2, none⟩ = some (.int .i64 a0_2)) (ds := []) #[false, false, false, false, false, false, false, false, false, false, false, false, false, false, false, false, false, false] (by kernel_rfl) rfl rfl ⟨(blk_cell BK203.out 0).trans rfl, (blk_cell BK203.out 1).trans rfl, (blk_cell BK203.out 2).trans rfl⟩ (fun hHeld => ?_); refine with_tabW cinnabarlaw01_TokensCheck.tab3 cinnabarlaw01_TokensCheck.bits3 (fun HT_ HW_ => ?_)
              generalize w22.drew = w24 at BK203 HB hHeld ⊢
              refine take_ (i := 0) (N := some 8) (v := ?_) (a' := ?_) #[true, false, false, false, false, false, false, false, false, false, false, false, false, false, false, false, false, false] rfl rfl (take_ofW HT_.out HW_.out (by kernel_rfl)) (fun _ _ _ h => h) (Or.inl ⟨by rfl, ?_⟩) hHeld ?_ ?_
              rotate_left
              · rintro w' ⟨s0, s1, s2⟩
                go_simp
                with_reducible rfl
              rotate_left
              · simp only [Act.put, List.setIfInBounds_toArray, List.set_cons_zero, List.set_cons_succ, i64_w, i32_w]
                rfl
              refine take_ (i := 2) (N := some 10) (v := ?_) (a' := ?_) #[true, false, true, false, false, false, false, false, false, false, false, false, false, false, false, false, false, false] rfl rfl (take_ofW HT_.out HW_.out (by kernel_rfl)) (fun _ _ _ h => h) (Or.inl ⟨by rfl, ?_⟩) hHeld ?_ ?_
              rotate_left
              · rintro w' ⟨s0, s1, s2⟩
                go_simp
                with_reducible rfl
              rotate_left
              · simp only [Act.put, List.setIfInBounds_toArray, List.set_cons_zero, List.set_cons_succ, i64_w, i32_w]
                rfl
              refine one_ (i := 1) (N := some 9) #[true, true, true, false, false, false, false, false, false, false, false, false, false, false, false, false, false, false] rfl rfl (one_of HT_.out (by kernel_rfl)) (by decide) (fun K hK => ?_)
              refine goes_ Tryz.func16 (by kernel_rfl) rfl #[.agg #[.int .i64 a0_0, .string a0_1, .int .i64 a0_2]] (by rfl) rfl rfl (by (try simp only [List.map_toArray, List.map_cons, List.map_nil]); first | done | rfl | (simp only [List.length_drop, List.length_take]; rfl)) ?_
              with_reducible refine (TkC.Check.calls a0_0 a0_1 a0_2 t205 _ ?side1 A7.out).mono ?_
              (case side1 => first | exact hEnv | exact EnvW.below hEnv (by repeat (first | (with_reducible first | exact HB.out | apply below_alloc | apply pw_below_drewN | apply below_drew1 | refine below_set ?_ GE203.out) | exact HB.out)) | exact hEnv.drewN _)
              rintro e w25 ⟨rfl, hb⟩
              refine ⟨_, rfl, ?_⟩
              have n0_ := Aside0.mk (blk_below (g := gb203) (o := .cells #[.int .i64 a0_0, .string a0_1, .int .i64 a0_2] 35 (0, 0)) (by (with_reducible repeat (first | refine blk_drewN ?_ _ | refine blk_drew ?_ | refine blk_alloc ?_ _)); exact BK203.out) hb)
              have n1_ := Aside0.mk (below_step (by repeat (first | (with_reducible first | exact HB.out | apply below_alloc | apply pw_below_drewN | apply below_drew1 | refine below_set ?_ GE203.out) | exact HB.out)) hb)
              clear BK203
              clear HB
              have BK203 := n0_
              have HB := n1_
              clear n0_ n1_
              (try clear hb)
              (try clear hb2)
              (try clear hk)
              (try clear hi)
              refine hK.out _ _ ⟨(blk_cell BK203.out 0).trans rfl, (blk_cell BK203.out 1).trans rfl, (blk_cell BK203.out 2).trans rfl⟩ (fun hHeld => ?_)
              clear hK K
              refine norm_ (a' := ?_) ?_ ?_
              rotate_left
              · show Act.put _ (some 9) _ = _
                simp only [Act.put, List.setIfInBounds_toArray, List.set_cons_zero, List.set_cons_succ, i64_w, i32_w]
                rfl
              refine one_ (i := 3) (N := some 11) #[true, true, true, true, false, false, false, false, false, false, false, false, false, false, false, false, false, false] rfl rfl (one_of HT_.out (by kernel_rfl)) (by decide) (fun K hK => ?_)
              refine goes_ Tryz.func17 (by kernel_rfl) rfl #[.agg #[.int .i64 a0_0, .string a0_1, .int .i64 a0_2]] (by rfl) rfl rfl (by (try simp only [List.map_toArray, List.map_cons, List.map_nil]); first | done | rfl | (simp only [List.length_drop, List.length_take]; rfl)) ?_
              with_reducible refine (cinnabarref01_Check.calls k a0_0 a0_1 a0_2 t206 _ A8.out).mono ?_
              rintro e w26 ⟨rfl, hb⟩
              refine ⟨_, rfl, ?_⟩
              have n0_ := Aside0.mk (blk_below (g := gb203) (o := .cells #[.int .i64 a0_0, .string a0_1, .int .i64 a0_2] 35 (0, 0)) (by (with_reducible repeat (first | refine blk_drewN ?_ _ | refine blk_drew ?_ | refine blk_alloc ?_ _)); exact BK203.out) hb)
              have n1_ := Aside0.mk (below_step (by repeat (first | (with_reducible first | exact HB.out | apply below_alloc | apply pw_below_drewN | apply below_drew1 | refine below_set ?_ GE203.out) | exact HB.out)) hb)
              clear BK203
              clear HB
              have BK203 := n0_
              have HB := n1_
              clear n0_ n1_
              (try clear hb)
              (try clear hb2)
              (try clear hk)
              (try clear hi)
              refine hK.out _ _ ⟨(blk_cell BK203.out 0).trans rfl, (blk_cell BK203.out 1).trans rfl, (blk_cell BK203.out 2).trans rfl⟩ (fun hHeld => ?_)
              clear hK K
              refine norm_ (a' := ?_) ?_ ?_
              rotate_left
              · show Act.put _ (some 11) _ = _
                simp only [Act.put, List.setIfInBounds_toArray, List.set_cons_zero, List.set_cons_succ, i64_w, i32_w]
                rfl
              refine pure_ (i := 4) (N := some 12) (v := ?_) (a' := ?_) #[true, true, true, true, true, false, false, false, false, false, false, false, false, false, false, false, false, false] rfl rfl (any_of HT_.out (by kernel_rfl)) (fun _ _ _ h => h) (Or.inl ⟨by rfl, ?_⟩) ?_ ?_
              rotate_left
              · intro w'
                go_simp
                with_reducible rfl
              rotate_left
              · simp only [Act.put, List.setIfInBounds_toArray, List.set_cons_zero, List.set_cons_succ, i64_w, i32_w]
                rfl
              refine pure_ (i := 5) (N := some 13) (v := ?_) (a' := ?_) #[true, true, true, true, true, true, false, false, false, false, false, false, false, false, false, false, false, false] rfl rfl (any_of HT_.out (by kernel_rfl)) (fun _ _ _ h => h) (Or.inl ⟨by rfl, ?_⟩) ?_ ?_
              rotate_left
              · intro w'
                go_simp
                with_reducible rfl
              rotate_left
              · simp only [Act.put, List.setIfInBounds_toArray, List.set_cons_zero, List.set_cons_succ, i64_w, i32_w]
                rfl
              refine pure_ (i := 6) (N := some 14) (v := ?_) (a' := ?_) #[true, true, true, true, true, true, true, false, false, false, false, false, false, false, false, false, false, false] rfl rfl (any_of HT_.out (by kernel_rfl)) (fun _ _ _ h => h) (Or.inl ⟨by rfl, ?_⟩) ?_ ?_
              rotate_left
              · intro w'
                go_simp
                with_reducible rfl
              rotate_left
              · simp only [Act.put, List.setIfInBounds_toArray, List.set_cons_zero, List.set_cons_succ, i64_w, i32_w]
                rfl
              refine pure_ (i := 9) (N := some 17) (v := ?_) (a' := ?_) #[true, true, true, true, true, true, true, false, false, true, false, false, false, false, false, false, false, false] rfl rfl (any_of HT_.out (by kernel_rfl)) (fun _ _ _ h => h) (Or.inl ⟨by rfl, ?_⟩) ?_ ?_
              rotate_left
              · intro w'
                go_simp
                with_reducible rfl
              rotate_left
              · simp only [Act.put, List.setIfInBounds_toArray, List.set_cons_zero, List.set_cons_succ, i64_w, i32_w]
                rfl
              refine take_ (i := 7) (N := some 15) (v := ?_) (a' := ?_) #[true, true, true, true, true, true, true, true, false, true, false, false, false, false, false, false, false, false] rfl rfl (take_ofW HT_.out HW_.out (by kernel_rfl)) (fun _ _ _ h => h) (Or.inl ⟨by rfl, ?_⟩) hHeld ?_ ?_
              rotate_left
              · rintro w' ⟨s0, s1, s2⟩
                go_simp
                with_reducible rfl
              rotate_left
              · simp only [Act.put, List.setIfInBounds_toArray, List.set_cons_zero, List.set_cons_succ, i64_w, i32_w]
                rfl
              refine take_ (i := 10) (N := some 18) (v := ?_) (a' := ?_) #[true, true, true, true, true, true, true, true, false, true, true, false, false, false, false, false, false, false] rfl rfl (take_ofW HT_.out HW_.out (by kernel_rfl)) (fun _ _ _ h => h) (Or.inl ⟨by rfl, ?_⟩) hHeld ?_ ?_
              rotate_left
              · rintro w' ⟨s0, s1, s2⟩
                go_simp
                with_reducible rfl
              rotate_left
              · simp only [Act.put, List.setIfInBounds_toArray, List.set_cons_zero, List.set_cons_succ, i64_w, i32_w]
                rfl
              refine one_ (i := 8) (N := some 16) #[true, true, true, true, true, true, true, true, true, true, true, false, false, false, false, false, false, false] rfl rfl (one_of HT_.out (by kernel_rfl)) (by decide) (fun K hK => ?_)
              refine goes_ Tryz.func18 (by kernel_rfl) rfl #[.string a0_1] (by rfl) rfl rfl (by (try simp only [List.map_toArray, List.map_cons, List.map_nil]); first | done | rfl | (simp only [List.length_drop, List.length_take]; rfl)) ?_
              with_reducible refine (tokens_Name.calls a0_1 t207 _ ?side1 A10.out).mono ?_
              (case side1 => first | exact hEnv | exact EnvW.below hEnv (by repeat (first | (with_reducible first | exact HB.out | apply below_alloc | apply pw_below_drewN | apply below_drew1 | refine below_set ?_ GE203.out) | exact HB.out)) | exact hEnv.drewN _)
              rintro e w27 ⟨rfl, hb⟩
              refine ⟨_, rfl, ?_⟩
              have n0_ := Aside0.mk (blk_below (g := gb203) (o := .cells #[.int .i64 a0_0, .string a0_1, .int .i64 a0_2] 35 (0, 0)) (by (with_reducible repeat (first | refine blk_drewN ?_ _ | refine blk_drew ?_ | refine blk_alloc ?_ _)); exact BK203.out) hb)
              have n1_ := Aside0.mk (below_step (by repeat (first | (with_reducible first | exact HB.out | apply below_alloc | apply pw_below_drewN | apply below_drew1 | refine below_set ?_ GE203.out) | exact HB.out)) hb)
              clear BK203
              clear HB
              have BK203 := n0_
              have HB := n1_
              clear n0_ n1_
              (try clear hb)
              (try clear hb2)
              (try clear hk)
              (try clear hi)
              refine hK.out _ _ ⟨(blk_cell BK203.out 0).trans rfl, (blk_cell BK203.out 1).trans rfl, (blk_cell BK203.out 2).trans rfl⟩ (fun hHeld => ?_)
              clear hK K
              refine norm_ (a' := ?_) ?_ ?_
              rotate_left
              · show Act.put _ (some 16) _ = _
                simp only [Act.put, List.setIfInBounds_toArray, List.set_cons_zero, List.set_cons_succ, i64_w, i32_w]
                rfl
              refine one_ (i := 11) (N := some 19) #[true, true, true, true, true, true, true, true, true, true, true, true, false, false, false, false, false, false] rfl rfl (one_of HT_.out (by kernel_rfl)) (by decide) (fun K hK => ?_)
              refine goes_ Tryz.func19 (by kernel_rfl) rfl #[.string a0_1] (by rfl) rfl rfl (by (try simp only [List.map_toArray, List.map_cons, List.map_nil]); first | done | rfl | (simp only [List.length_drop, List.length_take]; rfl)) ?_
              with_reducible refine (cinnabarref01_Name.calls k a0_1 t208 _ A11.out).mono ?_
              rintro e w28 ⟨rfl, hb⟩
              refine ⟨_, rfl, ?_⟩
              have n0_ := Aside0.mk (blk_below (g := gb203) (o := .cells #[.int .i64 a0_0, .string a0_1, .int .i64 a0_2] 35 (0, 0)) (by (with_reducible repeat (first | refine blk_drewN ?_ _ | refine blk_drew ?_ | refine blk_alloc ?_ _)); exact BK203.out) hb)
              have n1_ := Aside0.mk (below_step (by repeat (first | (with_reducible first | exact HB.out | apply below_alloc | apply pw_below_drewN | apply below_drew1 | refine below_set ?_ GE203.out) | exact HB.out)) hb)
              clear BK203
              clear HB
              have BK203 := n0_
              have HB := n1_
              clear n0_ n1_
              (try clear hb)
              (try clear hb2)
              (try clear hk)
              (try clear hi)
              refine hK.out _ _ ⟨(blk_cell BK203.out 0).trans rfl, (blk_cell BK203.out 1).trans rfl, (blk_cell BK203.out 2).trans rfl⟩ (fun hHeld => ?_)
              clear hK K
              refine norm_ (a' := ?_) ?_ ?_
              rotate_left
              · show Act.put _ (some 19) _ = _
                simp only [Act.put, List.setIfInBounds_toArray, List.set_cons_zero, List.set_cons_succ, i64_w, i32_w]
                rfl
              refine pure_ (i := 12) (N := some 20) (v := ?_) (a' := ?_) #[true, true, true, true, true, true, true, true, true, true, true, true, true, false, false, false, false, false] rfl rfl (any_of HT_.out (by kernel_rfl)) (fun _ _ _ h => h) (Or.inl ⟨by rfl, ?_⟩) ?_ ?_
              rotate_left
              · intro w'
                go_simp
                with_reducible rfl
              rotate_left
              · simp only [Act.put, List.setIfInBounds_toArray, List.set_cons_zero, List.set_cons_succ, i64_w, i32_w]
                rfl
              refine pure_ (i := 13) (N := some 21) (v := ?_) (a' := ?_) #[true, true, true, true, true, true, true, true, true, true, true, true, true, true, false, false, false, false] rfl rfl (any_of HT_.out (by kernel_rfl)) (fun _ _ _ h => h) (Or.inl ⟨by rfl, ?_⟩) ?_ ?_
              rotate_left
              · intro w'
                go_simp
                with_reducible rfl
              rotate_left
              · simp only [Act.put, List.setIfInBounds_toArray, List.set_cons_zero, List.set_cons_succ, i64_w, i32_w]
                rfl
              refine pure_ (i := 14) (N := some 22) (v := ?_) (a' := ?_) #[true, true, true, true, true, true, true, true, true, true, true, true, true, true, true, false, false, false] rfl rfl (any_of HT_.out (by kernel_rfl)) (fun _ _ _ h => h) (Or.inl ⟨by rfl, ?_⟩) ?_ ?_
              rotate_left
              · intro w'
                go_simp
                with_reducible rfl
              rotate_left
              · simp only [Act.put, List.setIfInBounds_toArray, List.set_cons_zero, List.set_cons_succ, i64_w, i32_w]
                rfl
              refine pure_ (i := 15) (N := some 23) (v := undef) (a' := ?_) #[true, true, true, true, true, true, true, true, true, true, true, true, true, true, true, true, false, false] rfl rfl (any_of HT_.out (by kernel_rfl)) (fun _ _ _ h => h) (Or.inr ⟨by rfl, rfl⟩) ?_ ?_
              rotate_left
              · simp only [Act.put, List.setIfInBounds_toArray, List.set_cons_zero, List.set_cons_succ, i64_w, i32_w]
                rfl
              refine pure_ (i := 16) (N := some 24) (v := ?_) (a' := ?_) #[true, true, true, true, true, true, true, true, true, true, true, true, true, true, true, true, true, false] rfl rfl (any_of HT_.out (by kernel_rfl)) (fun _ _ _ h => h) (Or.inl ⟨by rfl, ?_⟩) ?_ ?_
              rotate_left
              · intro w'
                go_simp
                with_reducible rfl
              rotate_left
              · simp only [Act.put, List.setIfInBounds_toArray, List.set_cons_zero, List.set_cons_succ, i64_w, i32_w]
                rfl
              refine pure_ (i := 17) (N := some 2) (v := ?_) (a' := ?_) #[true, true, true, true, true, true, true, true, true, true, true, true, true, true, true, true, true, true] rfl rfl (any_of HT_.out (by kernel_rfl)) (fun _ _ _ h => h) (Or.inl ⟨by rfl, ?_⟩) ?_ ?_
              rotate_left
              · intro w'
                go_simp
                with_reducible rfl
              rotate_left
              · simp only [Act.put, List.setIfInBounds_toArray, List.set_cons_zero, List.set_cons_succ, i64_w, i32_w]
                rfl
              refine done_ (done_of HT_.out (by kernel_rfl)) ?_
              try go_wp2
              go_ret
              exact ⟨by first | rfl | (simp [errW_none, errW_some] <;> rfl) | (simp [*, errW_none, errW_some] <;> rfl), by repeat (first | (with_reducible first | exact HB.out | apply below_alloc | apply pw_below_drewN | apply below_drew1 | refine below_set ?_ GE203.out) | exact HB.out)⟩
      · as_aux_lemma =>
          rw [if_neg c9] at H
          have c9b0 : (t205 == t206) = false := beq_eq_false_iff_ne.mpr c9
          have c9b1 : (t205 != t206) = true := bne_iff_ne.mpr c9
          obtain rfl := Option.some.inj H
          go_enter Tryz.func5, Tryz.ntmps5
          try go_wp2_with (first | ((with_reducible refine gate_dst (N := 1) rfl ?_); refine box_event ?hg (N := 1) ?hd (cs := #[.int .i64 a0_0, .string a0_1, .int .i64 a0_2]) (t := 35) ?hr ?_; (case hd => rfl); (case hg => rfl); (case hr => first | (go_simp; done) | (go_simp; rfl)); intro gb203 hg w29 hbox hb; have n0_ := Aside0.mk (below_step (by repeat (first | (with_reducible first | exact HB.out | apply below_alloc | apply pw_below_drewN | apply below_drew1) | exact HB.out)) hb); have n1_ := Aside0.mk (hbox); have n2_ := Aside0.mk ((by rw [hg]; exact (below_size (by repeat (first | (with_reducible first | exact HB.out | apply below_alloc | apply pw_below_drewN | apply below_drew1) | exact HB.out))) : w.heap.size ≤ gb203)); have n3_ := Aside0.mk ((by rw [hg]; exact (below_size (by repeat (first | (with_reducible first | exact HB.out | apply below_alloc | apply pw_below_drewN | apply below_drew1) | exact HB.out))) : w.heap.size ≤ gb203)); clear HB; have HB := n0_; have BK203 := n1_; have GW203 := n2_; have GE203 := n3_; clear n0_ n1_ n2_ n3_; clear hb hbox hg; have hcz30_0 : w29.cell? ⟨gb203, 0, none⟩ = some (.int .i64 a0_0) := (blk_cell BK203.out 0).trans rfl; have hcz30_1 : w29.cell? ⟨gb203, 1, none⟩ = some (.string a0_1) := (blk_cell BK203.out 1).trans rfl; have hcz30_2 : w29.cell? ⟨gb203, 2, none⟩ = some (.int .i64 a0_2) := (blk_cell BK203.out 2).trans rfl; have hfz30_0 := blk_frozen BK203.out 0; have hfz30_1 := blk_frozen BK203.out 1; have hfz30_2 := blk_frozen BK203.out 2))
          have n0_ := Aside0.mk (blk_drew BK203.out)
          have n1_ := Aside0.mk (below_drew1 HB.out)
          clear BK203
          clear HB
          have BK203 := n0_
          have HB := n1_
          clear n0_ n1_
          refine start_ (n := 18) (S := fun w' => w'.cell? ⟨gb203, 0, none⟩ = some (.int .i64 a0_0) ∧ w'.cell? ⟨gb203, 1, none⟩ = some (.string a0_1) ∧ w'.cell? ⟨gb203, 2, none⟩ = some (.int .i64 a0_2)) (ds := []) #[false, false, false, false, false, false, false, false, false, false, false, false, false, false, false, false, false, false] (by kernel_rfl) rfl rfl ⟨(blk_cell BK203.out 0).trans rfl, (blk_cell BK203.out 1).trans rfl, (blk_cell BK203.out 2).trans rfl⟩ (fun hHeld => ?_); refine with_tabW cinnabarlaw01_TokensCheck.tab3 cinnabarlaw01_TokensCheck.bits3 (fun HT_ HW_ => ?_)
          generalize w29.drew = w31 at BK203 HB hHeld ⊢
          refine take_ (i := 0) (N := some 8) (v := ?_) (a' := ?_) #[true, false, false, false, false, false, false, false, false, false, false, false, false, false, false, false, false, false] rfl rfl (take_ofW HT_.out HW_.out (by kernel_rfl)) (fun _ _ _ h => h) (Or.inl ⟨by rfl, ?_⟩) hHeld ?_ ?_
          rotate_left
          · rintro w' ⟨s0, s1, s2⟩
            go_simp
            with_reducible rfl
          rotate_left
          · simp only [Act.put, List.setIfInBounds_toArray, List.set_cons_zero, List.set_cons_succ, i64_w, i32_w]
            rfl
          refine take_ (i := 2) (N := some 10) (v := ?_) (a' := ?_) #[true, false, true, false, false, false, false, false, false, false, false, false, false, false, false, false, false, false] rfl rfl (take_ofW HT_.out HW_.out (by kernel_rfl)) (fun _ _ _ h => h) (Or.inl ⟨by rfl, ?_⟩) hHeld ?_ ?_
          rotate_left
          · rintro w' ⟨s0, s1, s2⟩
            go_simp
            with_reducible rfl
          rotate_left
          · simp only [Act.put, List.setIfInBounds_toArray, List.set_cons_zero, List.set_cons_succ, i64_w, i32_w]
            rfl
          refine one_ (i := 1) (N := some 9) #[true, true, true, false, false, false, false, false, false, false, false, false, false, false, false, false, false, false] rfl rfl (one_of HT_.out (by kernel_rfl)) (by decide) (fun K hK => ?_)
          refine goes_ Tryz.func16 (by kernel_rfl) rfl #[.agg #[.int .i64 a0_0, .string a0_1, .int .i64 a0_2]] (by rfl) rfl rfl (by (try simp only [List.map_toArray, List.map_cons, List.map_nil]); first | done | rfl | (simp only [List.length_drop, List.length_take]; rfl)) ?_
          with_reducible refine (TkC.Check.calls a0_0 a0_1 a0_2 t205 _ ?side1 A7.out).mono ?_
          (case side1 => first | exact hEnv | exact EnvW.below hEnv (by repeat (first | (with_reducible first | exact HB.out | apply below_alloc | apply pw_below_drewN | apply below_drew1 | refine below_set ?_ GE203.out) | exact HB.out)) | exact hEnv.drewN _)
          rintro e w32 ⟨rfl, hb⟩
          refine ⟨_, rfl, ?_⟩
          have n0_ := Aside0.mk (blk_below (g := gb203) (o := .cells #[.int .i64 a0_0, .string a0_1, .int .i64 a0_2] 35 (0, 0)) (by (with_reducible repeat (first | refine blk_drewN ?_ _ | refine blk_drew ?_ | refine blk_alloc ?_ _)); exact BK203.out) hb)
          have n1_ := Aside0.mk (below_step (by repeat (first | (with_reducible first | exact HB.out | apply below_alloc | apply pw_below_drewN | apply below_drew1 | refine below_set ?_ GE203.out) | exact HB.out)) hb)
          clear BK203
          clear HB
          have BK203 := n0_
          have HB := n1_
          clear n0_ n1_
          (try clear hb)
          (try clear hb2)
          (try clear hk)
          (try clear hi)
          refine hK.out _ _ ⟨(blk_cell BK203.out 0).trans rfl, (blk_cell BK203.out 1).trans rfl, (blk_cell BK203.out 2).trans rfl⟩ (fun hHeld => ?_)
          clear hK K
          refine norm_ (a' := ?_) ?_ ?_
          rotate_left
          · show Act.put _ (some 9) _ = _
            simp only [Act.put, List.setIfInBounds_toArray, List.set_cons_zero, List.set_cons_succ, i64_w, i32_w]
            rfl
          refine one_ (i := 3) (N := some 11) #[true, true, true, true, false, false, false, false, false, false, false, false, false, false, false, false, false, false] rfl rfl (one_of HT_.out (by kernel_rfl)) (by decide) (fun K hK => ?_)
          refine goes_ Tryz.func17 (by kernel_rfl) rfl #[.agg #[.int .i64 a0_0, .string a0_1, .int .i64 a0_2]] (by rfl) rfl rfl (by (try simp only [List.map_toArray, List.map_cons, List.map_nil]); first | done | rfl | (simp only [List.length_drop, List.length_take]; rfl)) ?_
          with_reducible refine (cinnabarref01_Check.calls k a0_0 a0_1 a0_2 t206 _ A8.out).mono ?_
          rintro e w33 ⟨rfl, hb⟩
          refine ⟨_, rfl, ?_⟩
          have n0_ := Aside0.mk (blk_below (g := gb203) (o := .cells #[.int .i64 a0_0, .string a0_1, .int .i64 a0_2] 35 (0, 0)) (by (with_reducible repeat (first | refine blk_drewN ?_ _ | refine blk_drew ?_ | refine blk_alloc ?_ _)); exact BK203.out) hb)
          have n1_ := Aside0.mk (below_step (by repeat (first | (with_reducible first | exact HB.out | apply below_alloc | apply pw_below_drewN | apply below_drew1 | refine below_set ?_ GE203.out) | exact HB.out)) hb)
          clear BK203
          clear HB
          have BK203 := n0_
          have HB := n1_
          clear n0_ n1_
          (try clear hb)
          (try clear hb2)
          (try clear hk)
          (try clear hi)
          refine hK.out _ _ ⟨(blk_cell BK203.out 0).trans rfl, (blk_cell BK203.out 1).trans rfl, (blk_cell BK203.out 2).trans rfl⟩ (fun hHeld => ?_)
          clear hK K
          refine norm_ (a' := ?_) ?_ ?_
          rotate_left
          · show Act.put _ (some 11) _ = _
            simp only [Act.put, List.setIfInBounds_toArray, List.set_cons_zero, List.set_cons_succ, i64_w, i32_w]
            rfl
          refine pure_ (i := 4) (N := some 12) (v := ?_) (a' := ?_) #[true, true, true, true, true, false, false, false, false, false, false, false, false, false, false, false, false, false] rfl rfl (any_of HT_.out (by kernel_rfl)) (fun _ _ _ h => h) (Or.inl ⟨by rfl, ?_⟩) ?_ ?_
          rotate_left
          · intro w'
            go_simp
            with_reducible rfl
          rotate_left
          · simp only [Act.put, List.setIfInBounds_toArray, List.set_cons_zero, List.set_cons_succ, i64_w, i32_w]
            rfl
          refine pure_ (i := 5) (N := some 13) (v := ?_) (a' := ?_) #[true, true, true, true, true, true, false, false, false, false, false, false, false, false, false, false, false, false] rfl rfl (any_of HT_.out (by kernel_rfl)) (fun _ _ _ h => h) (Or.inl ⟨by rfl, ?_⟩) ?_ ?_
          rotate_left
          · intro w'
            go_simp
            with_reducible rfl
          rotate_left
          · simp only [Act.put, List.setIfInBounds_toArray, List.set_cons_zero, List.set_cons_succ, i64_w, i32_w]
            rfl
          refine pure_ (i := 6) (N := some 14) (v := undef) (a' := ?_) #[true, true, true, true, true, true, true, false, false, false, false, false, false, false, false, false, false, false] rfl rfl (any_of HT_.out (by kernel_rfl)) (fun _ _ _ h => h) (Or.inr ⟨by rfl, rfl⟩) ?_ ?_
          rotate_left
          · simp only [Act.put, List.setIfInBounds_toArray, List.set_cons_zero, List.set_cons_succ, i64_w, i32_w]
            rfl
          refine pure_ (i := 7) (N := some 15) (v := undef) (a' := ?_) #[true, true, true, true, true, true, true, true, false, false, false, false, false, false, false, false, false, false] rfl rfl (any_of HT_.out (by kernel_rfl)) (fun _ _ _ h => h) (Or.inr ⟨by rfl, rfl⟩) ?_ ?_
          rotate_left
          · simp only [Act.put, List.setIfInBounds_toArray, List.set_cons_zero, List.set_cons_succ, i64_w, i32_w]
            rfl
          refine pure_ (i := 8) (N := some 16) (v := undef) (a' := ?_) #[true, true, true, true, true, true, true, true, true, false, false, false, false, false, false, false, false, false] rfl rfl (any_of HT_.out (by kernel_rfl)) (fun _ _ _ h => h) (Or.inr ⟨by rfl, rfl⟩) ?_ ?_
          rotate_left
          · simp only [Act.put, List.setIfInBounds_toArray, List.set_cons_zero, List.set_cons_succ, i64_w, i32_w]
            rfl
          refine pure_ (i := 9) (N := some 17) (v := undef) (a' := ?_) #[true, true, true, true, true, true, true, true, true, true, false, false, false, false, false, false, false, false] rfl rfl (any_of HT_.out (by kernel_rfl)) (fun _ _ _ h => h) (Or.inr ⟨by rfl, rfl⟩) ?_ ?_
          rotate_left
          · simp only [Act.put, List.setIfInBounds_toArray, List.set_cons_zero, List.set_cons_succ, i64_w, i32_w]
            rfl
          refine pure_ (i := 10) (N := some 18) (v := undef) (a' := ?_) #[true, true, true, true, true, true, true, true, true, true, true, false, false, false, false, false, false, false] rfl rfl (any_of HT_.out (by kernel_rfl)) (fun _ _ _ h => h) (Or.inr ⟨by rfl, rfl⟩) ?_ ?_
          rotate_left
          · simp only [Act.put, List.setIfInBounds_toArray, List.set_cons_zero, List.set_cons_succ, i64_w, i32_w]
            rfl
          refine pure_ (i := 11) (N := some 19) (v := undef) (a' := ?_) #[true, true, true, true, true, true, true, true, true, true, true, true, false, false, false, false, false, false] rfl rfl (any_of HT_.out (by kernel_rfl)) (fun _ _ _ h => h) (Or.inr ⟨by rfl, rfl⟩) ?_ ?_
          rotate_left
          · simp only [Act.put, List.setIfInBounds_toArray, List.set_cons_zero, List.set_cons_succ, i64_w, i32_w]
            rfl
          refine pure_ (i := 12) (N := some 20) (v := undef) (a' := ?_) #[true, true, true, true, true, true, true, true, true, true, true, true, true, false, false, false, false, false] rfl rfl (any_of HT_.out (by kernel_rfl)) (fun _ _ _ h => h) (Or.inr ⟨by rfl, rfl⟩) ?_ ?_
          rotate_left
          · simp only [Act.put, List.setIfInBounds_toArray, List.set_cons_zero, List.set_cons_succ, i64_w, i32_w]
            rfl
          refine pure_ (i := 13) (N := some 21) (v := ?_) (a' := ?_) #[true, true, true, true, true, true, true, true, true, true, true, true, true, true, false, false, false, false] rfl rfl (any_of HT_.out (by kernel_rfl)) (fun _ _ _ h => h) (Or.inl ⟨by rfl, ?_⟩) ?_ ?_
          rotate_left
          · intro w'
            go_simp
            with_reducible rfl
          rotate_left
          · simp only [Act.put, List.setIfInBounds_toArray, List.set_cons_zero, List.set_cons_succ, i64_w, i32_w]
            rfl
          refine pure_ (i := 14) (N := some 22) (v := ?_) (a' := ?_) #[true, true, true, true, true, true, true, true, true, true, true, true, true, true, true, false, false, false] rfl rfl (any_of HT_.out (by kernel_rfl)) (fun _ _ _ h => h) (Or.inl ⟨by rfl, ?_⟩) ?_ ?_
          rotate_left
          · intro w'
            go_simp
            with_reducible rfl
          rotate_left
          · simp only [Act.put, List.setIfInBounds_toArray, List.set_cons_zero, List.set_cons_succ, i64_w, i32_w]
            rfl
          refine pure_ (i := 15) (N := some 23) (v := undef) (a' := ?_) #[true, true, true, true, true, true, true, true, true, true, true, true, true, true, true, true, false, false] rfl rfl (any_of HT_.out (by kernel_rfl)) (fun _ _ _ h => h) (Or.inr ⟨by rfl, rfl⟩) ?_ ?_
          rotate_left
          · simp only [Act.put, List.setIfInBounds_toArray, List.set_cons_zero, List.set_cons_succ, i64_w, i32_w]
            rfl
          refine pure_ (i := 16) (N := some 24) (v := ?_) (a' := ?_) #[true, true, true, true, true, true, true, true, true, true, true, true, true, true, true, true, true, false] rfl rfl (any_of HT_.out (by kernel_rfl)) (fun _ _ _ h => h) (Or.inl ⟨by rfl, ?_⟩) ?_ ?_
          rotate_left
          · intro w'
            go_simp
            with_reducible rfl
          rotate_left
          · simp only [Act.put, List.setIfInBounds_toArray, List.set_cons_zero, List.set_cons_succ, i64_w, i32_w]
            rfl
          refine pure_ (i := 17) (N := some 2) (v := ?_) (a' := ?_) #[true, true, true, true, true, true, true, true, true, true, true, true, true, true, true, true, true, true] rfl rfl (any_of HT_.out (by kernel_rfl)) (fun _ _ _ h => h) (Or.inl ⟨by rfl, ?_⟩) ?_ ?_
          rotate_left
          · intro w'
            go_simp
            with_reducible rfl
          rotate_left
          · simp only [Act.put, List.setIfInBounds_toArray, List.set_cons_zero, List.set_cons_succ, i64_w, i32_w]
            rfl
          refine done_ (done_of HT_.out (by kernel_rfl)) ?_
          try go_wp2
          go_ret
          exact ⟨by first | rfl | (simp [errW_none, errW_some] <;> rfl) | (simp [*, errW_none, errW_some] <;> rfl), by repeat (first | (with_reducible first | exact HB.out | apply below_alloc | apply pw_below_drewN | apply below_drew1 | refine below_set ?_ GE203.out) | exact HB.out)⟩
end Go.Proofs.YtgeonilideojnaaGreatDoor.Pr
/- TokensCheck: what is left when the program is walked. -/
namespace Go.Proofs.YtgeonilideojnaaGreatDoor.Lw
open Go Go.RowKit Tk Go.Proofs.YtgeonilideojnaaGreatDoor.Pr Go.Proofs.YtgeonilideojnaaGreatDoorW.PrintWords
set_option linter.unusedVariables false
set_option linter.unusedSimpArgs false
theorem awake_some {f : Nat → Option Bool} (h : ∀ k, f k = (cinnabarlaw01_awake.f k).bind fun t => some t) : Ev f true :=
  Ev.congr h (Ev.bind (f := fun _ t => some t) awake_f (Ev.now _))
theorem TokensCheck_pure (kd : Int) (s : ByteArray) (at_ : Int) (hk : (Lit.int .i64 kd).wf = true) : ∃ k, cinnabarlaw01_TokensCheck.f k kd s at_ = some true := by
  apply Ev.rounds
  obtain ⟨l, rfl⟩ : ∃ l, s = B l := ⟨s.data.toList, (B_of s).symm⟩
  by_cases h : ((B l).size : Int) > 400
  · refine awake_some fun k => ?_
    unfold cinnabarlaw01_TokensCheck.f
    rw [if_pos h]
  · have hl : l.length ≤ 400 := by rw [size_B] at h; omega
    have hC := Rf.Check_f kd at_ l (by omega)
    have hN := Rf.Name_f l (by omega)
    have hc : TkC.Check.f kd (B l) at_ = some (checkS kd l : Int) := by
      have := Check_f ⟨kd, B l, at_⟩ ⟨hk, by show (B l).size ≤ 65536; rw [size_B]; omega⟩
      simpa [toTok, B] using this
    have hn : tokens_Name.f (B l) = some (B (nameS l)) := by
      have := Tk.Name_f (B l) (by rw [size_B]; omega)
      simpa [B] using this
    refine Ev.congr (f := fun k => (cinnabarref01_Check.f k kd (B l) at_).bind fun t206 => if (checkS kd l : Int) = t206 then (cinnabarref01_Name.f k (B l)).bind fun t208 => (if (B (nameS l)).toList = t208.toList then ((cinnabarlaw01_awake.f k).bind fun t209 => (some t209)) else (some false)) else some false) (fun k => ?_) ?_
    · unfold cinnabarlaw01_TokensCheck.f
      rw [if_neg h, hc, hn]
      rfl
    · refine Ev.bind (f := fun k t206 => if (checkS kd l : Int) = t206 then (cinnabarref01_Name.f k (B l)).bind fun t208 => (if (B (nameS l)).toList = t208.toList then ((cinnabarlaw01_awake.f k).bind fun t209 => (some t209)) else (some false)) else some false) hC ?_
      simp only [if_true]
      refine Ev.bind (f := fun k t208 => (if (B (nameS l)).toList = t208.toList then ((cinnabarlaw01_awake.f k).bind fun t209 => (some t209)) else (some false))) hN ?_
      simp only [if_true]
      exact awake_some fun k => rfl
end Go.Proofs.YtgeonilideojnaaGreatDoor.Lw
