/- The statement TokensWrite of the package cinnabarlaw01 holds for every input: its row, and its tied card. It is proved of the translated program; the variables of Go's library that the row lists are laid as its text lays them (the tie is given). -/
import Derived.Laws.StructEq
import Derived.Test.YtgeonilideojnaaGreatDoorTie
import Derived.Test.YtgeonilideojnaaGreatDoorCards
import Derived.SevenTiedAt
import Derived.Test.YtgeonilideojnaaGreatDoorQG1x1
import Derived.Test.YtgeonilideojnaaGreatDoorQG1x2
import Derived.Test.YtgeonilideojnaaGreatDoorQG1x3
import Derived.Test.YtgeonilideojnaaGreatDoorQG1x4
import Derived.Test.YtgeonilideojnaaGreatDoorQG1x5
import Derived.Test.YtgeonilideojnaaGreatDoorQG1x6
import Derived.Test.YtgeonilideojnaaGreatDoorQG1x7
import Derived.Test.YtgeonilideojnaaGreatDoorQG1x8
import Derived.Test.YtgeonilideojnaaGreatDoorQG1x9
import Derived.Test.YtgeonilideojnaaGreatDoorQG3x1
import Derived.Test.YtgeonilideojnaaGreatDoorQG3x2
import Derived.Test.YtgeonilideojnaaGreatDoorQG3x3
import Derived.Test.YtgeonilideojnaaGreatDoorQG3x4
import Derived.Test.YtgeonilideojnaaGreatDoorQG3x5
import Derived.Test.YtgeonilideojnaaGreatDoorQG2x1
import Derived.Test.YtgeonilideojnaaGreatDoorQG4x1
import Derived.Test.YtgeonilideojnaaGreatDoorQG8x1
import Derived.Test.YtgeonilideojnaaGreatDoorQG8x2
section
namespace Go.Proofs.YtgeonilideojnaaGreatDoor.Rf
open Go Go.RowKit Tk Go.Proofs.YtgeonilideojnaaGreatDoor.Pr Go.Proofs.YtgeonilideojnaaGreatDoorW.PrintWords
set_option linter.unusedVariables false
set_option linter.unusedSimpArgs false
theorem rd_get {xs : List STok} {i : Nat} (h : i < xs.length) : rd_T35 xs (i : Int) = xs.getD i zT := by
  unfold rd_T35
  simp [zT]
theorem take_get {xs : List STok} {n i : Nat} (hn : n ≤ xs.length) (h : i < n) : (xs.take n).getD i zT = xs.getD i zT := by
  rw [List.getD_eq_getElem?_getD, List.getD_eq_getElem?_getD, List.getElem?_take, if_pos h]
theorem cWN {i : Nat} (h : i ≤ 1000000) : Hid (wrap64 ((i : Int) + 1) = ((i + 1 : Nat) : Int)) := hide (wrap_nat i h)
theorem cWP {i : Nat} (h1 : 1 ≤ i) (h : i ≤ 1000000) : Hid (wrap64 ((i : Int) - 1) = ((i - 1 : Nat) : Int)) := hide (by unfold wrap64; omega)
theorem beqT {a b : Int} (h : a = b) : (a == b) = true := by simpa using h
theorem beqF {a b : Int} (h : ¬ a = b) : (a == b) = false := by simpa using h
theorem bneT {a b : Int} (h : ¬ a = b) : (a != b) = true := by simpa using h
theorem text_round (xs : List STok) (n i : Nat) (hn : n ≤ xs.length) (hb : xs.length ≤ 100000) (hi : i < n) (y : STok) (hy : y = (xs.take n).getD i zT) (hx : okT y) (hc : checkS y.f0 y.f1.data.toList = 0) (out : Bs) (ho : out.length ≤ i * 200000) (r : ByteArray × Int)
    (hnext : badB (foB (xs.take n) i) (vaB (xs.take n) i) y = false → Ev (fun k => cinnabarref01_Text.l2 k xs (n : Int) (B (out ++ piece (gapB (xs.take n) i y) (rawB (vaB (xs.take n) i) y) y)) ((i + 1 : Nat) : Int)) r)
    (hbad : badB (foB (xs.take n) i) (vaB (xs.take n) i) y = true → r = (B [], 2)) :
    Ev (fun k => cinnabarref01_Text.l2 k xs (n : Int) (B out) (i : Int)) r := by
  have hly : (xs.take n).length = n := by rw [List.length_take]; omega
  have hrd : rd_T35 xs (i : Int) = y := by rw [rd_get (by omega), hy, take_get hn hi]
  have wn := cWN (i := i) (by omega)
  have hyl : y.f1.data.toList.length ≤ 65536 := hx.2
  have hys : y.f1.size ≤ 65536 := hx.2
  have hyB : y.f1 = B y.f1.data.toList := (B_of _).symm
  have hwl := written_len y.f0 y.f1.data.toList
  have hW := Written_f y hx hc
  have hst := stated_f y
  have hfo : foB (xs.take n) i = (decide (0 < i) && ((rd_T35 xs ((i - 1 : Nat) : Int)).f0 == 1 || (rd_T35 xs ((i - 1 : Nat) : Int)).f0 == 2)) := by
    unfold foB
    by_cases h : 0 < i
    · rw [rd_get (by omega), take_get hn (by omega)]
    · simp [h]
  have hva : vaB (xs.take n) i = (decide (i + 1 < n) && (rd_T35 xs ((i + 1 : Nat) : Int)).f0 == 2) := by
    unfold vaB
    rw [hly]
    by_cases h : i + 1 < n
    · rw [rd_get (by omega), take_get hn h]
    · simp [h]
  have hgap : gapB (xs.take n) i y = (decide (0 < i) && (rd_T35 xs ((i - 1 : Nat) : Int)).f0 != 7 && !(y.f0 == 6 && y.f1.toList == [40, 40]) && !(y.f0 == 2 && stateS (toTok (rd_T35 xs ((i - 1 : Nat) : Int))))) := by
    unfold gapB
    by_cases h : 0 < i
    · rw [rd_get (by omega), take_get hn (by omega)]
    · simp [h]
  generalize hfoe : foB (xs.take n) i = fo at *
  generalize hvae : vaB (xs.take n) i = va at *
  generalize hgape : gapB (xs.take n) i y = gap at *
  clear hfoe hvae hgape hy
  have hi1 : (i : Int) < (xs.length : Int) := by omega
  have hin : (i : Int) < (n : Int) := by omega
  have h0i : (0 : Int) ≤ (i : Int) := by omega
  generalize hcal : (y.f0 == 6 && y.f1.toList == [40, 40]) = called at *
  have hbadB : badB fo va y = ((called && !fo) || (y.f0 == 1 && y.f1.toList == [33, 46] && !va)) := by
    unfold badB
    rw [← hcal]
    cases (y.f1.toList == [40, 40]) <;> cases (y.f0 == 6) <;> rfl
  have h9 : ∀ o1 : Bs, o1 = out ++ (if gap then [32] else []) → badB fo va y = false → Ev (fun k => cinnabarref01_Text.j9 k xs (n : Int) (B o1) (i : Int) (rawB va y)) r := by
    intro o1 ho1 hbd
    have hn1 := hnext hbd
    have hol : o1.length ≤ 65537 * 200000 * 100 := by
      rw [ho1, List.length_append]
      cases gap <;> simp <;> omega
    cases hraw : rawB va y with
    | true =>
      have hp : out ++ piece gap (rawB va y) y = o1 ++ y.f1.data.toList ++ (if y.f0 == 7 then [10] else []) := by
        rw [hraw, ho1]; unfold piece; simp only [if_true, List.append_assoc]
      rw [hp] at hn1
      refine Ev.step (f := fun k => cinnabarref01_Text.l2 k xs (n : Int) (B (o1 ++ y.f1.data.toList ++ (if y.f0 == 7 then [10] else []))) ((i + 1 : Nat) : Int)) (fun k => ?_) hn1
      simp only [cinnabarref01_Text.j9, if_true, hrd]
      rw [if_pos h0i, if_pos hi1]
      have hA : o1.length + y.f1.data.toList.length ≤ 9223372036854775807 := by omega
      have hB1 : o1.length + y.f1.data.toList.length + 1 ≤ 9223372036854775807 := by omega
      rw [show B o1 ++ y.f1 = B (o1 ++ y.f1.data.toList) by rw [← B_app, B_of], show y.f1.size = y.f1.data.toList.length from rfl]
      by_cases h7 : y.f0 = 7
      · simp only [size_B, List.length_append, if_pos hA, if_pos hB1, if_pos h7, beqT h7, if_true, wn.out, show (⟨#[10]⟩ : ByteArray) = B [10] from rfl, B_app]
      · simp only [size_B, if_pos hA, if_neg h7, beqF h7, Bool.false_eq_true, if_false, List.append_nil, wn.out]
    | false =>
      have hp : out ++ piece gap (rawB va y) y = o1 ++ writtenS y.f0 y.f1.data.toList ++ (if y.f0 == 7 then [10] else []) := by
        rw [hraw, ho1]; unfold piece; simp only [Bool.false_eq_true, if_false, List.append_assoc]
      rw [hp] at hn1
      refine Ev.step (f := fun k => (cinnabarref01_Written.f k y.f0 y.f1 y.f2).bind fun t => if (B o1).size + t.size ≤ 9223372036854775807 then (if y.f0 = 7 then (if (B o1 ++ t).size + 1 ≤ 9223372036854775807 then cinnabarref01_Text.l2 k xs (n : Int) ((B o1 ++ t) ++ (⟨#[10]⟩ : ByteArray)) ((i + 1 : Nat) : Int) else none) else cinnabarref01_Text.l2 k xs (n : Int) (B o1 ++ t) ((i + 1 : Nat) : Int)) else none) (fun k => ?_) (Ev.bind (f := fun k t => if (B o1).size + t.size ≤ 9223372036854775807 then (if y.f0 = 7 then (if (B o1 ++ t).size + 1 ≤ 9223372036854775807 then cinnabarref01_Text.l2 k xs (n : Int) ((B o1 ++ t) ++ (⟨#[10]⟩ : ByteArray)) ((i + 1 : Nat) : Int) else none) else cinnabarref01_Text.l2 k xs (n : Int) (B o1 ++ t) ((i + 1 : Nat) : Int)) else none) hW ?_)
      · simp only [cinnabarref01_Text.j9, Bool.false_eq_true, if_false, hrd]
        rw [if_pos h0i, if_pos hi1, wn.out]
      · by_cases h7 : y.f0 = 7
        · have h7b : (y.f0 == 7) = true := by simpa using h7
          rw [h7b] at hn1
          simp only [B_app, size_B, List.length_append, if_pos h7, show (⟨#[10]⟩ : ByteArray) = B [10] from rfl]
          simp only [if_pos (show o1.length + (writtenS y.f0 y.f1.data.toList).length ≤ 9223372036854775807 by omega), if_pos (show o1.length + (writtenS y.f0 y.f1.data.toList).length + 1 ≤ 9223372036854775807 by omega)]
          exact hn1
        · have h7b : (y.f0 == 7) = false := by simpa using h7
          rw [h7b] at hn1
          simp only [B_app, size_B, List.length_append, if_neg h7]
          simp only [if_pos (show o1.length + (writtenS y.f0 y.f1.data.toList).length ≤ 9223372036854775807 by omega)]
          simpa using hn1
  have h8 : badB fo va y = false → Ev (fun k => cinnabarref01_Text.j8 k xs (n : Int) (B out) (i : Int) (rawB va y) gap) r := by
    intro hbd
    cases hg : gap with
    | true =>
      refine Ev.step (f := fun k => cinnabarref01_Text.j9 k xs (n : Int) (B (out ++ [32])) (i : Int) (rawB va y)) (fun k => ?_) (h9 _ (by rw [hg]; rfl) hbd)
      simp only [cinnabarref01_Text.j8, if_true]
      rw [if_pos (by rw [size_B]; omega), show (⟨#[32]⟩ : ByteArray) = B [32] from rfl, B_app]
    | false =>
      refine Ev.step (f := fun k => cinnabarref01_Text.j9 k xs (n : Int) (B out) (i : Int) (rawB va y)) (fun k => ?_) (h9 _ (by rw [hg]; simp) hbd)
      simp only [cinnabarref01_Text.j8, Bool.false_eq_true, if_false]
  have h7 : Ev (fun k => cinnabarref01_Text.j7 k xs (n : Int) (B out) (i : Int) called (rawB va y) (badB fo va y)) r := by
    cases hbd : badB fo va y with
    | true =>
      rw [hbad hbd]
      exact Ev.step (f := fun _ => some (B [], 2)) (fun k => by simp only [cinnabarref01_Text.j7, if_true]; rfl) (Ev.now _)
    | false =>
      refine Ev.step (f := fun k => cinnabarref01_Text.j8 k xs (n : Int) (B out) (i : Int) (rawB va y) gap) (fun k => ?_) (h8 hbd)
      simp only [cinnabarref01_Text.j7, Bool.false_eq_true, if_false]
      by_cases hi0 : 0 < i
      · have wp := cWP (i := i) (by omega) (by omega)
        rw [if_pos (show (i : Int) > 0 by omega)]
        simp only [wp.out, hrd]
        cases called with
        | true =>
          rw [if_pos rfl, hgap]
          simp [hi0]
        | false =>
          rw [if_neg (by decide), if_pos (by omega), if_pos (by omega)]
          by_cases hp7 : (rd_T35 xs ((i - 1 : Nat) : Int)).f0 = 7
          · rw [if_pos hp7, hgap]
            simp [hp7]
          · rw [if_neg hp7, if_pos h0i, if_pos hi1]
            by_cases h2 : y.f0 = 2
            · rw [if_pos h2, stated_f]
              simp only [Option.bind_some]
              rw [hgap, bneT hp7, beqT h2]
              simp [hi0]
            · rw [if_neg h2, hgap, bneT hp7, beqF h2]
              simp [hi0]
      · rw [if_neg (by omega), hgap]
        simp [hi0]
  have h6 : Ev (fun k => cinnabarref01_Text.j6 k xs (n : Int) (B out) (i : Int) called (rawB va y)) r := by
    refine Ev.step (f := fun k => cinnabarref01_Text.j7 k xs (n : Int) (B out) (i : Int) called (rawB va y) (badB fo va y)) (fun k => ?_) h7
    have hbang : (if rawB va y = true then false else if y.f0 = 1 then y.f1.toList == [33, 46] else false) = (y.f0 == 1 && y.f1.toList == [33, 46] && !va) := by
      unfold rawB stateS toTok
      simp only [toList_data]
      by_cases h1 : y.f0 = 1
      · by_cases hx : y.f1.data.toList = [33, 46]
        · cases va <;> simp [h1, hx]
        · by_cases hx2 : y.f1.data.toList = [33, 58] <;> cases va <;> simp [h1, hx, hx2]
      · cases va <;> simp [h1]
    have hend : ∀ b : Bool, (if rawB va y = true then cinnabarref01_Text.j7 k xs (n : Int) (B out) (i : Int) called (rawB va y) false else (if 0 ≤ (i : Int) then (if (i : Int) < (xs.length : Int) then (if (rd_T35 xs (i : Int)).f0 = 1 then cinnabarref01_Text.j7 k xs (n : Int) (B out) (i : Int) called (rawB va y) ((rd_T35 xs (i : Int)).f1.toList == ([33, 46] : List UInt8)) else cinnabarref01_Text.j7 k xs (n : Int) (B out) (i : Int) called (rawB va y) false) else none) else none)) = cinnabarref01_Text.j7 k xs (n : Int) (B out) (i : Int) called (rawB va y) (y.f0 == 1 && y.f1.toList == [33, 46] && !va) := by
      intro _
      rw [← hbang, hrd, if_pos h0i, if_pos hi1]
      cases rawB va y with
      | true => rfl
      | false =>
        by_cases h1 : y.f0 = 1
        · simp [h1]
        · simp [h1]
    simp only [cinnabarref01_Text.j6]
    cases hcl : called with
    | false =>
      rw [hcl] at hend hbadB
      rw [if_neg (by decide), hend true, hbadB]
      simp
    | true =>
      rw [hcl] at hend hbadB
      rw [if_pos rfl]
      by_cases hi0 : 0 < i
      · have wp := cWP (i := i) (by omega) (by omega)
        rw [if_neg (show ¬ (i : Int) = 0 by omega)]
        simp only [wp.out]
        rw [if_pos (by omega), if_pos (by omega)]
        by_cases hp1 : (rd_T35 xs ((i - 1 : Nat) : Int)).f0 = 1
        · rw [if_pos hp1, hend true, hbadB, hfo]
          simp [hi0, hp1]
        · rw [if_neg hp1]
          by_cases hp2 : (rd_T35 xs ((i - 1 : Nat) : Int)).f0 = 2
          · rw [if_pos hp2, hend true, hbadB, hfo]
            simp [hi0, hp2]
          · rw [if_neg hp2, hbadB, hfo, beqF hp1, beqF hp2]
            simp
      · rw [if_pos (show (i : Int) = 0 by omega), hbadB, hfo]
        simp [hi0]
  have h5 : Ev (fun k => cinnabarref01_Text.j5 k xs (n : Int) (B out) (i : Int) called) r := by
    refine Ev.step (f := fun k => cinnabarref01_Text.j6 k xs (n : Int) (B out) (i : Int) called (rawB va y)) (fun k => ?_) h6
    simp only [cinnabarref01_Text.j5, wn.out]
    unfold rawB
    by_cases h : i + 1 < n
    · rw [if_pos (by omega), if_pos (by omega), if_pos (by omega)]
      by_cases h2 : (rd_T35 xs ((i + 1 : Nat) : Int)).f0 = 2
      · rw [if_pos h2, if_pos h0i, if_pos hi1, hrd, stated_f]
        simp only [Option.bind_some]
        rw [hva, beqT h2]
        simp [h]
      · rw [if_neg h2, hva, beqF h2]
        simp
    · rw [if_neg (by omega), hva]
      simp [h]
  refine Ev.step (f := fun k => cinnabarref01_Text.j5 k xs (n : Int) (B out) (i : Int) called) (fun k => ?_) h5
  simp only [cinnabarref01_Text.l2, hrd]
  rw [if_pos hin, if_pos h0i, if_pos hi1, ← hcal]
  by_cases h6 : y.f0 = 6
  · rw [if_pos h6]
    first | rfl | (rw [beqT h6]; rfl) | simp [h6]
  · rw [if_neg h6]
    first | rfl | (rw [beqF h6]; rfl) | simp [h6]
theorem text_l2 (xs : List STok) (n : Nat) (R : Option Bs) (hn : n ≤ xs.length) (hb : xs.length ≤ 60000) (hok : ∀ x ∈ xs, okT x) (hc : ∀ x ∈ xs.take n, checkS x.f0 x.f1.data.toList = 0) :
    ∀ (d i : Nat) (out : Bs), n - i = d → i ≤ n → out.length ≤ i * 200000 → textR (prevT (xs.take n) i) (((xs.take n).drop i).map toTok) out = R → Ev (fun k => cinnabarref01_Text.l2 k xs (n : Int) (B out) (i : Int)) (B (txOut R).1, ((txOut R).2 : Int)) := by
  have hly : (xs.take n).length = n := by rw [List.length_take]; omega
  intro d
  induction d with
  | zero =>
    intro i out hd hi ho hR
    have hin : i = n := by omega
    rw [List.drop_eq_nil_of_le (by omega)] at hR
    have hR2 : R = some out := by rw [← hR]; rfl
    refine Ev.step (f := fun _ => some (B (txOut R).1, ((txOut R).2 : Int))) (fun k => ?_) (Ev.now _)
    simp only [cinnabarref01_Text.l2]
    rw [if_neg (by omega), hR2, size_B]
    by_cases hg : 65536 < out.length
    · rw [if_pos (by omega)]
      simp [txOut, hg]
      rfl
    · rw [if_neg (by omega)]
      simp [txOut, hg]
  | succ d ih =>
    intro i out hd hi ho hR
    have hin : i < n := by omega
    have hg : (xs.take n).getD i zT = (xs.take n)[i]'(by omega) := by simp [List.getD_eq_getElem?_getD, List.getElem?_eq_getElem (show i < (xs.take n).length by omega)]
    have hmem : (xs.take n).getD i zT ∈ xs.take n := by rw [hg]; exact List.getElem_mem _
    have hx := hok _ (List.mem_of_mem_take hmem)
    have hst := text_step (xs.take n) i (by omega) _ rfl out
    rw [hR] at hst
    refine text_round xs n i hn (by omega) hin _ rfl hx (hc _ hmem) out ho _ (fun hbd => ?_) (fun hbd => ?_)
    · rw [hbd] at hst
      simp only [Bool.false_eq_true, if_false] at hst
      refine ih (i + 1) _ (by omega) (by omega) ?_ hst.symm
      have := piece_len (gapB (xs.take n) i ((xs.take n).getD i zT)) (rawB (vaB (xs.take n) i) ((xs.take n).getD i zT)) _ hx.2
      rw [List.length_append]
      omega
    · rw [hbd] at hst
      simp only [if_true] at hst
      rw [hst]
      rfl
theorem Check_F (x : STok) (hx : okT x) : Ev (fun k => cinnabarref01_Check.f k x.f0 x.f1 x.f2) (checkS x.f0 x.f1.data.toList : Int) := by
  have := Check_f x.f0 x.f2 x.f1.data.toList hx.2
  rwa [B_of] at this
theorem text_l1 (xs : List STok) (n : Nat) (R : Option Bs) (hn : n ≤ xs.length) (hb : xs.length ≤ 60000) (hok : ∀ x ∈ xs, okT x) (hR : textR none ((xs.take n).map toTok) [] = R) :
    ∀ (d i : Nat), (xs.take (n + 1)).length - i = d → i ≤ (xs.take (n + 1)).length → (∀ x ∈ (xs.take (n + 1)).take i, checkS x.f0 x.f1.data.toList = 0) →
    Ev (fun k => cinnabarref01_Text.l1 k xs (n : Int) (i : Int)) (if firstS (((xs.take (n + 1)).drop i).map toTok) = 0 then (B (txOut R).1, ((txOut R).2 : Int)) else (B [], (firstS (((xs.take (n + 1)).drop i).map toTok) : Int))) := by
  have hlz : (xs.take (n + 1)).length = min (n + 1) xs.length := List.length_take
  intro d
  induction d with
  | zero =>
    intro i hd hi hall
    have hil : i = (xs.take (n + 1)).length := by omega
    rw [List.drop_eq_nil_of_le (by omega)]
    simp only [List.map_nil, firstS, if_true]
    have hc : ∀ x ∈ xs.take n, checkS x.f0 x.f1.data.toList = 0 := fun x hx => hall x (by
      rw [hil, List.take_length]
      exact (List.take_subset_take_left xs (by omega) : xs.take n ⊆ xs.take (n + 1)) hx)
    have h2 := text_l2 xs n R hn hb hok hc n 0 [] (by omega) (by omega) (by simp) (by rw [List.drop_zero]; exact hR)
    have hj : Ev (fun k => cinnabarref01_Text.j3 k xs (n : Int) (i : Int) false) (B (txOut R).1, ((txOut R).2 : Int)) :=
      Ev.step (f := fun k => cinnabarref01_Text.l2 k xs (n : Int) (B []) 0) (fun k => by simp only [cinnabarref01_Text.j3, Bool.false_eq_true, if_false]; rfl) h2
    refine Ev.step (f := fun k => cinnabarref01_Text.j3 k xs (n : Int) (i : Int) false) (fun k => ?_) hj
    simp only [cinnabarref01_Text.l1]
    by_cases h : (i : Int) < (xs.length : Int)
    · rw [if_pos h, show decide ((i : Int) ≤ (n : Int)) = false by simp; omega]
    · rw [if_neg h]
  | succ d ih =>
    intro i hd hi hall
    have hlt : i < (xs.take (n + 1)).length := by omega
    have hix : i < xs.length := by omega
    have hx := hok xs[i] (List.getElem_mem hix)
    have hrd : rd_T35 xs (i : Int) = xs[i] := by rw [rd_get hix]; simp [List.getD_eq_getElem?_getD, List.getElem?_eq_getElem hix]
    have hdr : (xs.take (n + 1)).drop i = xs[i] :: (xs.take (n + 1)).drop (i + 1) := by
      rw [List.drop_eq_getElem_cons hlt]
      simp
    have wn := cWN (i := i) (by omega)
    have hC := Check_F xs[i] hx
    have hj3 : ∀ r, (Ev (fun k => if (checkS xs[i].f0 xs[i].f1.data.toList : Int) = 0 then cinnabarref01_Text.l1 k xs (n : Int) ((i + 1 : Nat) : Int) else some (B [], (checkS xs[i].f0 xs[i].f1.data.toList : Int))) r) → Ev (fun k => cinnabarref01_Text.l1 k xs (n : Int) (i : Int)) r := by
      intro r h
      have hj : Ev (fun k => cinnabarref01_Text.j3 k xs (n : Int) (i : Int) true) r :=
        Ev.step (f := fun k => (cinnabarref01_Check.f k xs[i].f0 xs[i].f1 xs[i].f2).bind fun t => if t = 0 then cinnabarref01_Text.l1 k xs (n : Int) ((i + 1 : Nat) : Int) else some (B [], t)) (fun k => by
          simp only [cinnabarref01_Text.j3, if_true, hrd, wn.out]
          rw [if_pos (by omega), if_pos (by omega)]
          rfl) (Ev.bind (f := fun k t => if t = 0 then cinnabarref01_Text.l1 k xs (n : Int) ((i + 1 : Nat) : Int) else some (B [], t)) hC h)
      refine Ev.step (f := fun k => cinnabarref01_Text.j3 k xs (n : Int) (i : Int) true) (fun k => ?_) hj
      simp only [cinnabarref01_Text.l1]
      rw [if_pos (by omega), show decide ((i : Int) ≤ (n : Int)) = true by simp; omega]
    refine hj3 _ ?_
    have he : firstS (((xs.take (n + 1)).drop i).map toTok) = if checkS xs[i].f0 xs[i].f1.data.toList = 0 then firstS (((xs.take (n + 1)).drop (i + 1)).map toTok) else checkS xs[i].f0 xs[i].f1.data.toList := by
      rw [hdr]
      rfl
    by_cases h0 : checkS xs[i].f0 xs[i].f1.data.toList = 0
    · rw [if_pos h0] at he
      simp only [he, if_pos (show (checkS xs[i].f0 xs[i].f1.data.toList : Int) = 0 by omega)]
      refine ih (i + 1) (by omega) (by omega) (fun x hx2 => ?_)
      rw [List.take_succ_eq_append_getElem hlt] at hx2
      rcases List.mem_append.1 hx2 with h | h
      · exact hall x h
      · rw [List.mem_singleton.1 h, List.getElem_take]
        exact h0
    · rw [if_neg h0] at he
      simp only [he, if_neg h0, if_neg (show ¬ (checkS xs[i].f0 xs[i].f1.data.toList : Int) = 0 by omega)]
      exact Ev.now _
theorem text_l0 (xs : List STok) (r : ByteArray × Int) (hb : xs.length ≤ 60000) (h : Ev (fun k => cinnabarref01_Text.l1 k xs (endAt xs : Int) 0) r) :
    ∀ (d i : Nat), endAt xs - i = d → i ≤ endAt xs → Ev (fun k => cinnabarref01_Text.l0 k xs (i : Int)) r := by
  have hle := endAt_le xs
  have hj : Ev (fun k => cinnabarref01_Text.j1 k xs (endAt xs : Int)) r := Ev.step (f := fun k => cinnabarref01_Text.l1 k xs (endAt xs : Int) 0) (fun k => by simp only [cinnabarref01_Text.j1]) h
  intro d
  induction d with
  | zero =>
    intro i hd hi
    have hie : i = endAt xs := by omega
    refine Ev.step (f := fun k => cinnabarref01_Text.j1 k xs (endAt xs : Int)) (fun k => ?_) hj
    simp only [cinnabarref01_Text.l0]
    by_cases hlt : i < xs.length
    · have := endAt_at xs i (by omega) hlt
      have h0 : (rd_T35 xs (i : Int)).f0 = 0 := by
        rw [rd_get hlt]
        rcases Int.decEq (xs.getD i zT).f0 0 with hne | he
        · have := this.2 hne; omega
        · exact he
      rw [if_pos (by omega), if_pos (by omega), if_pos h0, hie]
    · rw [if_neg (by omega), hie]
  | succ d ih =>
    intro i hd hi
    have hlt : i < xs.length := by omega
    have := endAt_at xs i (by omega) hlt
    have wn := cWN (i := i) (by omega)
    have h0 : ¬ (rd_T35 xs (i : Int)).f0 = 0 := by
      rw [rd_get hlt]
      intro he
      have := this.1 he
      omega
    refine Ev.step (f := fun k => cinnabarref01_Text.l0 k xs ((i + 1 : Nat) : Int)) (fun k => ?_) (ih (i + 1) (by omega) (by omega))
    simp only [cinnabarref01_Text.l0]
    rw [if_pos (by omega), if_pos (by omega), if_neg h0, wn.out]
theorem Text_f (xs : List STok) (hb : xs.length ≤ 60000) (hok : ∀ x ∈ xs, okT x) : Ev (fun k => cinnabarref01_Text.f k xs) (B (textS (xs.map toTok)).1, ((textS (xs.map toTok)).2 : Int)) := by
  have hle := endAt_le xs
  have h1 := text_l1 xs (endAt xs) _ hle hb hok rfl _ 0 rfl (Nat.zero_le _) (by simp)
  rw [List.drop_zero] at h1
  have hT : textS (xs.map toTok) = if firstS ((xs.take (endAt xs)).map toTok) ≠ 0 then ([], firstS ((xs.take (endAt xs)).map toTok)) else if endCheck (xs.map toTok) ≠ 0 then ([], endCheck (xs.map toTok)) else txOut (textR none ((xs.take (endAt xs)).map toTok) []) := by
    unfold textS
    rw [before_take]
    cases textR none ((xs.take (endAt xs)).map toTok) [] <;> rfl
  have hr : (if firstS ((xs.take (endAt xs + 1)).map toTok) = 0 then (B (txOut (textR none ((xs.take (endAt xs)).map toTok) [])).1, ((txOut (textR none ((xs.take (endAt xs)).map toTok) [])).2 : Int)) else (B [], (firstS ((xs.take (endAt xs + 1)).map toTok) : Int))) = (B (textS (xs.map toTok)).1, ((textS (xs.map toTok)).2 : Int)) := by
    rw [hT]
    have hec := endCheck_at xs
    by_cases hlt : endAt xs < xs.length
    · have hft := first_take xs hlt
      rw [dif_pos hlt] at hec
      rw [← hec] at hft
      rw [hft]
      generalize firstS ((xs.take (endAt xs)).map toTok) = A
      generalize endCheck (xs.map toTok) = C
      generalize txOut (textR none ((xs.take (endAt xs)).map toTok) []) = U
      by_cases hf : A = 0
      · by_cases he : C = 0
        · simp [hf, he]
        · simp [hf, he]
      · simp [hf]
    · have he : endAt xs = xs.length := by omega
      rw [dif_neg hlt] at hec
      have t1 : xs.take (endAt xs + 1) = xs := List.take_of_length_le (by omega)
      have t2 : xs.take (endAt xs) = xs := List.take_of_length_le (by omega)
      rw [t1, t2, hec]
      by_cases hf : firstS (xs.map toTok) = 0
      · simp [hf]
      · simp [hf]
  rw [hr] at h1
  exact text_l0 xs _ hb h1 _ 0 rfl (Nat.zero_le _)
end Go.Proofs.YtgeonilideojnaaGreatDoor.Rf
end
section
namespace Go.Proofs.YtgeonilideojnaaGreatDoor.Pr
open Go.RowKit Go.Proofs.YtgeonilideojnaaGreatDoorW.PrintWords Go.Proofs.YtgeonilideojnaaGreatDoorW.PrintLast Go.Proofs.YtgeonilideojnaaGreatDoorW.PrintMore
attribute [local go_sem] max2_int min2_int max_two min_two max_three min_three max_four min_four
set_option linter.unusedVariables false
set_option linter.unusedSimpArgs false
def cinnabarlaw01_TokensWrite.f (k : Nat) (l0 : List (S35)) : Option (Bool) := (cinnabarlaw01_long.f k l0).bind fun t196 => (if t196 = true then ((cinnabarlaw01_awake.f k).bind fun t197 => (some t197)) else ((TkC.Text.f l0).bind fun bt198 => ((cinnabarref01_Text.f k l0).bind fun bt200 => (if bt198.2 = bt200.2 then (if bt198.1.toList = bt200.1.toList then ((cinnabarlaw01_awake.f k).bind fun t202 => (some t202)) else (some false)) else (some false)))))
theorem cinnabarlaw01_TokensWrite.mono : ∀ a0 k, LeO (cinnabarlaw01_TokensWrite.f k a0) (cinnabarlaw01_TokensWrite.f (k + 1) a0) := by
  intro a0 k
  unfold cinnabarlaw01_TokensWrite.f
  repeat' first
      | (with_reducible exact cinnabarlaw01_awake.mono _)
      | (with_reducible exact cinnabarlaw01_long.mono _ _)
      | (with_reducible exact cinnabarref01_Text.mono _ _)
      | (with_reducible exact LeO.refl _)
      | (with_reducible exact LeO.none _)
      | (with_reducible refine LeO.ite ?_ ?_)
      | (with_reducible refine LeO.bind ?_ (fun _ => ?_))
      | exact cinnabarlaw01_awake.mono _
      | exact cinnabarlaw01_long.mono _ _
      | exact cinnabarref01_Text.mono _ _
      | exact LeO.none _
      | refine LeO.ite ?_ ?_
      | refine LeO.bind ?_ (fun _ => ?_)
set_option maxHeartbeats 8000000 in
set_option maxRecDepth 100000 in
theorem cinnabarlaw01_TokensWrite.calls (k : Nat) (A0 : Option Addr) (c0 : Nat) (l0 : List (S35)) (r : Bool) (w : World) (hr0 : Kd.C k35 w A0 l0.length l0) (hc0 : l0.length ≤ c0) (hEnv : EnvW w) (h : cinnabarlaw01_TokensWrite.f k l0 = some r) :
    Calls Tryz.prog 4 #[.slice A0 l0.length c0] w fun e w' => e = .returned (.bool r) ∧ Below w.heap.size w w' := by
  have HR0 := Aside0.mk hr0
  have HC0 := Aside0.mk hc0
  clear hr0 hc0
  have HB := Aside0.mk (Below.refl w.heap.size w)
  have H : ((cinnabarlaw01_long.f k l0).bind fun t196 => (if t196 = true then ((cinnabarlaw01_awake.f k).bind fun t197 => (some t197)) else ((TkC.Text.f l0).bind fun bt198 => ((cinnabarref01_Text.f k l0).bind fun bt200 => (if bt198.2 = bt200.2 then (if bt198.1.toList = bt200.1.toList then ((cinnabarlaw01_awake.f k).bind fun t202 => (some t202)) else (some false)) else (some false)))))) = some r := h
  clear h
  replace H := Option.bind_eq_some_iff.mp H
  obtain ⟨t196, A20, H⟩ := H
  replace H : (if t196 = true then ((cinnabarlaw01_awake.f k).bind fun t197 => (some t197)) else ((TkC.Text.f l0).bind fun bt198 => ((cinnabarref01_Text.f k l0).bind fun bt200 => (if bt198.2 = bt200.2 then (if bt198.1.toList = bt200.1.toList then ((cinnabarlaw01_awake.f k).bind fun t202 => (some t202)) else (some false)) else (some false))))) = some r := H
  have A2 := Aside0.mk A20
  clear A20
  by_cases c3 : t196 = true
  · subst c3
    have H1 : ((cinnabarlaw01_awake.f k).bind fun t197 => (some t197)) = some r := by rw [if_pos rfl] at H; exact H
    clear H
    have H := H1
    clear H1
    replace H := Option.bind_eq_some_iff.mp H
    obtain ⟨t197, A40, H⟩ := H
    replace H : (some t197) = some r := H
    have A4 := Aside0.mk A40
    clear A40
    obtain rfl := Option.some.inj H
    go_enter Tryz.func4, Tryz.ntmps4
    go_wp2_with (first | ((with_reducible refine gate_callee (f := 13) rfl ?_); refine goesL_ (some 8) rfl rfl Tryz.func13 (by kernel_rfl) rfl #[.slice A0 l0.length c0] rfl (by (try simp only [List.map_toArray, List.map_cons, List.map_nil]); first | done | rfl | (simp only [List.length_drop, List.length_take]; rfl)) ?_; (with_reducible refine (cinnabarlaw01_long.calls k _ _ l0 true _ ?side1 ?side2 A2.out).mono ?_); (case side1 => repeat (first | exact HR0.out | (with_reducible refine Kd.C_alloc ?_ _) | (with_reducible refine Kd.C_drewN ?_ _) | (with_reducible refine Kd.C_drew ?_))); (case side2 => exact HC0.out); rintro e w' ⟨rfl, ⟨nd, rfl⟩⟩; refine ⟨_, rfl, ?_⟩) | ((with_reducible refine gate_callee (f := 9) rfl ?_); refine goesL_ (some 9) rfl rfl Tryz.func9 (by kernel_rfl) rfl #[] rfl (by (try simp only [List.map_toArray, List.map_cons, List.map_nil]); first | done | rfl | (simp only [List.length_drop, List.length_take]; rfl)) ?_; (with_reducible refine (cinnabarlaw01_awake.calls k  t197 _ ?side1 A4.out).mono ?_); (case side1 => first | exact hEnv | exact EnvW.below hEnv (by repeat (first | (with_reducible first | exact HB.out | apply below_alloc | apply pw_below_drewN | apply below_drew1) | exact HB.out)) | exact hEnv.drewN _); rintro e w5 ⟨rfl, hb⟩; refine ⟨_, rfl, ?_⟩; have n0_ := Aside0.mk (below_step (by repeat (first | (with_reducible first | exact HB.out | apply below_alloc | apply pw_below_drewN | apply below_drew1) | exact HB.out)) hb); clear HB; have HB := n0_; clear n0_; (try clear hb); (try clear hb2); (try clear hk); (try clear hi)))
    go_ret
    exact ⟨by first | rfl | (simp [errW_none, errW_some] <;> rfl) | (simp [*, errW_none, errW_some] <;> rfl), by repeat (first | (with_reducible first | exact HB.out | apply below_alloc | apply pw_below_drewN | apply below_drew1) | exact HB.out)⟩
  · replace c3 := Bool.eq_false_iff.mpr c3
    subst c3
    have H1 : ((TkC.Text.f l0).bind fun bt198 => ((cinnabarref01_Text.f k l0).bind fun bt200 => (if bt198.2 = bt200.2 then (if bt198.1.toList = bt200.1.toList then ((cinnabarlaw01_awake.f k).bind fun t202 => (some t202)) else (some false)) else (some false)))) = some r := by rw [if_neg (show ¬ (false = true) by decide)] at H; exact H
    clear H
    have H := H1
    clear H1
    replace H := Option.bind_eq_some_iff.mp H
    obtain ⟨⟨t198, t199⟩, A60, H⟩ := H
    replace H : ((cinnabarref01_Text.f k l0).bind fun bt200 => (if t199 = bt200.2 then (if t198.toList = bt200.1.toList then ((cinnabarlaw01_awake.f k).bind fun t202 => (some t202)) else (some false)) else (some false))) = some r := H
    have A6 := Aside0.mk A60
    clear A60
    replace H := Option.bind_eq_some_iff.mp H
    obtain ⟨⟨t200, t201⟩, A70, H⟩ := H
    replace H : (if t199 = t201 then (if t198.toList = t200.toList then ((cinnabarlaw01_awake.f k).bind fun t202 => (some t202)) else (some false)) else (some false)) = some r := H
    have A7 := Aside0.mk A70
    clear A70
    by_cases c8 : t199 = t201
    · rw [if_pos c8] at H
      have c8b0 : (t199 == t201) = true := beq_iff_eq.mpr c8
      have c8b1 : (t199 != t201) = false := bne_eq_false_iff_eq.mpr c8
      clear c8
      by_cases c9 : t198.toList = t200.toList
      · rw [if_pos c9] at H
        have c9b0 : (t198.toList == t200.toList) = true := beq_iff_eq.mpr c9
        have c9b1 : (t198.toList != t200.toList) = false := bne_eq_false_iff_eq.mpr c9
        clear c9
        replace H := Option.bind_eq_some_iff.mp H
        obtain ⟨t202, A100, H⟩ := H
        replace H : (some t202) = some r := H
        have A10 := Aside0.mk A100
        clear A100
        obtain rfl := Option.some.inj H
        go_enter Tryz.func4, Tryz.ntmps4
        go_wp2_with (first | ((with_reducible refine gate_callee (f := 13) rfl ?_); refine goesL_ (some 8) rfl rfl Tryz.func13 (by kernel_rfl) rfl #[.slice A0 l0.length c0] rfl (by (try simp only [List.map_toArray, List.map_cons, List.map_nil]); first | done | rfl | (simp only [List.length_drop, List.length_take]; rfl)) ?_; (with_reducible refine (cinnabarlaw01_long.calls k _ _ l0 false _ ?side1 ?side2 A2.out).mono ?_); (case side1 => repeat (first | exact HR0.out | (with_reducible refine Kd.C_alloc ?_ _) | (with_reducible refine Kd.C_drewN ?_ _) | (with_reducible refine Kd.C_drew ?_))); (case side2 => exact HC0.out); rintro e w' ⟨rfl, ⟨nd, rfl⟩⟩; refine ⟨_, rfl, ?_⟩) | ((with_reducible refine gate_callee (f := 14) rfl ?_); refine goesL_ (some 12) rfl rfl Tryz.func14 (by kernel_rfl) rfl #[.slice A0 l0.length c0] rfl (by (try simp only [List.map_toArray, List.map_cons, List.map_nil]); first | done | rfl | (simp only [List.length_drop, List.length_take]; rfl)) ?_; (with_reducible refine (TkC.Text.calls _ _ l0 t198 t199 _ ?side1 ?side2 ?side3 A6.out).mono ?_); (case side1 => repeat (first | exact HR0.out | (with_reducible refine Kd.C_alloc ?_ _) | (with_reducible refine Kd.C_drewN ?_ _) | (with_reducible refine Kd.C_drew ?_))); (case side2 => exact HC0.out); (case side3 => first | exact hEnv | exact EnvW.below hEnv (by repeat (first | (with_reducible first | exact HB.out | apply below_alloc | apply pw_below_drewN | apply below_drew1) | exact HB.out)) | exact hEnv.drewN _); rintro e w11 ⟨rfl, hb⟩; refine ⟨_, rfl, ?_⟩; have n0_ := Aside0.mk (below_step (by repeat (first | (with_reducible first | exact HB.out | apply below_alloc | apply pw_below_drewN | apply below_drew1) | exact HB.out)) hb); clear HB; have HB := n0_; clear n0_; (try clear hb); (try clear hb2); (try clear hk); (try clear hi)) | ((with_reducible refine gate_callee (f := 15) rfl ?_); refine goesL_ (some 17) rfl rfl Tryz.func15 (by kernel_rfl) rfl #[.slice A0 l0.length c0] rfl (by (try simp only [List.map_toArray, List.map_cons, List.map_nil]); first | done | rfl | (simp only [List.length_drop, List.length_take]; rfl)) ?_; (with_reducible refine (cinnabarref01_Text.calls k _ _ l0 t200 t201 _ ?side1 ?side2 A7.out).mono ?_); (case side1 => repeat (first | exact (Kd.C_below HR0.out HB.out) | (with_reducible refine Kd.C_alloc ?_ _) | (with_reducible refine Kd.C_drewN ?_ _) | (with_reducible refine Kd.C_drew ?_))); (case side2 => exact HC0.out); rintro e w12 ⟨rfl, hb⟩; refine ⟨_, rfl, ?_⟩; have n0_ := Aside0.mk (below_step (by repeat (first | (with_reducible first | exact HB.out | apply below_alloc | apply pw_below_drewN | apply below_drew1) | exact HB.out)) hb); clear HB; have HB := n0_; clear n0_; (try clear hb); (try clear hb2); (try clear hk); (try clear hi)) | (go_at_call 9; (with_reducible refine (cinnabarlaw01_awake.calls k  t202 _ ?side1 A10.out).mono ?_); (case side1 => first | exact hEnv | exact EnvW.below hEnv (by repeat (first | (with_reducible first | exact HB.out | apply below_alloc | apply pw_below_drewN | apply below_drew1) | exact HB.out)) | exact hEnv.drewN _); rintro e w13 ⟨rfl, hb⟩; have n0_ := Aside0.mk (below_step (by repeat (first | (with_reducible first | exact HB.out | apply below_alloc | apply pw_below_drewN | apply below_drew1) | exact HB.out)) hb); clear HB; have HB := n0_; clear n0_; (try clear hb); (try clear hb2); (try clear hk); (try clear hi)))
        go_ret
        exact ⟨by first | rfl | (simp [errW_none, errW_some] <;> rfl) | (simp [*, errW_none, errW_some] <;> rfl), by repeat (first | (with_reducible first | exact HB.out | apply below_alloc | apply pw_below_drewN | apply below_drew1) | exact HB.out)⟩
      · rw [if_neg c9] at H
        have c9b0 : (t198.toList == t200.toList) = false := beq_eq_false_iff_ne.mpr c9
        have c9b1 : (t198.toList != t200.toList) = true := bne_iff_ne.mpr c9
        obtain rfl := Option.some.inj H
        go_enter Tryz.func4, Tryz.ntmps4
        go_wp2_with (first | ((with_reducible refine gate_callee (f := 13) rfl ?_); refine goesL_ (some 8) rfl rfl Tryz.func13 (by kernel_rfl) rfl #[.slice A0 l0.length c0] rfl (by (try simp only [List.map_toArray, List.map_cons, List.map_nil]); first | done | rfl | (simp only [List.length_drop, List.length_take]; rfl)) ?_; (with_reducible refine (cinnabarlaw01_long.calls k _ _ l0 false _ ?side1 ?side2 A2.out).mono ?_); (case side1 => repeat (first | exact HR0.out | (with_reducible refine Kd.C_alloc ?_ _) | (with_reducible refine Kd.C_drewN ?_ _) | (with_reducible refine Kd.C_drew ?_))); (case side2 => exact HC0.out); rintro e w' ⟨rfl, ⟨nd, rfl⟩⟩; refine ⟨_, rfl, ?_⟩) | ((with_reducible refine gate_callee (f := 14) rfl ?_); refine goesL_ (some 12) rfl rfl Tryz.func14 (by kernel_rfl) rfl #[.slice A0 l0.length c0] rfl (by (try simp only [List.map_toArray, List.map_cons, List.map_nil]); first | done | rfl | (simp only [List.length_drop, List.length_take]; rfl)) ?_; (with_reducible refine (TkC.Text.calls _ _ l0 t198 t199 _ ?side1 ?side2 ?side3 A6.out).mono ?_); (case side1 => repeat (first | exact HR0.out | (with_reducible refine Kd.C_alloc ?_ _) | (with_reducible refine Kd.C_drewN ?_ _) | (with_reducible refine Kd.C_drew ?_))); (case side2 => exact HC0.out); (case side3 => first | exact hEnv | exact EnvW.below hEnv (by repeat (first | (with_reducible first | exact HB.out | apply below_alloc | apply pw_below_drewN | apply below_drew1) | exact HB.out)) | exact hEnv.drewN _); rintro e w14 ⟨rfl, hb⟩; refine ⟨_, rfl, ?_⟩; have n0_ := Aside0.mk (below_step (by repeat (first | (with_reducible first | exact HB.out | apply below_alloc | apply pw_below_drewN | apply below_drew1) | exact HB.out)) hb); clear HB; have HB := n0_; clear n0_; (try clear hb); (try clear hb2); (try clear hk); (try clear hi)) | ((with_reducible refine gate_callee (f := 15) rfl ?_); refine goesL_ (some 17) rfl rfl Tryz.func15 (by kernel_rfl) rfl #[.slice A0 l0.length c0] rfl (by (try simp only [List.map_toArray, List.map_cons, List.map_nil]); first | done | rfl | (simp only [List.length_drop, List.length_take]; rfl)) ?_; (with_reducible refine (cinnabarref01_Text.calls k _ _ l0 t200 t201 _ ?side1 ?side2 A7.out).mono ?_); (case side1 => repeat (first | exact (Kd.C_below HR0.out HB.out) | (with_reducible refine Kd.C_alloc ?_ _) | (with_reducible refine Kd.C_drewN ?_ _) | (with_reducible refine Kd.C_drew ?_))); (case side2 => exact HC0.out); rintro e w15 ⟨rfl, hb⟩; refine ⟨_, rfl, ?_⟩; have n0_ := Aside0.mk (below_step (by repeat (first | (with_reducible first | exact HB.out | apply below_alloc | apply pw_below_drewN | apply below_drew1) | exact HB.out)) hb); clear HB; have HB := n0_; clear n0_; (try clear hb); (try clear hb2); (try clear hk); (try clear hi)))
        go_ret
        exact ⟨by first | rfl | (simp [errW_none, errW_some] <;> rfl) | (simp [*, errW_none, errW_some] <;> rfl), by repeat (first | (with_reducible first | exact HB.out | apply below_alloc | apply pw_below_drewN | apply below_drew1) | exact HB.out)⟩
    · rw [if_neg c8] at H
      have c8b0 : (t199 == t201) = false := beq_eq_false_iff_ne.mpr c8
      have c8b1 : (t199 != t201) = true := bne_iff_ne.mpr c8
      obtain rfl := Option.some.inj H
      go_enter Tryz.func4, Tryz.ntmps4
      go_wp2_with (first | ((with_reducible refine gate_callee (f := 13) rfl ?_); refine goesL_ (some 8) rfl rfl Tryz.func13 (by kernel_rfl) rfl #[.slice A0 l0.length c0] rfl (by (try simp only [List.map_toArray, List.map_cons, List.map_nil]); first | done | rfl | (simp only [List.length_drop, List.length_take]; rfl)) ?_; (with_reducible refine (cinnabarlaw01_long.calls k _ _ l0 false _ ?side1 ?side2 A2.out).mono ?_); (case side1 => repeat (first | exact HR0.out | (with_reducible refine Kd.C_alloc ?_ _) | (with_reducible refine Kd.C_drewN ?_ _) | (with_reducible refine Kd.C_drew ?_))); (case side2 => exact HC0.out); rintro e w' ⟨rfl, ⟨nd, rfl⟩⟩; refine ⟨_, rfl, ?_⟩) | ((with_reducible refine gate_callee (f := 14) rfl ?_); refine goesL_ (some 12) rfl rfl Tryz.func14 (by kernel_rfl) rfl #[.slice A0 l0.length c0] rfl (by (try simp only [List.map_toArray, List.map_cons, List.map_nil]); first | done | rfl | (simp only [List.length_drop, List.length_take]; rfl)) ?_; (with_reducible refine (TkC.Text.calls _ _ l0 t198 t199 _ ?side1 ?side2 ?side3 A6.out).mono ?_); (case side1 => repeat (first | exact HR0.out | (with_reducible refine Kd.C_alloc ?_ _) | (with_reducible refine Kd.C_drewN ?_ _) | (with_reducible refine Kd.C_drew ?_))); (case side2 => exact HC0.out); (case side3 => first | exact hEnv | exact EnvW.below hEnv (by repeat (first | (with_reducible first | exact HB.out | apply below_alloc | apply pw_below_drewN | apply below_drew1) | exact HB.out)) | exact hEnv.drewN _); rintro e w16 ⟨rfl, hb⟩; refine ⟨_, rfl, ?_⟩; have n0_ := Aside0.mk (below_step (by repeat (first | (with_reducible first | exact HB.out | apply below_alloc | apply pw_below_drewN | apply below_drew1) | exact HB.out)) hb); clear HB; have HB := n0_; clear n0_; (try clear hb); (try clear hb2); (try clear hk); (try clear hi)) | ((with_reducible refine gate_callee (f := 15) rfl ?_); refine goesL_ (some 17) rfl rfl Tryz.func15 (by kernel_rfl) rfl #[.slice A0 l0.length c0] rfl (by (try simp only [List.map_toArray, List.map_cons, List.map_nil]); first | done | rfl | (simp only [List.length_drop, List.length_take]; rfl)) ?_; (with_reducible refine (cinnabarref01_Text.calls k _ _ l0 t200 t201 _ ?side1 ?side2 A7.out).mono ?_); (case side1 => repeat (first | exact (Kd.C_below HR0.out HB.out) | (with_reducible refine Kd.C_alloc ?_ _) | (with_reducible refine Kd.C_drewN ?_ _) | (with_reducible refine Kd.C_drew ?_))); (case side2 => exact HC0.out); rintro e w17 ⟨rfl, hb⟩; refine ⟨_, rfl, ?_⟩; have n0_ := Aside0.mk (below_step (by repeat (first | (with_reducible first | exact HB.out | apply below_alloc | apply pw_below_drewN | apply below_drew1) | exact HB.out)) hb); clear HB; have HB := n0_; clear n0_; (try clear hb); (try clear hb2); (try clear hk); (try clear hi)))
      go_ret
      exact ⟨by first | rfl | (simp [errW_none, errW_some] <;> rfl) | (simp [*, errW_none, errW_some] <;> rfl), by repeat (first | (with_reducible first | exact HB.out | apply below_alloc | apply pw_below_drewN | apply below_drew1) | exact HB.out)⟩
end Go.Proofs.YtgeonilideojnaaGreatDoor.Pr
end
section
namespace Go.Proofs.YtgeonilideojnaaGreatDoor.Lw
open Go Go.RowKit Tk Go.Proofs.YtgeonilideojnaaGreatDoor.Pr Go.Proofs.YtgeonilideojnaaGreatDoorW.PrintWords
set_option linter.unusedVariables false
set_option linter.unusedSimpArgs false
theorem TokensWrite_pure (xs : List STok) (hf : Fit xs) : ∃ k, cinnabarlaw01_TokensWrite.f k xs = some true := by
  apply Ev.rounds
  obtain ⟨b, hl, hb⟩ := long_f xs hf
  cases b with
  | true =>
    refine Ev.congr (fun k => (by rw [cinnabarlaw01_TokensWrite.f] : cinnabarlaw01_TokensWrite.f k xs = _)) (Ev.bind hl ?_)
    simp only [if_true]
    exact awake_some fun k => rfl
  | false =>
    have hs := hb rfl
    have hT := small_text hf hs
    have hR := Rf.Text_f xs (by have := hs.1; omega) (fun x hx => ⟨(hf.2 x hx).1, by have := hs.2 x hx; omega⟩)
    refine Ev.congr (fun k => (by rw [cinnabarlaw01_TokensWrite.f] : cinnabarlaw01_TokensWrite.f k xs = _)) (Ev.bind hl ?_)
    simp only [Bool.false_eq_true, if_false, hT, Option.bind_some]
    refine Ev.bind hR ?_
    simp only [if_true]
    exact awake_some fun k => rfl
end Go.Proofs.YtgeonilideojnaaGreatDoor.Lw
end
section
namespace Go.Proofs.YtgeonilideojnaaGreatDoor.Lw
open Go.ChangeShapes Go.WideShapes Go.ChangeAt Go.RowKit Go.Joins
open Go.ChangeMaps (open_string shut_string)
open Go.Proofs.YtgeonilideojnaaGreatDoor.Pr Go.Proofs.YtgeonilideojnaaGreatDoorW.PrintWords
set_option linter.unusedVariables false
set_option linter.unusedSimpArgs false
set_option maxRecDepth 100000 in
theorem tokensWrite_lifted (os : Os) (started : os.Started) (H : Type) (enc : TypeId × Value → H) :
    ReturnsInHanded {} Tryz.checked os 4 .any (fun w args => (Rows.tokensWriteSpec.pre enc Tryz.prog Tryz.f4 Rows.tokensWriteRow.domain false w args ∧ laidMetH Tryz.prog laidL w) ∧ sizedMet enc Tryz.prog Tryz.f4 (OpenSpec.ofChange Rows.tokensWriteSpec) false w args)
      (Rows.tokensWriteSpec.post enc Tryz.prog Tryz.f4 false true false false) := by
  refine wrap_laid (C := Tryz.checked) (X := fun w _ => laidMetH Tryz.prog laidL w) (fun _ _ _ hh h => h.of_heap hh) own started (by kernel_rfl) Tryz.func4
    (ChangeSpec.witness_shaped (enc := enc) (C := Tryz.checked) (os := os) (X := fun w _ => laidMetH Tryz.prog laidL w) false (World.laidAll Tryz.prog os laidL) #[.slice none 0 0] 8 (World.laidAll_os _ _ _)
      (World.shaped_of_ZipB (by kernel_rfl) (by kernel_rfl)) (by kernel_rfl) (by kernel_rfl) (by kernel_rfl)
      (by rw [MakeChecks.laidMetH_plain _ _ _ (by kernel_rfl)]; exact laidMet_laidAll _ (by kernel_rfl) (by kernel_rfl))) ?_
  intro W base args ds gs before hval0 hW hsz0 hL hsh
  have hE := env_of hL hsh
  have hsz : (DataW.weightsEach Tryz.prog (Tryz.f4.params.toList ++ Rows.tokensWriteSpec.plain.varTypes Tryz.prog) (ds ++ gs)).all (· ≤ reachBytes) = true := hsz0
  have hval : ∀ (j : Nat) t v, Tryz.f4.params[j]? = some t → args[j]? = some v → Value.okWide Tryz.prog W .any base t v := hval0
  have hW' := hW
  obtain ⟨p, q, hA0, hV, rfl, hfz, hnd⟩ := hW
  have hA : DataW.TrodAll enc Tryz.prog W 0 (fun _ => true) true Tryz.f4.params.toList args.toList ds p := hA0
  rw [Tryz.params4] at hA hval hsz
  obtain ⟨v0, vs0, d0, ds0, p0, q0, hargs, rfl, rfl, h0, r0⟩ := trodAll_cons hA
  obtain ⟨rfl, rfl, rfl⟩ := trodAll_nil r0
  obtain rfl : args = #[v0] := by cases args; simp_all
  obtain ⟨rfl, rfl⟩ := trodVars_none hV
  have k0 := h0
  have lt0 : ∀ x ∈ p0, x.block < W.heap.size := by obtain ⟨m, hm⟩ := k0; exact DataW.trod_lt m _ _ _ hm
  obtain ⟨A0, c0, xs0, rfl, hC0, hc0, hok0⟩ := open_toks hsz (j := 0) rfl rfl (hval 0 23 v0 rfl rfl) k0
  clear hA0 hval0 hsz0 hsz
  obtain ⟨k, hk⟩ := TokensWrite_pure xs0 hok0
  refine (cinnabarlaw01_TokensWrite.calls k A0 c0 xs0 true W hC0 hc0 hE hk).mono fun e W' ⟨he, bel⟩ => ?_
  subst he
  exact ⟨_, rfl, _, _, _, [], _, [], hW', trodAll_mk1 (shut_bool Tryz.underlying4 _), (trodAll_cons_mk (Below.trod laidOut (by kernel_rfl) (of_decide_eq_true (by kernel_rfl)) k0 bel lt0) trodAll_mk0), rfl, bel.frame _, fun h => by cases h⟩
theorem tokensWrite_over : Rows.tokensWriteRow.holds Tryz.pinned (OpenSpec.ofChange Rows.tokensWriteSpec) :=
  OpenClaim.holds_of_wide 4 Tryz.f4 rfl rfl rfl rfl rfl rfl rfl ⟨rfl, rfl, rfl, rfl, rfl⟩ rfl rfl rfl rfl rfl (by kernel_rfl) Tryz.func4 (by kernel_rfl)
    (of_decide_eq_true (by kernel_rfl)) (by unfold Func.isWrapper; first | (rw [if_pos (by decide +kernel)]; kernel_rfl) | (rw [if_neg (by decide +kernel)]; exact ⟨rfl, rfl⟩))
    (fun os started H enc _ => tokensWrite_lifted os started H enc)
end Go.Proofs.YtgeonilideojnaaGreatDoor.Lw
namespace Go.Proofs.YtgeonilideojnaaGreatDoor
theorem tokensWrite_card : Rows.TokensWriteCardSaid :=
  Claim7.holds_tied_plain_at .later [] [.data, .data, .data, .data, .sentinel, .sentinel, .pinned] true (true, "665b99ac99360173511c14b8ca128cfc928be2ec3ee8f78b1c704b7227bf8d04") true Lw.tokensWrite_over (fun _ h => by cases h) (by kernel_rfl) (fun _ h => by cases h) tokensWrite_row_tie rfl ⟨rfl, rfl⟩ (by kernel_rfl) rfl
    (fun f fn hf hfn => by
      obtain rfl : f = 4 := Option.some.inj ((show Tryz.prog.funcNamed "cinnabar/cinnabarlaw01.TokensWrite" = some 4 by kernel_rfl).symm.trans hf) |>.symm
      obtain rfl : fn = Tryz.f4 := (Option.some.inj (Tryz.func4.symm.trans hfn)).symm
      exact ⟨by kernel_rfl, fun j t ht => by
        rw [Tryz.params4] at ht
        have hm : t ∈ [23] := by simpa using Array.mem_of_getElem? ht
        have hall : ([23].all fun u => !Tryz.prog.wantsStandIn u) = true := by kernel_rfl
        exact (show Tryz.prog.wantsStandIn t = false by simpa using List.all_eq_true.1 hall t hm)⟩)
    (by kernel_rfl)
#print axioms tokensWrite_card
end Go.Proofs.YtgeonilideojnaaGreatDoor
end
