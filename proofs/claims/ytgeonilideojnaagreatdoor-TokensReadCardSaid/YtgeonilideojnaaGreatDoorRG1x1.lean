/- A part of a proof over the package's statements: contracts of functions and plain facts, merged by a program of this session's. -/
import Derived.Test.YtgeonilideojnaaGreatDoorProg
import Derived.WalkKit
import Derived.WalkSpells
import Derived.WalkLawsBesides
import Derived.Deep.QuietTactic
import Derived.BigQuiet
import Derived.Lib.Hide
import Derived.Test.YtgeonilideojnaaGreatDoorRows
import Derived.ProofKit
import Derived.OpenShut
import Derived.ShutString
import Derived.ChangeOld
import Derived.Below
import Derived.SizedLaws
import Derived.LaidMore
import Derived.Lay
import Derived.Handed
import Derived.HandedShaped
import Derived.Stop.LaidErr
import Derived.Stop.Joined
import Derived.Shelf.Vars
import Derived.Lib.SmallJoins
import Derived.Maps.AppendAt
import Derived.Laws.BytesArg
import Derived.Lib.ConvBytes
import Derived.Shelf.Strings.Builder1
import Derived.Shelf.Strings.Trim
import Derived.Shelf.Small.Utf8
import Derived.Shelf.Small.Strs
import Derived.Shelf.Strings.BuilderF
import Derived.Shelf.Strings.BuilderK
import Derived.Shelf.Strconv.Itoa0
import Derived.Shelf.Strconv.ParseIntEmpty
import Derived.Shelf.LaysM
import Derived.Shelf.Strconv.Clone
import Derived.Shelf.Strconv.SyntaxError
import Derived.Shelf.LaysC
import Derived.Shelf.Strconv.ToError
import Derived.Shelf.Strconv.Lower
import Derived.Shelf.Strconv.ParseUint10
import Derived.Shelf.Strconv.ParseUint10Empty
import Derived.Shelf.Strconv.ParseUint10Any
import Derived.Shelf.Strconv.ParseInt10
import Derived.Shelf.Strconv.RangeError
import Derived.Shelf.Strconv.ToErrorRange
import Derived.Shelf.Strconv.ParseUintEmpty
import Derived.Shelf.Strconv.ParseUint10b64
import Derived.Shelf.Strconv.ParseUint10b32
import Derived.Shelf.Strconv.ParseUint10b16
import Derived.Shelf.Strconv.ParseUint10b8
import Derived.Shelf.Strconv.ParseUint10At
import Derived.Shelf.Strconv.ParseInt10At64
import Derived.Shelf.Strconv.ParseInt10At32
import Derived.Shelf.Strconv.ParseInt10At16
import Derived.Shelf.Strconv.ParseInt10At8
import Derived.Shelf.Strconv.ParseInt10All
import Derived.Shelf.Strconv.ParseIntPublic10
import Derived.Shelf.Strconv.ErrVarParseInt
import Derived.Shelf.Strings.Search1
import Derived.Shelf.Strings.Search2
import Derived.Shelf.Strings.Search3
import Derived.Shelf.Strings.Count
import Derived.Shelf.Strings.Shaped
import Derived.Shelf.GgClosure.StringsIndexFunc
import Derived.Ground.GgwProg
import Derived.Shelf.GgClosure.StringsIndexFuncTop
import Derived.Shelf.GgClosure.StringsRunes
import Derived.Shelf.Strings.Prefix
import Derived.Shelf.Strings.Split
import Derived.Shelf.Strings.SplitShaped
import Derived.Shelf.Unicode.Decode
import Derived.Shelf.Strings.Runes
import Derived.Shelf.Strings.RuneCount
import Derived.Shelf.Strings.AsciiSet
import Derived.Shelf.Strings.Explode
import Derived.Shelf.Unicode.DecodeSlow
import Derived.Shelf.Unicode.DecodeAny
import Derived.Shelf.Unicode.DecodeLast
import Derived.Shelf.Strings.FuncGrows
import Derived.Shelf.Slices.Turned
import Derived.Shelf.Strings.SlTrimAscii
import Derived.Lib.DecodeN
import Derived.Laws.RangeString
section
namespace Go.Proofs.YtgeonilideojnaaGreatDoor.Tk
set_option linter.unusedVariables false
set_option linter.unusedSimpArgs false
abbrev Bs := List UInt8
def B (l : Bs) : ByteArray := ⟨l.toArray⟩
theorem size_B (l : Bs) : (B l).size = l.length := rfl
theorem B_inj {a b : Bs} (h : B a = B b) : a = b := by
  have h2 : (B a).data.toList = (B b).data.toList := by rw [h]
  simpa [B] using h2
theorem B_of (s : ByteArray) : B s.data.toList = s := by cases s; simp [B]
structure Tok where
  kind : Int
  text : Bs
  at_ : Int
deriving DecidableEq
def small (c : UInt8) : Bool := decide (97 ≤ c.toNat) && decide (c.toNat ≤ 122)
def capital (c : UInt8) : Bool := decide (65 ≤ c.toNat) && decide (c.toNat ≤ 90) || c.toNat == 95
def digit (c : UInt8) : Bool := decide (48 ≤ c.toNat) && decide (c.toNat ≤ 57)
def letter (c : UInt8) : Bool := small c || capital c || digit c
def signsL : Bs := [43, 45, 42, 47, 92, 94, 60, 62, 61, 126, 58, 46, 63, 64, 35, 38, 36]
def sign (c : UInt8) : Bool := signsL.contains c
def blank (c : UInt8) : Bool := c.toNat == 32 || (c.toNat == 10 || c.toNat == 9)
def permitted (c : UInt8) : Bool := c.toNat == 10 || (c.toNat == 9 || (decide (32 ≤ c.toNat) && decide (c.toNat ≤ 126)))
inductive R (α : Type) where
  | ok (a : α) (j : Nat)
  | bad (i : Nat) (e : Nat)
def pk (l : Bs) (i : Nat) : UInt8 := (l.drop i).headD 0
def byteS (l : Bs) (i from_ : Nat) : R UInt8 :=
  match l.drop i with
  | [] => .bad from_ 12
  | c :: _ => if permitted c then .ok c (i + 1) else .bad i 2
def spanLen (p : UInt8 → Bool) : Bs → Nat
  | [] => 0
  | c :: t => if p c then spanLen p t + 1 else 0
def skipR : Nat → Nat → Nat → Bs → R Unit
  | m, f, i, [] => if m = 2 then .bad f 12 else .ok () i
  | m, f, i, [c] =>
    if m = 2 then (if permitted c then .bad f 12 else .bad i 2)
    else if m = 1 then (if c = 10 then .ok () (i + 1) else if permitted c then .ok () (i + 1) else .bad i 2)
    else if blank c then .ok () (i + 1) else if c = 37 then .ok () (i + 1) else .ok () i
  | m, f, i, c :: d :: t =>
    if m = 2 then (if c = 42 ∧ d = 47 then skipR 0 0 (i + 2) t else if permitted c then skipR 2 f (i + 1) (d :: t) else .bad i 2)
    else if m = 1 then (if c = 10 then skipR 0 0 (i + 1) (d :: t) else if permitted c then skipR 1 0 (i + 1) (d :: t) else .bad i 2)
    else if c = 47 ∧ d = 42 then skipR 2 i (i + 2) t
    else if blank c then skipR 0 0 (i + 1) (d :: t) else if c = 37 then skipR 1 0 (i + 1) (d :: t) else .ok () i
theorem skip2_nil (f i : Nat) : skipR 2 f i [] = .bad f 12 := by simp [skipR]
theorem skip2_pre (f i : Nat) (t : Bs) : skipR 2 f i (42 :: 47 :: t) = skipR 0 0 (i + 2) t := by rw [skipR]; simp
theorem skip2_cons (f i : Nat) (c : UInt8) (t : Bs) (h : ([42, 47] : Bs).isPrefixOf (c :: t) = false) : skipR 2 f i (c :: t) = if permitted c then skipR 2 f (i + 1) t else .bad i 2 := by
  cases t with
  | nil => simp [skipR]
  | cons d u =>
    rw [skipR, if_pos rfl, if_neg]
    rintro ⟨rfl, rfl⟩
    simp [List.isPrefixOf] at h
theorem skip1_nil (f i : Nat) : skipR 1 f i [] = .ok () i := by simp [skipR]
theorem skip1_cons (f i : Nat) (c : UInt8) (t : Bs) : skipR 1 f i (c :: t) = if c = 10 then skipR 0 0 (i + 1) t else if permitted c then skipR 1 0 (i + 1) t else .bad i 2 := by
  cases t with
  | nil => simp [skipR]
  | cons d u => rw [skipR]; simp
theorem skip0_nil (f i : Nat) : skipR 0 f i [] = .ok () i := by simp [skipR]
theorem skip0_pre (f i : Nat) (t : Bs) : skipR 0 f i (47 :: 42 :: t) = skipR 2 i (i + 2) t := by rw [skipR]; simp
theorem skip0_cons (f i : Nat) (c : UInt8) (t : Bs) (h : ([47, 42] : Bs).isPrefixOf (c :: t) = false) : skipR 0 f i (c :: t) = if blank c then skipR 0 0 (i + 1) t else if c = 37 then skipR 1 0 (i + 1) t else .ok () i := by
  cases t with
  | nil => simp [skipR]
  | cons d u =>
    rw [skipR]
    have : ¬ (c = 47 ∧ d = 42) := by
      rintro ⟨rfl, rfl⟩
      simp [List.isPrefixOf] at h
    simp [this]
def skipS (l : Bs) (i : Nat) : R Unit := skipR 0 0 i (l.drop i)
def unesc (c : UInt8) : UInt8 := if c = 110 then 10 else if c = 116 then 9 else c
def escapeS (l : Bs) (i from_ : Nat) (esc : Bs) : R UInt8 :=
  match byteS l i from_ with
  | .bad a e => .bad a e
  | .ok c j => if esc.contains c then .ok (unesc c) j else .bad (i - 1) 11
def quotedR (mark : UInt8) (esc : Bs) (from_ : Nat) : Nat → Bs → Bs → R Bs
  | i, [], acc => .bad from_ 12
  | i, c :: t, acc =>
    if !permitted c then .bad i 2
    else if c = mark then .ok acc (i + 1)
    else if c = 10 || c = 9 then .bad i 11
    else if c = 92 then
      match t with
      | [] => .bad from_ 12
      | d :: u => if !permitted d then .bad (i + 1) 2 else if esc.contains d then quotedR mark esc from_ (i + 2) u (acc ++ [unesc d]) else .bad i 11
    else quotedR mark esc from_ (i + 1) t (acc ++ [c])
theorem quotedR_nil (m : UInt8) (e : Bs) (f i : Nat) (acc : Bs) : quotedR m e f i [] acc = .bad f 12 := by
  unfold quotedR; rfl
theorem quotedR_cons (mark : UInt8) (esc : Bs) (f i : Nat) (c : UInt8) (t acc : Bs) : quotedR mark esc f i (c :: t) acc =
    if !permitted c then .bad i 2
    else if c = mark then .ok acc (i + 1)
    else if c = 10 || c = 9 then .bad i 11
    else if c = 92 then
      match t with
      | [] => .bad f 12
      | d :: u => if !permitted d then .bad (i + 1) 2 else if esc.contains d then quotedR mark esc f (i + 2) u (acc ++ [unesc d]) else .bad i 11
    else quotedR mark esc f (i + 1) t (acc ++ [c]) := by
  conv => lhs; unfold quotedR
  rfl
def quotedS (mark : UInt8) (esc : Bs) (l : Bs) (i : Nat) : R Bs := quotedR mark esc i (i + 1) (l.drop (i + 1)) []
def charS (l : Bs) (i : Nat) : R Bs :=
  match l.drop (i + 2) with
  | [] => .bad i 11
  | c :: t =>
    if !permitted c then .bad (i + 2) 2
    else if c = 92 then
      match t with
      | [] => .bad i 11
      | d :: _ => if !permitted d then .bad (i + 3) 2 else if d = 110 || d = 116 || d = 92 then .ok [unesc d] (i + 4) else .bad i 11
    else if c = 10 || c = 9 then .bad i 11
    else .ok [c] (i + 3)
def nameLen : Bs → Nat
  | [] => 0
  | [c] => if letter c then 1 else 0
  | c :: d :: t => if letter c || (c == 46 && small d) then nameLen (d :: t) + 1 else 0
def namedEnd (l : Bs) (i : Nat) (c : UInt8) : Nat :=
  if c = 33 && (pk l (i + 1) == 46 || pk l (i + 1) == 58) && capital (pk l (i + 2)) then i + 2
  else if c ≠ 59 && c ≠ 33 then i + 1 + spanLen sign (l.drop (i + 1))
  else i + 1
def cut (l : Bs) (i j : Nat) : Bs := (l.drop i).take (j - i)
def word (first : UInt8 → Bool) : Bs → Bool
  | [] => false
  | c :: t => first c && (letter c && t.all letter)
def splitDot : Bs → List Bs
  | [] => [[]]
  | c :: t => if c = 46 then [] :: splitDot t else match splitDot t with
    | [] => [[c]]
    | p :: ps => (c :: p) :: ps
def partsOk (s : Bs) : Bool := (splitDot s).all (word small)
def plain (s : Bs) : Bool :=
  if partsOk s then true
  else if s = [] then false
  else if s = [46] then false
  else if s = [59] then true
  else if s = [33] then true
  else !([47, 42] : Bs).isPrefixOf s && s.all sign
def printable (s : Bs) (breaks : Bool) : Bool := s.all fun c => permitted c && (breaks || decide (32 ≤ c.toNat))
def limitS (n : Nat) : Nat := if 40 < n then 6 else 0
def checkName (s : Bs) : Nat :=
  if partsOk s then (if (splitDot s).any (fun x => decide (40 < x.length)) then 6 else 0)
  else if s = [] || s = [46] || (s ≠ [33, 46] && !plain s && (s.contains 46 || !printable s false)) then 2
  else limitS s.length
def decVal (s : Bs) : Nat := s.foldl (fun n c => n * 10 + (c.toNat - 48)) 0
def checkInt (s : Bs) : Nat :=
  if s = [] || !s.all digit then 2 else if 4611686018427387903 < decVal s then 5 else 0
def form (b : Bool) : Nat := if b then 0 else 2
def puncts : List Bs := [[40], [41], [91], [93], [123], [125], [44], [124], [40, 40]]
def checkS (k : Int) (s : Bs) : Nat :=
  if k = 0 then form (s == [])
  else if k = 7 then form (s == [46])
  else if k = 1 then checkName s
  else if k = 2 then (if word capital s then limitS s.length else 2)
  else if k = 3 then checkInt s
  else if k = 4 then form (s.length == 1 && printable s true)
  else if k = 5 then form (printable s true)
  else if k = 6 then form (puncts.contains s)
  else 3
def tokenRaw (l : Bs) (i : Nat) (c : UInt8) : R Tok :=
  if small c then .ok ⟨1, cut l i (i + nameLen (l.drop i)), i⟩ (i + nameLen (l.drop i))
  else if capital c then .ok ⟨2, cut l i (i + spanLen letter (l.drop i)), i⟩ (i + spanLen letter (l.drop i))
  else if c = 48 && pk l (i + 1) == 39 then
    match charS l i with
    | .ok s j => .ok ⟨4, s, i⟩ j
    | .bad a e => .bad a e
  else if digit c then .ok ⟨3, cut l i (i + spanLen digit (l.drop i)), i⟩ (i + spanLen digit (l.drop i))
  else if c = 34 then
    match quotedS 34 [110, 116, 92, 34] l i with
    | .ok s j => .ok ⟨5, s, i⟩ j
    | .bad a e => .bad a e
  else if c = 39 then
    match quotedS 39 [92, 39] l i with
    | .ok s j => if s = [] || s.contains 46 then .bad i 11 else .ok ⟨1, s, i⟩ j
    | .bad a e => .bad a e
  else if ([40, 41, 91, 93, 123, 125, 44, 124] : Bs).contains c then .ok ⟨6, [c], i⟩ (i + 1)
  else if c = 59 || c = 33 || sign c then
    let j := namedEnd l i c
    if cut l i j = [46] then
      match l.drop j with
      | [] => .ok ⟨7, [46], i⟩ j
      | d :: _ => if !blank d && d ≠ 37 then .bad i 11 else .ok ⟨7, [46], i⟩ j
    else .ok ⟨1, cut l i j, i⟩ j
  else .bad i 2
def tokenS (l : Bs) (i : Nat) : R Tok :=
  match l.drop i with
  | [] => .ok ⟨0, [], i⟩ i
  | c :: _ =>
    match tokenRaw l i c with
    | .bad a e => .bad a e
    | .ok t j => if checkS t.kind t.text = 0 then .ok t j else .bad i (checkS t.kind t.text)
inductive Res where
  | toks (l : List Tok)
  | fault (i : Nat) (e : Nat)
def called (acc : List Tok) (before : Nat) (t : Tok) : Tok :=
  match acc.getLast? with
  | none => t
  | some p => if t.kind = 6 ∧ t.text = [40] ∧ (before : Int) = t.at_ ∧ (p.kind = 1 ∨ p.kind = 2) then { t with text := [40, 40] } else t
def loopS (l : Bs) : Nat → Nat → List Tok → Res
  | 0, _, _ => .fault 0 0
  | k + 1, i, acc =>
    match skipS l i with
    | .bad a e => .fault a e
    | .ok _ j =>
      match tokenS l j with
      | .bad a e => .fault a e
      | .ok t m => if t.kind = 0 then .toks (acc ++ [called acc i t]) else loopS l k m (acc ++ [called acc i t])
def tokensS (l : Bs) : Res := if 65536 < l.length then .fault 0 6 else loopS l (l.length + 1) 0 []
def escapedS (marks : Bs) : Bs → Bs
  | [] => []
  | c :: t =>
    (if c = 10 && marks.contains 110 then [92, 110] else if c = 9 && marks.contains 110 then [92, 116]
     else if c ≠ 110 && marks.contains c then [92, c] else [c]) ++ escapedS marks t
def nameS (s : Bs) : Bs := if plain s then s else [39] ++ escapedS [92, 39] s ++ [39]
def writtenS (k : Int) (s : Bs) : Bs :=
  if k = 1 then nameS s
  else if k = 4 then [48, 39] ++ escapedS [110, 92] s
  else if k = 5 then [34] ++ escapedS [110, 92, 34] s ++ [34]
  else if k = 6 then s.take 1
  else s
def stateS (t : Tok) : Bool := t.kind == 1 && (t.text == [33, 46] || t.text == [33, 58])
def firstS : List Tok → Nat
  | [] => 0
  | t :: ts => if checkS t.kind t.text = 0 then firstS ts else checkS t.kind t.text
def textR : Option Tok → List Tok → Bs → Option Bs
  | _, [], out => some out
  | prev, t :: ts, out =>
    let follows := match prev with | some p => p.kind == 1 || p.kind == 2 | none => false
    let variable_ := match ts with | u :: _ => u.kind == 2 | [] => false
    if (t.text == [40, 40] && t.kind == 6 && !follows) || (t.kind == 1 && t.text == [33, 46] && !variable_) then none
    else
      let gap := match prev with
        | some p => p.kind ≠ 7 && !(t.kind == 6 && t.text == [40, 40]) && !(t.kind == 2 && stateS p)
        | none => false
      let w := if stateS t && variable_ then t.text else writtenS t.kind t.text
      textR (some t) ts (out ++ (if gap then [32] else []) ++ w ++ (if t.kind == 7 then [10] else []))
def beforeEnd : List Tok → List Tok
  | [] => []
  | t :: ts => if t.kind = 0 then [] else t :: beforeEnd ts
def endCheck : List Tok → Nat
  | [] => 0
  | t :: ts => if t.kind = 0 then checkS t.kind t.text else endCheck ts
def textS (l : List Tok) : Bs × Nat :=
  if firstS (beforeEnd l) ≠ 0 then ([], firstS (beforeEnd l))
  else if endCheck l ≠ 0 then ([], endCheck l)
  else match textR none (beforeEnd l) [] with
    | none => ([], 2)
    | some out => if 65536 < out.length then ([], 6) else (out, 0)
end Go.Proofs.YtgeonilideojnaaGreatDoor.Tk
end
section
namespace Go.Proofs.YtgeonilideojnaaGreatDoor.Tk
open Go Go.RowKit
set_option linter.unusedVariables false
set_option linter.unusedSimpArgs false
theorem hide {p : Prop} (h : p) : Hid p := h
section
variable {a b c : World} {row : Option Nat}
theorem gb_refl (a : World) (row : Option Nat) : a.grownBy a row := World.grownBy.refl a row
theorem gb_drewN (h : a.grownBy b row) (n : Nat) : a.grownBy (b.drewN n) row := ⟨h.os, h.tape, h.output, h.size, h.block⟩
theorem gb_drew (h : a.grownBy b row) : a.grownBy b.drew row := ⟨h.os, h.tape, h.output, h.size, h.block⟩
theorem gb_trans (h : a.grownBy b row) (k : b.grownBy c row) : a.grownBy c row :=
  ⟨k.os.trans h.os, k.tape.trans h.tape, k.output.trans h.output, Nat.le_trans h.size k.size,
   fun i hi hn => (k.block i (Nat.lt_of_lt_of_le hi h.size) hn).trans (h.block i hi hn)⟩
theorem gb_any (h : a.grownBy b none) (row : Option Nat) : a.grownBy b row := ⟨h.os, h.tape, h.output, h.size, fun i hi _ => h.block i hi (by simp)⟩
theorem gb_then (h : a.grownBy b row) (k : b.grownBy c none) : a.grownBy c row := gb_trans h (gb_any k row)
theorem gb_new (h : a.grownBy b row) {g : Nat} (k : b.grownBy c (some g)) (hg : a.heap.size ≤ g) : a.grownBy c row :=
  ⟨k.os.trans h.os, k.tape.trans h.tape, k.output.trans h.output, Nat.le_trans h.size k.size,
   fun i hi hn => (k.block i (Nat.lt_of_lt_of_le hi h.size) (by simp; omega)).trans (h.block i hi hn)⟩
theorem gb_alloc (h : a.grownBy b row) (o : Obj) : a.grownBy (b.alloc o) row := gb_trans h (World.grownBy_alloc b o row)
theorem gb_set (h : a.grownBy b row) {p : Addr} (hp : row = some p.block ∨ a.heap.size ≤ p.block) (u : Value) : a.grownBy (b.setCell p u) row :=
  ⟨h.os, h.tape, h.output, by simpa [World.setCell] using h.size, fun i hi hn => (Below.heap_setCell b p u i (by
    rintro rfl
    rcases hp with hp | hp
    · exact hn hp.symm
    · omega)).trans (h.block i hi hn)⟩
theorem gb_below (h : a.grownBy b none) : Below a.heap.size a b := ⟨h.os, h.tape, h.output, h.size, fun i hi => h.block i hi (by simp)⟩
theorem below_gb (h : Below a.heap.size a b) (row : Option Nat) : a.grownBy b row := ⟨h.os, h.tape, h.output, h.size, fun i hi _ => h.block i hi⟩
end
def Blk (w : World) (g : Nat) (t : TypeId) (cs : Array Value) : Prop := w.heap[g]? = some (.cells cs t (0, 0))
section
variable {w w1 : World} {g : Nat} {t : TypeId} {cs : Array Value}
theorem Blk.lt (h : Blk w g t cs) : g < w.heap.size := by
  unfold Blk at h
  exact (Array.getElem?_eq_some_iff.1 h).1
theorem Blk.cell (h : Blk w g t cs) (i : Nat) : w.cell? ⟨g, i, none⟩ = cs[i]? := by unfold Blk at h; simp [World.cell?, h]
theorem Blk.frozen (h : Blk w g t cs) (i : Nat) : w.frozen? ⟨g, i, none⟩ = false := by unfold Blk at h; simp [World.frozen?, h]
theorem Blk.new (w : World) (t : TypeId) (cs : Array Value) : Blk (w.alloc (.cells cs t)) w.heap.size t cs := heap_alloc_new w _
theorem Blk.drewN (h : Blk w g t cs) (n : Nat) : Blk (w.drewN n) g t cs := h
theorem Blk.drew (h : Blk w g t cs) : Blk w.drew g t cs := h
theorem Blk.alloc (h : Blk w g t cs) (o : Obj) : Blk (w.alloc o) g t cs := (Below.heap_alloc w o g h.lt).trans h
theorem Blk.put (h : Blk w g t cs) (i : Nat) (u : Value) : Blk (w.setCell ⟨g, i, none⟩ u) g t (cs.setIfInBounds i u) := by
  unfold Blk at h ⊢
  simp [World.setCell, Array.getElem?_modify, h]
theorem Blk.far (h : Blk w g t cs) {p : Addr} (hp : g ≠ p.block) (u : Value) : Blk (w.setCell p u) g t cs := (Below.heap_setCell w p u g hp).trans h
theorem Blk.grown {row : Option Nat} (h : Blk w g t cs) (hb : w.grownBy w1 row) (hg : some g ≠ row) : Blk w1 g t cs := (hb.block g h.lt hg).trans h
theorem Blk.kept (h : Blk w g t cs) (hb : w.grownBy w1 none) : Blk w1 g t cs := h.grown hb (by simp)
end
def Sc (w : World) (b : Nat) (l : Bs) (i : Nat) : Prop := Blk w b 45 #[.string (B l), .int .i64 (i : Int)] ∧ 8 ≤ b
section
variable {w w1 : World} {b : Nat} {l : Bs} {i : Nat}
theorem Sc.c0 (h : Sc w b l i) : w.cell? ⟨b, 0, none⟩ = some (.string (B l)) := Blk.cell h.1 0
theorem Sc.c1 (h : Sc w b l i) : w.cell? ⟨b, 1, none⟩ = some (.int .i64 (i : Int)) := Blk.cell h.1 1
theorem Sc.f1 (h : Sc w b l i) : w.frozen? ⟨b, 1, none⟩ = false := Blk.frozen h.1 1
theorem Sc.drewN (h : Sc w b l i) (n : Nat) : Sc (w.drewN n) b l i := h
theorem Sc.alloc (h : Sc w b l i) (o : Obj) : Sc (w.alloc o) b l i := ⟨Blk.alloc h.1 o, h.2⟩
theorem Sc.set (h : Sc w b l i) (j : Nat) : Sc (w.setCell ⟨b, 1, none⟩ (.int .i64 (j : Int))) b l j := ⟨Blk.put h.1 1 _, h.2⟩
theorem Sc.far (h : Sc w b l i) {p : Addr} (hp : b ≠ p.block) (u : Value) : Sc (w.setCell p u) b l i := ⟨Blk.far h.1 hp u, h.2⟩
theorem Sc.grown {row : Option Nat} (h : Sc w b l i) (hb : w.grownBy w1 row) (hg : some b ≠ row) : Sc w1 b l i := ⟨Blk.grown h.1 hb hg, h.2⟩
theorem Sc.kept (h : Sc w b l i) (hb : w.grownBy w1 none) : Sc w1 b l i := ⟨Blk.kept h.1 hb, h.2⟩
theorem Sc.lt (h : Sc w b l i) : b < w.heap.size := Blk.lt h.1
theorem Sc.ge (h : Sc w b l i) : 8 ≤ b := h.2
end
def atOf (w : World) (b : Nat) : Nat := match w.cell? ⟨b, 1, none⟩ with
  | some v => (intOf v).toNat
  | none => 0
theorem Sc.at_ {w : World} {b : Nat} {l : Bs} {i : Nat} (h : Sc w b l i) : atOf w b = i := by simp [atOf, h.c1, intOf]
theorem Sc.less {w w1 : World} {b : Nat} {l : Bs} {i j : Nat} (h : Sc w b l i) (h1 : Sc w1 b l j) (hij : i < j) (hi : i < l.length) : l.length - atOf w1 b < l.length - atOf w b := by
  rw [h.at_, h1.at_]; omega
def fault (i e : Int) : List PanicEntry := [{ v := .iface 26 (.agg #[.int .i64 i, .int .i64 e]), recovered := false }]
def ScPost {α : Type} (w : World) (b : Nat) (l : Bs) (val : α → Value) : R α → Ending → World → Prop
  | .ok a j, e, w' => e = .returned (val a) ∧ Sc w' b l j ∧ w.grownBy w' (some b)
  | .bad i c, e, w' => e = .panicked (fault i c) ∧ w.grownBy w' (some b)
theorem ScPost.elim {α : Type} {w : World} {b : Nat} {l : Bs} {val : α → Value} {r : R α} {e : Ending} {w' : World} (h : ScPost w b l val r e w') :
    (∃ a j, r = .ok a j ∧ e = .returned (val a) ∧ Sc w' b l j ∧ w.grownBy w' (some b)) ∨ (∃ i c, r = .bad i c ∧ e = .panicked (fault i c) ∧ w.grownBy w' (some b)) := by
  cases r with
  | ok a j => exact .inl ⟨a, j, rfl, h⟩
  | bad i c => exact .inr ⟨i, c, rfl, h⟩
def Env (w : World) : Prop := ∃ w0 : World, (∃ m, w0.cell? ⟨0, 0, none⟩ = some (.int .i64 m)) ∧ (∃ tp p, w0.var? Tryz.prog "strconv.ErrRange" = some #[.iface tp p]) ∧ Below 8 w0 w
theorem Env.grown {w w1 : World} {row : Option Nat} (h : Env w) (hg : w.grownBy w1 row) (hs : 8 ≤ w.heap.size) (hr : ∀ k, row = some k → 8 ≤ k) : Env w1 := by
  obtain ⟨w0, h1, h2, h3⟩ := h
  exact ⟨w0, h1, h2, h3.grown hg hs hr⟩
theorem Env.drewN {w : World} (h : Env w) (n : Nat) : Env (w.drewN n) := by
  obtain ⟨w0, h1, h2, h3⟩ := h
  exact ⟨w0, h1, h2, ⟨h3.os, h3.tape, h3.output, h3.size, h3.block⟩⟩
theorem Env.maxLen {w : World} (h : Env w) : ∃ m, w.cell? ⟨0, 0, none⟩ = some (.int .i64 m) := by
  obtain ⟨w0, ⟨m, h1⟩, _, h3⟩ := h
  exact ⟨m, (h3.cell (p := ⟨0, 0, none⟩) (by decide)).trans h1⟩
theorem Env.errRange {w : World} (h : Env w) : ∃ tp p, w.var? Tryz.prog "strconv.ErrRange" = some #[.iface tp p] := by
  obtain ⟨w0, _, ⟨tp, p, h2⟩, h3⟩ := h
  exact ⟨tp, p, var?_below h3 (g := 2) (by kernel_rfl) (by decide) h2⟩
theorem drop_at {l : Bs} {i : Nat} {c : UInt8} {t : Bs} (h : l.drop i = c :: t) : ∃ hl : i < l.length, l[i]'hl = c ∧ l.drop (i + 1) = t := by
  have hl : i < l.length := by
    rcases Nat.lt_or_ge i l.length with h1 | h1
    · exact h1
    · rw [List.drop_eq_nil_of_le h1] at h; cases h
  rw [List.drop_eq_getElem_cons hl] at h
  injection h with h1 h2
  exact ⟨hl, h1, h2⟩
theorem drop_nil {l : Bs} {i : Nat} (h : l.drop i = []) : l.length ≤ i := by simpa using h
theorem B_get {l : Bs} {i : Nat} {c : UInt8} {t : Bs} (h : l.drop i = c :: t) : ∀ h : i < (B l).size, (B l)[i]'h = c := by
  obtain ⟨hl, h1, _⟩ := drop_at h
  intro _
  exact h1
theorem pk_cons {l : Bs} {i : Nat} {c : UInt8} {t : Bs} (h : l.drop i = c :: t) : pk l i = c := by simp [pk, h]
theorem pk_nil {l : Bs} {i : Nat} (h : l.drop i = []) : pk l i = 0 := by simp [pk, h]
theorem pk_lt {l : Bs} {i : Nat} {p : UInt8 → Bool} (h0 : p 0 = false) (h : p (pk l i) = true) : i < l.length := by
  rcases Nat.lt_or_ge i l.length with h1 | h1
  · exact h1
  · rw [pk_nil (List.drop_eq_nil_of_le h1), h0] at h
    cases h
theorem toList_B (l : Bs) : (B l).toList = l := by rw [ByteArray.toList_eq]; rfl
theorem extract_B (l : Bs) (i j : Nat) : (B l).extract i j = B (cut l i j) := by
  apply ByteArray.ext
  rw [ByteArray.data_extract]
  apply Array.ext'
  simp [B, cut, List.extract_eq_take_drop]
theorem extract_drop (l : Bs) (i : Nat) : (B l).extract i l.length = B (l.drop i) := by
  rw [extract_B]
  congr 1
  unfold cut
  rw [List.take_of_length_le (by simp)]
theorem wrap_sum (i k : Nat) (h : i + k ≤ 9223372036854775807) : IntKind.i64.wrap ((i : Int) + (k : Int)) = (i : Int) + (k : Int) := by
  rw [IntKind.wrap_i64]; omega
theorem drawn2 (w : World) (a b : Nat) : ∃ n, (w.drewN a).drewN b = w.drewN n := ⟨a + b, World.drewN_drewN ..⟩
theorem ret_bool {a b : Bool} (h : a = b) : Ending.returned (.bool a) = .returned (.bool b) := by rw [h]
theorem ret_int {k : IntKind} {a b : Int} (h : a = b) : Ending.returned (.int k a) = .returned (.int k b) := by rw [h]
theorem ret_str {a b : ByteArray} (h : a = b) : Ending.returned (.string a) = .returned (.string b) := by rw [h]
theorem toNat_ne {c d : UInt8} (h : ¬ c = d) : ¬ c.toNat = d.toNat := fun e => h (UInt8.toNat_inj.1 e)
theorem is_yes {c d : UInt8} {n : Int} (hn : (d.toNat : Int) = n) (h : c = d) : ((c.toNat : Int) == n) = true := by subst h; simp [hn]
theorem is_no {c d : UInt8} {n : Int} (hn : (d.toNat : Int) = n) (h : ¬ c = d) : ((c.toNat : Int) == n) = false := by
  rw [beq_eq_false_iff_ne]
  intro e
  exact toNat_ne h (by omega)
theorem isnt_yes {c d : UInt8} {n : Int} (hn : (d.toNat : Int) = n) (h : ¬ c = d) : ((c.toNat : Int) != n) = true := by simp [bne, is_no hn h]
theorem isnt_no {c d : UInt8} {n : Int} (hn : (d.toNat : Int) = n) (h : c = d) : ((c.toNat : Int) != n) = false := by simp [bne, is_yes hn h]
theorem byte_lt (c : UInt8) : c.toNat < 256 := c.toNat_lt
theorem byte_eq {c : UInt8} {n : Nat} (hn : n < 256) (h : c.toNat = n) : c = UInt8.ofNat n := by
  rw [← h]; simp
end Go.Proofs.YtgeonilideojnaaGreatDoor.Tk
end
section
namespace Go.Proofs.YtgeonilideojnaaGreatDoor
set_option linter.unusedVariables false
set_option linter.unusedSimpArgs false
open Go Go.RowKit
def EnvW (w : World) : Prop := Tk.Env w ∧ 8 ≤ w.heap.size
theorem EnvW.below {w w1 : World} (h : EnvW w) (hb : Below w.heap.size w w1) : EnvW w1 := by
  obtain ⟨⟨w0, h1, h2, h3⟩, hs⟩ := h
  exact ⟨⟨w0, h1, h2, h3.trans (hb.mono hs)⟩, Nat.le_trans hs hb.size⟩
theorem EnvW.drewN {w : World} (h : EnvW w) (n : Nat) : EnvW (w.drewN n) := ⟨h.1.drewN n, h.2⟩
end Go.Proofs.YtgeonilideojnaaGreatDoor
end
section
namespace Go.Proofs.YtgeonilideojnaaGreatDoor.Lw
open Go.ChangeShapes Go.WideShapes Go.ChangeAt Go.RowKit Go.Joins
open Go.ChangeMaps (open_string shut_string)
set_option linter.unusedVariables false
set_option linter.unusedSimpArgs false
theorem own : ownKnob Tryz.prog.godebug = none := by kernel_rfl
theorem laidOut : laidOutB Tryz.prog = true := by kernel_rfl
theorem wrap_laid {H : Type} {enc : TypeId × Value → H} {a : Assume} {C : Checked} {os : Os} {f : FuncId} {fn : Func} {s : ChangeSpec} {conds : List PathCond} {apart fresh handsOn again : Bool} {X : World → Array Value → Prop}
    (hX : ∀ (w w' : World) (args : Array Value), w.heap = w'.heap → X w args → X w' args)
    (own : ownKnob C.prog.godebug = none) (started : os.Started) (noInit : C.prog.inits.idxOf? f = none) (hfn : C.prog.funcs[f]? = some fn)
    (witness : ∃ (w : World) (tape : Tape) (i : Input), w.os = os ∧ (w.forCall tape i).Shaped C.prog ∧ i.vars = [] ∧ Input.okWide C.prog (w.forCall tape i) .any w.heap.size f i ∧
      ((s.pre enc C.prog fn conds apart (w.forCall tape i).memory i.args ∧ X (w.forCall tape i).memory i.args) ∧ sizedMet enc C.prog fn (OpenSpec.ofChange s) apart (w.forCall tape i).memory i.args) ∧ a.holds C.prog (lone (Frame.enter C.prog f i.args .normal) [] (w.forCall tape i)))
    (contract : ∀ (W : World) (base : Nat) (args : Array Value) (ds gs : List (DataW H)) (before : List MemPlace),
      (∀ (j : Nat) t v, fn.params[j]? = some t → args[j]? = some v → Value.okWide C.prog W .any base t v) →
      DataW.Whole enc C.prog fn.params.toList s.vars apart W args.toList ds gs before →
      (DataW.weightsEach C.prog (fn.params.toList ++ s.plain.varTypes C.prog) (ds ++ gs)).all (· ≤ reachBytes) = true → X W args → W.ShapedOpen C.prog →
      Calls C.prog f args W fun e W' => ∃ v, e = .returned v ∧ s.post enc C.prog fn apart fresh handsOn again W args v W') :
    ReturnsInHanded a C os f .any (fun w args => (s.pre enc C.prog fn conds apart w args ∧ X w args) ∧ sizedMet enc C.prog fn (OpenSpec.ofChange s) apart w args) (s.post enc C.prog fn apart fresh handsOn again) := by
  refine returnsInHanded_of_calls own started noInit witness ?_
  intro w tape i _ hsh _ hok hpre _
  obtain ⟨_, _, _, fn', hfn', _, _, _, _, hval⟩ := hok
  obtain rfl : fn' = fn := Option.some.inj (hfn'.symm.trans hfn)
  obtain ⟨⟨⟨ds, gs, before, hw, _⟩, hx⟩, hz⟩ := hpre
  refine (contract (w.forCall tape i) w.heap.size i.args ds gs before hval (DataW.Whole.of_heap (w' := w.forCall tape i) (by rfl) hw) (hz.weights hw) (hX _ _ _ (by rfl) hx) hsh).mono fun e W' ⟨v, he, hp⟩ => ?_
  subst he
  exact ChangeSpec.post_blind hp
abbrev laidL : List (String × DataW Unit) := [("math/bits.deBruijn32tab", Rows.laid_math_bits_deBruijn32tab), ("math/bits.deBruijn64tab", Rows.laid_math_bits_deBruijn64tab), ("internal/strconv.uint64pow10", Rows.laid_internal_strconv_uint64pow10), ("unicode/utf8.acceptRanges", Rows.laid_unicode_utf8_acceptRanges), ("strconv.ErrRange", Rows.laid_strconv_ErrRange), ("strconv.ErrSyntax", Rows.laid_strconv_ErrSyntax), ("unicode/utf8.first", Rows.laid_unicode_utf8_first)]
theorem star : "*" ++ "errors.errorString" = "*errors.errorString" := by decide
theorem rowES (u : TypeId) (h : Tryz.prog.typeName? 3 u = some "*errors.errorString") : u = 139 :=
  typeName_ptr_named (nm := "errors.errorString") (by rw [star]; kernel_rfl) (by kernel_rfl) (by decide) u (by rw [star]; exact h)
theorem env_of {W : World} (h : laidMetH Tryz.prog laidL W) (hsh : W.ShapedOpen Tryz.prog) : EnvW W := by
  rw [MakeChecks.laidMetH_plain _ _ _ (by kernel_rfl)] at h
  have h5 := h.tail.tail.tail.tail
  obtain ⟨a, s, hv, _⟩ := laid_sentinel h5 (g := 2) (ti := 57) (by kernel_rfl) (by kernel_rfl) Tryz.underlying57 rowES Tryz.underlying139 Tryz.underlying141 rfl rfl Tryz.underlying9 (by kernel_rfl) (by kernel_rfl)
  have hm := cell_of_shapedOpen_int (g := 0) (t := 3) (zero := #[.int .i64 0]) (k := .i64) hsh (of_decide_eq_true (by kernel_rfl)) (by kernel_rfl) rfl (by kernel_rfl) (by kernel_rfl) Tryz.underlying3
  refine ⟨⟨W, hm, ⟨_, _, hv⟩, Below.refl _ _⟩, ?_⟩
  obtain ⟨row, hrow⟩ : ∃ row, ((begin Tryz.prog (fun _ _ => 0) default).world.heap[8 - 1]?).bind Obj.row? = some row := Option.isSome_iff_exists.1 (by kernel_rfl)
  obtain ⟨cs, hh, _⟩ := hsh.1 (8 - 1) row.1 row.2 (of_decide_eq_true (by kernel_rfl)) hrow
  have := (Array.getElem?_eq_some_iff.1 hh).1
  omega
end Go.Proofs.YtgeonilideojnaaGreatDoor.Lw
end
section
namespace Go.Proofs.YtgeonilideojnaaGreatDoor.Tk
open Go Go.RowKit
set_option linter.unusedVariables false
set_option linter.unusedSimpArgs false
theorem own_ge {w : World} {base : Nat} {e : TypeId} {size n : Nat} {v : Value} {xs : List Value} (h : w.ownsRow base e size v n xs) : ∀ k, v.ownBlock = some k → base ≤ k := by
  intro k hk
  rcases h.2 with ⟨rfl, _⟩ | ⟨g, cap, cur, rfl, hb, _⟩
  · simp [Value.ownBlock] at hk
  · simp [Value.ownBlock] at hk; omega
theorem own_in {w : World} {base : Nat} {e : TypeId} {size n : Nat} {v : Value} {xs : List Value} (h : w.ownsRow base e size v n xs) : ∀ k, v.ownBlock = some k → k < w.heap.size := by
  intro k hk
  rcases h.2 with ⟨rfl, _⟩ | ⟨g, cap, cur, rfl, hb, hh, _⟩
  · simp [Value.ownBlock] at hk
  · have : g = k := by simpa [Value.ownBlock] using hk
    subst this
    exact (Array.getElem?_eq_some_iff.1 hh).1
theorem own_kept {w w1 : World} {base : Nat} {e : TypeId} {size n : Nat} {v : Value} {xs : List Value} (h : w.ownsRow base e size v n xs) {b : Nat} (hg : w.grownBy w1 (some b)) (hb : b < base) : w1.ownsRow base e size v n xs := by
  refine h.kept hg ?_
  cases hv : v.ownBlock with
  | none => exact .inl rfl
  | some k => exact .inr (by have := own_ge h k hv; simp; omega)
theorem own_none {w w1 : World} {base : Nat} {e : TypeId} {size n : Nat} {v : Value} {xs : List Value} (h : w.ownsRow base e size v n xs) (hg : w.grownBy w1 none) : w1.ownsRow base e size v n xs := by
  refine h.kept hg ?_
  cases hv : v.ownBlock with
  | none => exact .inl rfl
  | some k => exact .inr (by simp)
theorem gb_own {a b c : World} {row r : Option Nat} (h : a.grownBy b row) (k : b.grownBy c r) (hr : ∀ g, r = some g → a.heap.size ≤ g) : a.grownBy c row := by
  cases r with
  | none => exact gb_then h k
  | some g => exact gb_new h k (hr g rfl)
theorem Blk.own {w w1 : World} {g : Nat} {t : TypeId} {cs : Array Value} {r : Option Nat} (h : Blk w g t cs) (k : w.grownBy w1 r) (hr : ∀ x, r = some x → g < x) : Blk w1 g t cs :=
  h.grown k (by intro e; have := hr g e.symm; omega)
theorem Sc.own {w w1 : World} {b : Nat} {l : Bs} {i : Nat} {r : Option Nat} (h : Sc w b l i) (k : w.grownBy w1 r) (hr : ∀ x, r = some x → b < x) : Sc w1 b l i := ⟨Blk.own h.1 k hr, h.2⟩
section
variable {P : Program} {ops : Array Oper} {rest : List Oper} {o : Oper} {a : Act} {Q : Exit → Act → World → Prop}
theorem wp_append1 {W : World} (hgd : o.guard = none) (s x : Operand) (t e : TypeId) (z : Value) (size bytes : Nat)
    (ho : o.op = .call { callee := .builtin .append, args := #[s, x], argTypes := #[t, t] })
    (ht : P.underlying t = some (.slice e)) (hinfo : (P.info? e).map (fun i => (i.zero, i.size, i.bytes)) = some (some z, size, bytes)) (hz : z.cells.size = size) (h0 : 0 < size)
    (base : Nat) (v : Value) (n : Nat) (xs : List Value) (hs : a.eval s = v) (hx : a.eval x = .slice (some ⟨W.heap.size, 0, none⟩) 1 1)
    (cs : Array Value) (hcs : cs.size = size) (h1 : ∀ u ∈ cs.toList, u.oneCell' = true)
    (HO : W.ownsRow base e size v n xs) (hbase : base ≤ W.heap.size) (hn : n + 1 ≤ maxLen) (hl : (n + 1) * bytes ≤ 140737488355328)
    (h : ∀ v1 w1, w1.ownsRow base e size v1 (n + 1) (xs ++ cs.toList) → W.grownBy w1 v.ownBlock → (∀ k, v.ownBlock = some k → base ≤ k) → wpList P ops Q rest (a.put o.dst v1) w1) :
    wpList P ops Q (o :: rest) a (W.alloc (.cells cs e)) := by
  obtain ⟨i0, hi, hzz⟩ := Option.map_eq_some_iff.1 hinfo
  simp only [Prod.mk.injEq] at hzz
  obtain ⟨hz0, hz1, hz2⟩ := hzz
  refine wpList_append_own_at (W.alloc (.cells cs e)) hgd s x t ho base e i0 z size bytes ht hi hz0 hz1 hz2 hz h0 v n xs hs (own_none HO (World.grownBy_alloc W _ none)) ⟨W.heap.size, 0, none⟩ 1 1 cs.toList hx
    (by simp [hcs]) ?_ h1 hn hl (by simp; omega) ?_
  · intro j u hu
    have hb : Blk (W.alloc (.cells cs e)) W.heap.size e cs := Blk.new W e cs
    have ha : (⟨W.heap.size, 0, none⟩ : Addr).add j = ⟨W.heap.size, j, none⟩ := by unfold Addr.add; split <;> simp_all
    rw [ha, hb.cell]
    simpa using hu
  · intro v1 w1 hown hg _ _
    exact h v1 w1 hown (gb_trans (World.grownBy_alloc W _ _) hg) (own_ge HO)
end
def Cells (w : World) (A : Option Addr) (xs : List Value) : Prop := xs ≠ [] → ∃ ad, A = some ad ∧ ∀ j u, xs[j]? = some u → w.cell? (ad.add j) = some u
theorem Cells.kept {w w1 : World} {A : Option Addr} {xs : List Value} (h : Cells w A xs) (hg : w.grownBy w1 none) : Cells w1 A xs := by
  intro hx
  obtain ⟨ad, e, hc⟩ := h hx
  exact ⟨ad, e, fun j u hu => hg.cell (hc j u hu) (by simp)⟩
theorem Cells.blk {w : World} {g : Nat} {t : TypeId} {cs : Array Value} (h : Blk w g t cs) : Cells w (some ⟨g, 0, none⟩) cs.toList := by
  intro _
  refine ⟨_, rfl, fun j u hu => ?_⟩
  have ha : (⟨g, 0, none⟩ : Addr).add j = ⟨g, j, none⟩ := by unfold Addr.add; split <;> simp_all
  rw [ha, h.cell]
  simpa using hu
theorem Cells.at_ {w : World} {A : Option Addr} {xs : List Value} (h : Cells w A xs) {k : Nat} (hk : k < xs.length) : ∃ ad, A = some ad ∧ w.cell? (ad.add k) = some xs[k] := by
  obtain ⟨ad, e, hc⟩ := h (by intro e; simp [e] at hk)
  exact ⟨ad, e, hc k _ (List.getElem?_eq_getElem hk)⟩
def byteVals (l : Bs) : List Value := l.map fun c => .int .u8 (c.toNat : Int)
def OwnB (w : World) (base : Nat) (v : Value) (l : Bs) : Prop := w.ownsRow base 5 1 v l.length (byteVals l)
theorem OwnB.nil (w : World) (base : Nat) : OwnB w base (.slice none 0 0) [] := World.ownsRow_nil w base _ _
theorem OwnB.kept {w w1 : World} {base : Nat} {v : Value} {l : Bs} (h : OwnB w base v l) {b : Nat} (hg : w.grownBy w1 (some b)) (hb : b < base) : OwnB w1 base v l := own_kept h hg hb
theorem OwnB.same {w w1 : World} {base : Nat} {v : Value} {l : Bs} (h : OwnB w base v l) (hg : w.grownBy w1 none) : OwnB w1 base v l := own_none h hg
theorem strOfNums_B (l : Bs) : strOfNums (l.map fun c => (c.toNat : Int)) = B l := by
  have h : ((fun n : Int => UInt8.ofNat n.toNat) ∘ fun c : UInt8 => (c.toNat : Int)) = id := by funext c; simp
  unfold strOfNums
  rw [List.map_map, h, List.map_id]
  rfl
theorem OwnB.string {P : Program} {w : World} {base : Nat} {v : Value} {l : Bs} (h : OwnB w base v l) {src e dst : TypeId} (hs : P.underlying src = some (.slice e)) (he : P.underlying e = some (.int .u8)) (hd : P.underlying dst = some .string) :
    (convert src dst v).run P w = .ok (.string (B l)) w := by
  rcases h.2 with ⟨rfl, hn⟩ | ⟨g, cap, cur, rfl, _⟩
  · rw [run_convert_bytes_nil w src e hs he 0 0 dst hd, List.eq_nil_of_length_eq_zero hn]
    rfl
  · rw [← strOfNums_B]
    refine run_convert_bytes_arg w src e hs he g 0 l.length cap _ (by simp) (fun i hi => ?_) dst hd
    have hl : (byteVals l)[i]? = some (.int .u8 ((l.map fun c => (c.toNat : Int)).getD i 0)) := by
      unfold byteVals
      simp [List.getD_eq_getElem?_getD, hi]
    have hc := World.ownsRow.cells (h := h) (g := g) rfl i _ hl
    have ha : (⟨g, 0, none⟩ : Addr).add i = ⟨g, 0 + i, none⟩ := by unfold Addr.add; split <;> simp_all
    rwa [ha] at hc
theorem conv1 (c : UInt8) (W : World) : (convert 53 9 (.slice (some ⟨W.heap.size, 0, none⟩) 1 1)).run Tryz.prog (W.alloc (.cells #[.int .u8 (c.toNat : Int)] 5)) = .ok (.string (B [c])) (W.alloc (.cells #[.int .u8 (c.toNat : Int)] 5)) := by
  rw [← strOfNums_B]
  refine run_convert_bytes_arg _ 53 5 Tryz.underlying53 Tryz.underlying5 W.heap.size 0 1 1 [(c.toNat : Int)] rfl (fun i hi => ?_) 9 Tryz.underlying9
  obtain rfl : i = 0 := by omega
  exact Blk.cell (Blk.new W 5 #[.int .u8 (c.toNat : Int)]) 0
section
variable {ops : Array Oper} {rest : List Oper} {o : Oper} {a : Act} {Q : Exit → Act → World → Prop}
theorem append_u8 {W : World} (hgd : o.guard = none) (s x : Operand) (ho : o.op = .call { callee := .builtin .append, args := #[s, x], argTypes := #[53, 53] })
    (base : Nat) (v : Value) (l : Bs) (c : UInt8) (hs : a.eval s = v) (hx : a.eval x = .slice (some ⟨W.heap.size, 0, none⟩) 1 1)
    (HO : OwnB W base v l) (hbase : base ≤ W.heap.size) (hl : l.length ≤ 140737488355327)
    (h : ∀ v1 w1, OwnB w1 base v1 (l ++ [c]) → W.grownBy w1 v.ownBlock → (∀ k, v.ownBlock = some k → base ≤ k) → wpList Tryz.prog ops Q rest (a.put o.dst v1) w1) :
    wpList Tryz.prog ops Q (o :: rest) a (W.alloc (.cells #[.int .u8 (c.toNat : Int)] 5)) := by
  refine wp_append1 hgd s x 53 5 (.int .u8 0) 1 1 ho Tryz.underlying53 (by kernel_rfl) rfl (by omega) base v l.length (byteVals l) hs hx _ rfl (by simp [Value.oneCell']) HO hbase (by simp [maxLen]; omega) (by omega) ?_
  intro v1 w1 ho1 hg1 hk1
  refine h v1 w1 ?_ hg1 hk1
  unfold OwnB byteVals at *
  simpa using ho1
end
theorem bytes_conv (s : Bs) (w : World) : (convert 9 53 (.string (B s))).run Tryz.prog w = .ok (.slice (some ⟨w.heap.size, 0, none⟩) s.length (grownCap w s.length 0 5)) (Lib.bytesWorld w 5 (B s)) :=
  Lib.run_convert_string_bytes w 9 53 5 (B s) Tryz.underlying9 Tryz.underlying53 Tryz.underlying5
theorem bytes_gb (s : Bs) (w : World) : w.grownBy (Lib.bytesWorld w 5 (B s)) none :=
  ⟨rfl, rfl, rfl, by rw [Lib.bytesWorld_size]; omega, fun i hi _ => Lib.bytesWorld_at_old w _ _ i hi⟩
theorem bytes_cell (s : Bs) (w : World) {k : Nat} (hk : k < s.length) : (Lib.bytesWorld w 5 (B s)).cell? ⟨w.heap.size, k, none⟩ = some (.int .u8 (s[k].toNat : Int)) := by
  rw [Lib.bytesWorld_cell w _ _ k (by rw [size_B]; exact hk)]
  have : (B s).data.toList = s := rfl
  rw [this, List.getD_eq_getElem?_getD, List.getElem?_eq_getElem hk]
  rfl
end Go.Proofs.YtgeonilideojnaaGreatDoor.Tk
end
section
namespace Go.Proofs
open Go.Shelf
def Tryz.lays170_ren : Go.Shelf.Ren := ⟨fun | 170 => 31 | n => n, fun | 70 => 52 | 3 => 3 | 0 => 0 | 72 => 55 | 37 => 53 | 5 => 5 | n => n, fun | n => n⟩
theorem Tryz.lays170 : Go.Proofs.Lays.n170 Tryz.prog Tryz.lays170_ren := {
  mixed := by kernel_rfl
  f170 := Tryz.func31.trans (congrArg some (by kernel_rfl))
  t0 := Tryz.underlying0
  a0 := Tryz.isAgg0
  z0 := Tryz.sizeOf0
  v0 := Tryz.zeroValue0
  t3 := Tryz.underlying3
  a3 := Tryz.isAgg3
  z3 := Tryz.sizeOf3
  v3 := Tryz.zeroValue3
  t37 := Tryz.underlying53
  a37 := Tryz.isAgg53
  z37 := Tryz.sizeOf53
  v37 := Tryz.zeroValue53
  t70 := Tryz.underlying52
  a70 := Tryz.isAgg52
  z70 := Tryz.sizeOf52
  v70 := Tryz.zeroValue52
  t72 := Tryz.underlying55
  a72 := Tryz.isAgg55
  z72 := Tryz.sizeOf55
  v72 := Tryz.zeroValue55 }
open Go.RowKit in
theorem Tryz.Builder_Len (B b : Nat) (bs : List Value) (w : World) (h : Lib.IsBuilder 55 5 B b bs w) :
    Calls Tryz.prog 31 #[.pointer (some ⟨b, 0, none⟩)] w fun e w' => e = .returned (.int .i64 bs.length) ∧ w' = w := Any.Builder_Len Tryz.lays170 B b bs w h
def Tryz.lays169_ren : Go.Shelf.Ren := ⟨fun | 169 => 32 | n => n, fun | 70 => 52 | 9 => 9 | 0 => 0 | 72 => 55 | 37 => 53 | 127 => 82 | 3 => 3 | 5 => 5 | n => n, fun | n => n⟩
theorem Tryz.lays169 : Go.Proofs.Lays.n169 Tryz.prog Tryz.lays169_ren := {
  mixed := by kernel_rfl
  f169 := Tryz.func32.trans (congrArg some (by kernel_rfl))
  t0 := Tryz.underlying0
  a0 := Tryz.isAgg0
  z0 := Tryz.sizeOf0
  v0 := Tryz.zeroValue0
  t3 := Tryz.underlying3
  a3 := Tryz.isAgg3
  z3 := Tryz.sizeOf3
  v3 := Tryz.zeroValue3
  t9 := Tryz.underlying9
  a9 := Tryz.isAgg9
  z9 := Tryz.sizeOf9
  v9 := Tryz.zeroValue9
  t37 := Tryz.underlying53
  a37 := Tryz.isAgg53
  z37 := Tryz.sizeOf53
  v37 := Tryz.zeroValue53
  t70 := Tryz.underlying52
  a70 := Tryz.isAgg52
  z70 := Tryz.sizeOf52
  v70 := Tryz.zeroValue52
  t72 := Tryz.underlying55
  a72 := Tryz.isAgg55
  z72 := Tryz.sizeOf55
  v72 := Tryz.zeroValue55
  t127 := Tryz.underlying82
  a127 := Tryz.isAgg82
  z127 := Tryz.sizeOf82
  v127 := Tryz.zeroValue82 }
theorem Tryz.Builder_Extra_169 : Builder.Extra Tryz.prog Tryz.lays169_ren := {
  sizeBuilder := by kernel_rfl
  liesBuilder := by kernel_rfl
  t5 := Tryz.underlying5
  a5 := Tryz.isAgg5
  z5 := Tryz.sizeOf5
  v5 := Tryz.zeroValue5
  infoByte := by kernel_rfl
  cellsByte := by kernel_rfl
  sizeByte := by kernel_rfl
  neB5 := by decide }
open Go.RowKit in
theorem Tryz.Builder_String_any (B b : Nat) (l : List UInt8) (w : World) (h : Lib.IsBuilder 55 5 B b (Lib.byteCells l) w) (hBw : B ≤ w.heap.size) :
    Calls Tryz.prog 32 #[.pointer (some ⟨b, 0, none⟩)] w fun e w' => e = .returned (.string ⟨l.toArray⟩) ∧ Below B w w' := Any.Builder_String_any Tryz.lays169 Tryz.Builder_Extra_169 B b l w h hBw
def Tryz.lays160_ren : Go.Shelf.Ren := ⟨fun | 160 => 104 | 232 => 114 | 231 => 113 | 227 => 115 | 234 => 117 | 233 => 116 | 236 => 119 | 235 => 118 | 228 => 128 | 271 => 131 | 151 => 130 | 197 => 129 | 120 => 142 | 152 => 141 | 260 => 140 | 137 => 59 | 119 => 150 | 224 => 126 | 225 => 125 | 217 => 99 | 266 => 112 | n => n, fun | 9 => 9 | 4 => 4 | 3 => 3 | 5 => 5 | 117 => 106 | 116 => 105 | 0 => 0 | 124 => 109 | 21 => 21 | 105 => 114 | 46 => 39 | 119 => 135 | 139 => 138 | 138 => 137 | n => n, fun | 3 => 3 | 4 => 4 | n => n⟩
theorem Tryz.lays160 : Go.Proofs.Lays.n160 Tryz.prog Tryz.lays160_ren := {
  mixed := by kernel_rfl
  f119 := Tryz.func150.trans (congrArg some (by kernel_rfl))
  f120 := Tryz.func142.trans (congrArg some (by kernel_rfl))
  f137 := Tryz.func59.trans (congrArg some (by kernel_rfl))
  f151 := Tryz.func130.trans (congrArg some (by kernel_rfl))
  f152 := Tryz.func141.trans (congrArg some (by kernel_rfl))
  f160 := Tryz.func104.trans (congrArg some (by kernel_rfl))
  f197 := Tryz.func129.trans (congrArg some (by kernel_rfl))
  f217 := Tryz.func99.trans (congrArg some (by kernel_rfl))
  f224 := Tryz.func126.trans (congrArg some (by kernel_rfl))
  f225 := Tryz.func125.trans (congrArg some (by kernel_rfl))
  f227 := Tryz.func115.trans (congrArg some (by kernel_rfl))
  f228 := Tryz.func128.trans (congrArg some (by kernel_rfl))
  f231 := Tryz.func113.trans (congrArg some (by kernel_rfl))
  f232 := Tryz.func114.trans (congrArg some (by kernel_rfl))
  f233 := Tryz.func116.trans (congrArg some (by kernel_rfl))
  f234 := Tryz.func117.trans (congrArg some (by kernel_rfl))
  f235 := Tryz.func118.trans (congrArg some (by kernel_rfl))
  f236 := Tryz.func119.trans (congrArg some (by kernel_rfl))
  f260 := Tryz.func140.trans (congrArg some (by kernel_rfl))
  f266 := Tryz.func112.trans (congrArg some (by kernel_rfl))
  f271 := Tryz.func131.trans (congrArg some (by kernel_rfl))
  t0 := Tryz.underlying0
  a0 := Tryz.isAgg0
  z0 := Tryz.sizeOf0
  v0 := Tryz.zeroValue0
  t3 := Tryz.underlying3
  a3 := Tryz.isAgg3
  z3 := Tryz.sizeOf3
  v3 := Tryz.zeroValue3
  t4 := Tryz.underlying4
  a4 := Tryz.isAgg4
  z4 := Tryz.sizeOf4
  v4 := Tryz.zeroValue4
  t5 := Tryz.underlying5
  a5 := Tryz.isAgg5
  z5 := Tryz.sizeOf5
  v5 := Tryz.zeroValue5
  t9 := Tryz.underlying9
  a9 := Tryz.isAgg9
  z9 := Tryz.sizeOf9
  v9 := Tryz.zeroValue9
  t21 := Tryz.underlying21
  a21 := Tryz.isAgg21
  z21 := Tryz.sizeOf21
  v21 := Tryz.zeroValue21
  t46 := Tryz.underlying39
  a46 := Tryz.isAgg39
  z46 := Tryz.sizeOf39
  v46 := Tryz.zeroValue39
  t105 := Tryz.underlying114
  a105 := Tryz.isAgg114
  z105 := Tryz.sizeOf114
  v105 := Tryz.zeroValue114
  t116 := Tryz.underlying105
  a116 := Tryz.isAgg105
  z116 := Tryz.sizeOf105
  t117 := Tryz.underlying106
  a117 := Tryz.isAgg106
  z117 := Tryz.sizeOf106
  v117 := Tryz.zeroValue106
  t119 := Tryz.underlying135
  a119 := Tryz.isAgg135
  z119 := Tryz.sizeOf135
  t124 := Tryz.underlying109
  a124 := Tryz.isAgg109
  z124 := Tryz.sizeOf109
  v124 := Tryz.zeroValue109
  t138 := Tryz.underlying137
  a138 := Tryz.isAgg137
  z138 := Tryz.sizeOf137
  v138 := Tryz.zeroValue137
  t139 := Tryz.underlying138
  a139 := Tryz.isAgg138
  z139 := Tryz.sizeOf138
  v139 := Tryz.zeroValue138
  g3 := by kernel_rfl
  g4 := by kernel_rfl }
def Tryz.lays137_ren : Go.Shelf.Ren := ⟨fun | 137 => 59 | 217 => 99 | 266 => 112 | n => n, fun | 9 => 9 | 5 => 5 | 3 => 3 | n => n, fun | n => n⟩
theorem Tryz.lays137 : Go.Proofs.Lays.n137 Tryz.prog Tryz.lays137_ren := {
  mixed := by kernel_rfl
  f137 := Tryz.func59.trans (congrArg some (by kernel_rfl))
  f217 := Tryz.func99.trans (congrArg some (by kernel_rfl))
  f266 := Tryz.func112.trans (congrArg some (by kernel_rfl))
  t3 := Tryz.underlying3
  a3 := Tryz.isAgg3
  z3 := Tryz.sizeOf3
  v3 := Tryz.zeroValue3
  t5 := Tryz.underlying5
  a5 := Tryz.isAgg5
  z5 := Tryz.sizeOf5
  v5 := Tryz.zeroValue5
  t9 := Tryz.underlying9
  a9 := Tryz.isAgg9
  z9 := Tryz.sizeOf9
  v9 := Tryz.zeroValue9 }
open Go.RowKit in
theorem Tryz.strings_IndexByte (s : ByteArray) (c : Int) (w : World) :
    Calls Tryz.prog 59 #[.string s, .int .u8 c] w fun e w' => e = .returned (.int .i64 (Lib.indexByte s.data.toList c.toNat.toUInt8)) ∧ w' = w := Any.strings_IndexByte Tryz.lays137 s c w
def Tryz.laysC174_ren : Go.Shelf.Ren := ⟨fun | 174 => 105 | 247 => 120 | 245 => 121 | 287 => 132 | 279 => 133 | 280 => 134 | 281 => 135 | 282 => 136 | 321 => 143 | 322 => 144 | 316 => 145 | 171 => 147 | 205 => 146 | 243 => 151 | 246 => 152 | 283 => 153 | 284 => 154 | 285 => 155 | 286 => 156 | 129 => 158 | 317 => 157 | 318 => 159 | 319 => 160 | 320 => 161 | 337 => 162 | 338 => 163 | n => n, fun | 9 => 9 | 3 => 3 | 2 => 2 | 75 => 57 | 85 => 97 | 4 => 4 | 167 => 117 | 5 => 5 | 53 => 118 | 175 => 119 | 46 => 39 | 168 => 121 | 37 => 53 | 0 => 0 | 210 => 131 | 21 => 21 | 127 => 82 | 145 => 141 | 143 => 139 | 171 => 143 | 173 => 146 | 212 => 149 | 51 => 125 | 20 => 20 | 213 => 150 | 232 => 154 | 233 => 155 | 80 => 63 | n => n, fun | 15 => 1 | 16 => 2 | 17 => 5 | 18 => 6 | 19 => 7 | n => n⟩
theorem Tryz.laysC174 : Go.Proofs.LaysC.n174 Tryz.prog Tryz.laysC174_ren := {
  mixed := by kernel_rfl
  f129 := Tryz.func158.trans (congrArg some (by kernel_rfl))
  f171 := Tryz.func147.trans (congrArg some (by kernel_rfl))
  f174 := Tryz.func105.trans (congrArg some (by kernel_rfl))
  f205 := Tryz.func146.trans (congrArg some (by kernel_rfl))
  f243 := Tryz.func151.trans (congrArg some (by kernel_rfl))
  f245 := Tryz.func121.trans (congrArg some (by kernel_rfl))
  f246 := Tryz.func152.trans (congrArg some (by kernel_rfl))
  f247 := Tryz.func120.trans (congrArg some (by kernel_rfl))
  f279 := Tryz.func133.trans (congrArg some (by kernel_rfl))
  f280 := Tryz.func134.trans (congrArg some (by kernel_rfl))
  f281 := Tryz.func135.trans (congrArg some (by kernel_rfl))
  f282 := Tryz.func136.trans (congrArg some (by kernel_rfl))
  f283 := Tryz.func153.trans (congrArg some (by kernel_rfl))
  f284 := Tryz.func154.trans (congrArg some (by kernel_rfl))
  f285 := Tryz.func155.trans (congrArg some (by kernel_rfl))
  f286 := Tryz.func156.trans (congrArg some (by kernel_rfl))
  f287 := Tryz.func132.trans (congrArg some (by kernel_rfl))
  f316 := Tryz.func145.trans (congrArg some (by kernel_rfl))
  f317 := Tryz.func157.trans (congrArg some (by kernel_rfl))
  f318 := Tryz.func159.trans (congrArg some (by kernel_rfl))
  f319 := Tryz.func160.trans (congrArg some (by kernel_rfl))
  f320 := Tryz.func161.trans (congrArg some (by kernel_rfl))
  f321 := Tryz.func143.trans (congrArg some (by kernel_rfl))
  f322 := Tryz.func144.trans (congrArg some (by kernel_rfl))
  f337 := Tryz.func162.trans (congrArg some (by kernel_rfl))
  f338 := Tryz.func163.trans (congrArg some (by kernel_rfl))
  t0 := Tryz.underlying0
  a0 := Tryz.isAgg0
  z0 := Tryz.sizeOf0
  v0 := Tryz.zeroValue0
  t2 := Tryz.underlying2
  a2 := Tryz.isAgg2
  z2 := Tryz.sizeOf2
  v2 := Tryz.zeroValue2
  t3 := Tryz.underlying3
  a3 := Tryz.isAgg3
  z3 := Tryz.sizeOf3
  v3 := Tryz.zeroValue3
  t4 := Tryz.underlying4
  a4 := Tryz.isAgg4
  z4 := Tryz.sizeOf4
  v4 := Tryz.zeroValue4
  t5 := Tryz.underlying5
  a5 := Tryz.isAgg5
  z5 := Tryz.sizeOf5
  v5 := Tryz.zeroValue5
  t9 := Tryz.underlying9
  a9 := Tryz.isAgg9
  z9 := Tryz.sizeOf9
  v9 := Tryz.zeroValue9
  t20 := Tryz.underlying20
  a20 := Tryz.isAgg20
  z20 := Tryz.sizeOf20
  v20 := Tryz.zeroValue20
  t21 := Tryz.underlying21
  a21 := Tryz.isAgg21
  z21 := Tryz.sizeOf21
  v21 := Tryz.zeroValue21
  t37 := Tryz.underlying53
  a37 := Tryz.isAgg53
  z37 := Tryz.sizeOf53
  v37 := Tryz.zeroValue53
  t46 := Tryz.underlying39
  a46 := Tryz.isAgg39
  z46 := Tryz.sizeOf39
  v46 := Tryz.zeroValue39
  t51 := Tryz.underlying125
  a51 := Tryz.isAgg125
  z51 := Tryz.sizeOf125
  v51 := Tryz.zeroValue125
  t53 := Tryz.underlying118
  a53 := Tryz.isAgg118
  z53 := Tryz.sizeOf118
  v53 := Tryz.zeroValue118
  t75 := Tryz.underlying57
  a75 := Tryz.isAgg57
  z75 := Tryz.sizeOf57
  v75 := Tryz.zeroValue57
  t85 := Tryz.underlying97
  a85 := Tryz.isAgg97
  z85 := Tryz.sizeOf97
  v85 := Tryz.zeroValue97
  t127 := Tryz.underlying82
  a127 := Tryz.isAgg82
  z127 := Tryz.sizeOf82
  v127 := Tryz.zeroValue82
  t143 := Tryz.underlying139
  a143 := Tryz.isAgg139
  z143 := Tryz.sizeOf139
  v143 := Tryz.zeroValue139
  t145 := Tryz.underlying141
  a145 := Tryz.isAgg141
  z145 := Tryz.sizeOf141
  v145 := Tryz.zeroValue141
  t167 := Tryz.underlying117
  a167 := Tryz.isAgg117
  z167 := Tryz.sizeOf117
  v167 := Tryz.zeroValue117
  t168 := Tryz.underlying121
  a168 := Tryz.isAgg121
  z168 := Tryz.sizeOf121
  v168 := Tryz.zeroValue121
  t171 := Tryz.underlying143
  a171 := Tryz.isAgg143
  z171 := Tryz.sizeOf143
  v171 := Tryz.zeroValue143
  t173 := Tryz.underlying146
  a173 := Tryz.isAgg146
  z173 := Tryz.sizeOf146
  v173 := Tryz.zeroValue146
  t175 := Tryz.underlying119
  a175 := Tryz.isAgg119
  z175 := Tryz.sizeOf119
  v175 := Tryz.zeroValue119
  t210 := Tryz.underlying131
  a210 := Tryz.isAgg131
  z210 := Tryz.sizeOf131
  v210 := Tryz.zeroValue131
  t212 := Tryz.underlying149
  a212 := Tryz.isAgg149
  z212 := Tryz.sizeOf149
  v212 := Tryz.zeroValue149
  t213 := Tryz.underlying150
  a213 := Tryz.isAgg150
  z213 := Tryz.sizeOf150
  t232 := Tryz.underlying154
  a232 := Tryz.isAgg154
  z232 := Tryz.sizeOf154
  v232 := Tryz.zeroValue154
  t233 := Tryz.underlying155
  a233 := Tryz.isAgg155
  z233 := Tryz.sizeOf155
  v233 := Tryz.zeroValue155
  g15 := by kernel_rfl
  g16 := by kernel_rfl
  g17 := by kernel_rfl
  g18 := by kernel_rfl
  g19 := by kernel_rfl
  t80 := Tryz.underlying63
  a80 := Tryz.isAgg63
  z80 := Tryz.sizeOf63
  v80 := Tryz.zeroValue63
  i0 := by kernel_rfl
  i2 := by kernel_rfl
  i3 := by kernel_rfl
  i4 := by kernel_rfl
  i5 := by kernel_rfl
  i9 := by kernel_rfl
  i20 := by kernel_rfl
  i21 := by kernel_rfl
  i37 := by kernel_rfl
  i46 := by kernel_rfl
  i51 := by kernel_rfl
  i53 := by kernel_rfl
  i75 := by kernel_rfl
  i80 := by kernel_rfl
  i85 := by kernel_rfl
  i127 := by kernel_rfl
  i143 := by kernel_rfl
  i145 := by kernel_rfl
  i167 := by kernel_rfl
  i168 := by kernel_rfl
  i171 := by kernel_rfl
  i173 := by kernel_rfl
  i175 := by kernel_rfl
  i210 := by kernel_rfl
  i212 := by kernel_rfl
  i232 := by kernel_rfl
  i233 := by kernel_rfl
  m15 := by kernel_rfl
  m16 := by kernel_rfl
  m17 := by kernel_rfl
  m18 := by kernel_rfl
  m19 := by kernel_rfl
  c0 := by kernel_rfl
  c2 := by kernel_rfl
  c3 := by kernel_rfl
  c4 := by kernel_rfl
  c5 := by kernel_rfl
  c9 := by kernel_rfl
  c20 := by kernel_rfl
  c21 := by kernel_rfl
  c37 := by kernel_rfl
  c46 := by kernel_rfl
  c51 := by kernel_rfl
  c53 := by kernel_rfl
  c75 := by kernel_rfl
  c80 := by kernel_rfl
  c85 := by kernel_rfl
  c127 := by kernel_rfl
  c143 := by kernel_rfl
  c145 := by kernel_rfl
  c167 := by kernel_rfl
  c168 := by kernel_rfl
  c171 := by kernel_rfl
  c173 := by kernel_rfl
  c175 := by kernel_rfl
  c210 := by kernel_rfl
  c212 := by kernel_rfl
  c213 := by kernel_rfl
  c232 := by kernel_rfl
  c233 := by kernel_rfl }
open Go.RowKit in
theorem Tryz.strconv_ParseInt_10_at64_ok (s : ByteArray) (hmax : s.size ≤ 9223372036854775806) (v : Int) (h : Lib.parseIntB 64 s.data.toList = .ok v) (w : World) :
    Calls Tryz.prog 105 #[.string s, .int .i64 10, .int .i64 64] w fun e w' => e = .returned (.tuple #[.int .i64 v, .nilIface]) ∧ (w' = w ∨ ∃ t, w' = Lib.bytesWorld w 5 t) := Any.strconv_ParseInt_10_at64_ok Tryz.laysC174 s hmax v h w
open Go.RowKit in
theorem Tryz.strconv_ParseInt_10_at64_range_var (s : ByteArray) (hlim : s.size ≤ 281474976710656) (h : Lib.parseIntB 64 s.data.toList = .range) (tp : TypeId) (p : Value) (w : World) (hvar : w.var? Tryz.prog "strconv.ErrRange" = some #[.iface tp p]) :
    Calls Tryz.prog 105 #[.string s, .int .i64 10, .int .i64 64] w fun e w' => ∃ N, e = .returned (.tuple #[.int .i64 (Lib.intSat 64 s.data.toList), .iface 121 (.pointer (some ⟨N, 0, none⟩))]) ∧ w.heap.size ≤ N ∧ w'.heap[N]? = some (.cells #[.string ⟨#[80, 97, 114, 115, 101, 73, 110, 116]⟩, .string s, .iface tp p] 131 (0, 0)) ∧ Below w.heap.size w w' := Any.strconv_ParseInt_10_at64_range_var Tryz.laysC174 s hlim h tp p w hvar
def Tryz.lays144_ren : Go.Shelf.Ren := ⟨fun | 144 => 57 | 143 => 98 | 219 => 111 | 217 => 99 | 225 => 125 | 224 => 126 | 267 => 127 | 266 => 112 | 314 => 139 | n => n, fun | 9 => 9 | 4 => 4 | 3 => 3 | 5 => 5 | 46 => 39 | 146 => 126 | 51 => 125 | n => n, fun | 1 => 0 | n => n⟩
theorem Tryz.lays144 : Go.Proofs.Lays.n144 Tryz.prog Tryz.lays144_ren := {
  mixed := by kernel_rfl
  f143 := Tryz.func98.trans (congrArg some (by kernel_rfl))
  f144 := Tryz.func57.trans (congrArg some (by kernel_rfl))
  f217 := Tryz.func99.trans (congrArg some (by kernel_rfl))
  f219 := Tryz.func111.trans (congrArg some (by kernel_rfl))
  f224 := Tryz.func126.trans (congrArg some (by kernel_rfl))
  f225 := Tryz.func125.trans (congrArg some (by kernel_rfl))
  f266 := Tryz.func112.trans (congrArg some (by kernel_rfl))
  f267 := Tryz.func127.trans (congrArg some (by kernel_rfl))
  f314 := Tryz.func139.trans (congrArg some (by kernel_rfl))
  t3 := Tryz.underlying3
  a3 := Tryz.isAgg3
  z3 := Tryz.sizeOf3
  v3 := Tryz.zeroValue3
  t4 := Tryz.underlying4
  a4 := Tryz.isAgg4
  z4 := Tryz.sizeOf4
  v4 := Tryz.zeroValue4
  t5 := Tryz.underlying5
  a5 := Tryz.isAgg5
  z5 := Tryz.sizeOf5
  v5 := Tryz.zeroValue5
  t9 := Tryz.underlying9
  a9 := Tryz.isAgg9
  z9 := Tryz.sizeOf9
  v9 := Tryz.zeroValue9
  t46 := Tryz.underlying39
  a46 := Tryz.isAgg39
  z46 := Tryz.sizeOf39
  v46 := Tryz.zeroValue39
  t51 := Tryz.underlying125
  a51 := Tryz.isAgg125
  z51 := Tryz.sizeOf125
  v51 := Tryz.zeroValue125
  t146 := Tryz.underlying126
  a146 := Tryz.isAgg126
  z146 := Tryz.sizeOf126
  v146 := Tryz.zeroValue126
  g1 := by kernel_rfl }
open Go.RowKit Go.Lib in
theorem Tryz.strings_Contains_one (s : ByteArray) (c : UInt8) (w : World) :
    Calls Tryz.prog 57 #[.string s, .string ⟨#[c]⟩] w fun e w' => e = .returned (.bool (decide (0 ≤ Lib.indexByte s.data.toList c))) ∧ w' = w := Any.strings_Contains_one Tryz.lays144 s c w
def Tryz.laysGw17_ren : Go.Shelf.Ren := ⟨fun | 17 => 93 | 15 => 110 | 20 => 124 | n => n, fun | 9 => 9 | 23 => 91 | 4 => 4 | 3 => 3 | 0 => 0 | 21 => 21 | n => n, fun | n => n⟩
theorem Tryz.laysGw17 : Go.Proofs.LaysGw.n17 Tryz.prog Tryz.laysGw17_ren := {
  mixed := by kernel_rfl
  f15 := Tryz.func110.trans (congrArg some (by kernel_rfl))
  f17 := Tryz.func93.trans (congrArg some (by kernel_rfl))
  f20 := Tryz.func124.trans (congrArg some (by kernel_rfl))
  t0 := Tryz.underlying0
  a0 := Tryz.isAgg0
  z0 := Tryz.sizeOf0
  v0 := Tryz.zeroValue0
  i0 := by kernel_rfl
  t3 := Tryz.underlying3
  a3 := Tryz.isAgg3
  z3 := Tryz.sizeOf3
  v3 := Tryz.zeroValue3
  i3 := by kernel_rfl
  t4 := Tryz.underlying4
  a4 := Tryz.isAgg4
  z4 := Tryz.sizeOf4
  v4 := Tryz.zeroValue4
  i4 := by kernel_rfl
  t9 := Tryz.underlying9
  a9 := Tryz.isAgg9
  z9 := Tryz.sizeOf9
  v9 := Tryz.zeroValue9
  i9 := by kernel_rfl
  t21 := Tryz.underlying21
  a21 := Tryz.isAgg21
  z21 := Tryz.sizeOf21
  v21 := Tryz.zeroValue21
  i21 := by kernel_rfl
  t23 := Tryz.underlying91
  a23 := Tryz.isAgg91
  z23 := Tryz.sizeOf91
  v23 := Tryz.zeroValue91
  i23 := by kernel_rfl }
open Go.RowKit Go.Lib in
theorem Tryz.strings_ContainsFunc_runes (g : Nat) (lb : Array Value) (eg : ∀ args w, (callFunc g args).run Tryz.prog w = .ok (.enter g args) w) (p : Nat → Bool) (s : ByteArray) (w : World) (hp : PredAtRunes Tryz.prog g lb p w) :
    Calls Tryz.prog 93 #[.string s, .func (.func g) #[] lb] w fun e w' => e = .returned (.bool (decide (0 ≤ Lib.idxFunc p true s))) ∧ Below w.heap.size w w' := Any.strings_ContainsFunc_runes Tryz.laysGw17 g lb eg p s w hp
def Tryz.lays99_ren : Go.Shelf.Ren := ⟨fun | 99 => 48 | 206 => 96 | n => n, fun | 9 => 9 | 4 => 4 | 3 => 3 | n => n, fun | n => n⟩
theorem Tryz.lays99 : Go.Proofs.Lays.n99 Tryz.prog Tryz.lays99_ren := {
  mixed := by kernel_rfl
  f99 := Tryz.func48.trans (congrArg some (by kernel_rfl))
  f206 := Tryz.func96.trans (congrArg some (by kernel_rfl))
  t3 := Tryz.underlying3
  a3 := Tryz.isAgg3
  z3 := Tryz.sizeOf3
  v3 := Tryz.zeroValue3
  t4 := Tryz.underlying4
  a4 := Tryz.isAgg4
  z4 := Tryz.sizeOf4
  v4 := Tryz.zeroValue4
  t9 := Tryz.underlying9
  a9 := Tryz.isAgg9
  z9 := Tryz.sizeOf9
  v9 := Tryz.zeroValue9 }
open Go.RowKit Go.Lib in
theorem Tryz.strings_HasPrefix (s p : ByteArray) (w : World) :
    Calls Tryz.prog 48 #[.string s, .string p] w fun e w' => e = .returned (.bool (Lib.hasPrefix s.data.toList p.data.toList)) ∧ w' = w := Any.strings_HasPrefix Tryz.lays99 s p w
def Tryz.lays146_ren : Go.Shelf.Ren := ⟨fun | 146 => 107 | 221 => 122 | 268 => 137 | 138 => 138 | 143 => 98 | 195 => 148 | 197 => 129 | 218 => 149 | 219 => 111 | 260 => 140 | 217 => 99 | 225 => 125 | 224 => 126 | 267 => 127 | 266 => 112 | 314 => 139 | n => n, fun | 9 => 9 | 31 => 40 | 3 => 3 | 4 => 4 | 0 => 0 | 105 => 114 | 21 => 21 | 5 => 5 | 46 => 39 | 119 => 135 | 139 => 138 | 138 => 137 | 146 => 126 | 51 => 125 | n => n, fun | 1 => 0 | 3 => 3 | 4 => 4 | n => n⟩
theorem Tryz.lays146 : Go.Proofs.Lays.n146 Tryz.prog Tryz.lays146_ren := {
  mixed := by kernel_rfl
  f138 := Tryz.func138.trans (congrArg some (by kernel_rfl))
  f143 := Tryz.func98.trans (congrArg some (by kernel_rfl))
  f146 := Tryz.func107.trans (congrArg some (by kernel_rfl))
  f195 := Tryz.func148.trans (congrArg some (by kernel_rfl))
  f197 := Tryz.func129.trans (congrArg some (by kernel_rfl))
  f217 := Tryz.func99.trans (congrArg some (by kernel_rfl))
  f218 := Tryz.func149.trans (congrArg some (by kernel_rfl))
  f219 := Tryz.func111.trans (congrArg some (by kernel_rfl))
  f221 := Tryz.func122.trans (congrArg some (by kernel_rfl))
  f224 := Tryz.func126.trans (congrArg some (by kernel_rfl))
  f225 := Tryz.func125.trans (congrArg some (by kernel_rfl))
  f260 := Tryz.func140.trans (congrArg some (by kernel_rfl))
  f266 := Tryz.func112.trans (congrArg some (by kernel_rfl))
  f267 := Tryz.func127.trans (congrArg some (by kernel_rfl))
  f268 := Tryz.func137.trans (congrArg some (by kernel_rfl))
  f314 := Tryz.func139.trans (congrArg some (by kernel_rfl))
  t0 := Tryz.underlying0
  a0 := Tryz.isAgg0
  z0 := Tryz.sizeOf0
  v0 := Tryz.zeroValue0
  t3 := Tryz.underlying3
  a3 := Tryz.isAgg3
  z3 := Tryz.sizeOf3
  v3 := Tryz.zeroValue3
  t4 := Tryz.underlying4
  a4 := Tryz.isAgg4
  z4 := Tryz.sizeOf4
  v4 := Tryz.zeroValue4
  t5 := Tryz.underlying5
  a5 := Tryz.isAgg5
  z5 := Tryz.sizeOf5
  v5 := Tryz.zeroValue5
  t9 := Tryz.underlying9
  a9 := Tryz.isAgg9
  z9 := Tryz.sizeOf9
  v9 := Tryz.zeroValue9
  t21 := Tryz.underlying21
  a21 := Tryz.isAgg21
  z21 := Tryz.sizeOf21
  v21 := Tryz.zeroValue21
  t31 := Tryz.underlying40
  a31 := Tryz.isAgg40
  z31 := Tryz.sizeOf40
  v31 := Tryz.zeroValue40
  t46 := Tryz.underlying39
  a46 := Tryz.isAgg39
  z46 := Tryz.sizeOf39
  v46 := Tryz.zeroValue39
  t51 := Tryz.underlying125
  a51 := Tryz.isAgg125
  z51 := Tryz.sizeOf125
  v51 := Tryz.zeroValue125
  t105 := Tryz.underlying114
  a105 := Tryz.isAgg114
  z105 := Tryz.sizeOf114
  v105 := Tryz.zeroValue114
  t119 := Tryz.underlying135
  a119 := Tryz.isAgg135
  z119 := Tryz.sizeOf135
  t138 := Tryz.underlying137
  a138 := Tryz.isAgg137
  z138 := Tryz.sizeOf137
  v138 := Tryz.zeroValue137
  t139 := Tryz.underlying138
  a139 := Tryz.isAgg138
  z139 := Tryz.sizeOf138
  v139 := Tryz.zeroValue138
  t146 := Tryz.underlying126
  a146 := Tryz.isAgg126
  z146 := Tryz.sizeOf126
  v146 := Tryz.zeroValue126
  g1 := by kernel_rfl
  g3 := by kernel_rfl
  g4 := by kernel_rfl }
open Go.RowKit Go.Lib in
theorem Tryz.strings_Split (s sep : ByteArray) (m : Int) (w : World) (hs : s.size < 4294967281) (hm : w.cell? ⟨0, 0, none⟩ = some (.int .i64 m)) (h1 : 1 ≤ sep.size) :
    Calls Tryz.prog 107 #[.string s, .string sep] w fun e w' =>
      e = .returned (.slice (some ⟨w.heap.size, 0, none⟩) (Lib.countB s sep + 1) (Lib.countB s sep + 1)) ∧ w' = w.alloc (.cells ((Lib.splitB sep 0 (Lib.countB s sep) s).map Value.string).toArray 9) := Any.strings_Split Tryz.lays146 (by kernel_rfl) s sep m w hs hm h1
def Tryz.lays110_ren : Go.Shelf.Ren := ⟨fun | 110 => 90 | 109 => 106 | n => n, fun | 31 => 40 | 9 => 9 | 4 => 4 | 3 => 3 | 0 => 0 | n => n, fun | n => n⟩
theorem Tryz.lays110 : Go.Proofs.Lays.n110 Tryz.prog Tryz.lays110_ren := {
  mixed := by kernel_rfl
  f109 := Tryz.func106.trans (congrArg some (by kernel_rfl))
  f110 := Tryz.func90.trans (congrArg some (by kernel_rfl))
  t0 := Tryz.underlying0
  a0 := Tryz.isAgg0
  z0 := Tryz.sizeOf0
  v0 := Tryz.zeroValue0
  t3 := Tryz.underlying3
  a3 := Tryz.isAgg3
  z3 := Tryz.sizeOf3
  v3 := Tryz.zeroValue3
  t4 := Tryz.underlying4
  a4 := Tryz.isAgg4
  z4 := Tryz.sizeOf4
  v4 := Tryz.zeroValue4
  t9 := Tryz.underlying9
  a9 := Tryz.isAgg9
  z9 := Tryz.sizeOf9
  v9 := Tryz.zeroValue9
  t31 := Tryz.underlying40
  a31 := Tryz.isAgg40
  z31 := Tryz.sizeOf40
  v31 := Tryz.zeroValue40 }
open Go.Lib in
theorem Tryz.slices_Contains_string (b off n c : Nat) (zs : List ByteArray) (x : ByteArray) (w : World) (hz : n ≤ zs.length) (hbig : n ≤ 9223372036854775807) (hc : ∀ j, j < zs.length → w.cell? ⟨b, off + j, none⟩ = some (.string (zs.getD j ByteArray.empty))) :
    Calls Tryz.prog 90 #[.slice (some ⟨b, off, none⟩) n c, .string x] w fun e w' => e = .returned (.bool (Lib.containsS (zs.take n) x)) ∧ w' = w := Any.slices_Contains_string Tryz.lays110 b off n c zs x w hz hbig hc
open Go.RowKit in
theorem Tryz.strings_Trim (s cutset : ByteArray) (w : World) (hs : s.size ≤ 9223372036854775807) (hcs : cutset.size < 4294967281) (hascii : ∀ (j : Nat) b, cutset.data.toList[j]? = some b → b.toNat < 128) :
    Calls Tryz.prog 104 #[.string s, .string cutset] w fun e w' => e = .returned (.string ⟨(Lib.trimS s.data.toList cutset.data.toList).toArray⟩) ∧ Below w.heap.size w w' := Any.strings_Trim_laid Tryz.lays160 (by kernel_rfl) s cutset w hs hcs hascii
def Tryz.lays167_ren : Go.Shelf.Ren := ⟨fun | 167 => 28 | 240 => 76 | 276 => 102 | n => n, fun | 0 => 0 | 4 => 4 | 5 => 5 | 9 => 9 | 20 => 20 | 37 => 53 | 70 => 52 | 72 => 55 | 75 => 57 | 80 => 63 | 164 => 95 | n => n, fun | n => n⟩
theorem Tryz.lays167 : Go.Proofs.Lays.n167 Tryz.prog Tryz.lays167_ren := {
  mixed := by kernel_rfl
  f167 := Tryz.func28.trans (congrArg some (by kernel_rfl))
  f240 := Tryz.func76.trans (congrArg some (by kernel_rfl))
  f276 := Tryz.func102.trans (congrArg some (by kernel_rfl))
  t0 := Tryz.underlying0
  a0 := Tryz.isAgg0
  z0 := Tryz.sizeOf0
  v0 := Tryz.zeroValue0
  t4 := Tryz.underlying4
  a4 := Tryz.isAgg4
  z4 := Tryz.sizeOf4
  v4 := Tryz.zeroValue4
  t5 := Tryz.underlying5
  a5 := Tryz.isAgg5
  z5 := Tryz.sizeOf5
  v5 := Tryz.zeroValue5
  t9 := Tryz.underlying9
  a9 := Tryz.isAgg9
  z9 := Tryz.sizeOf9
  v9 := Tryz.zeroValue9
  t20 := Tryz.underlying20
  a20 := Tryz.isAgg20
  z20 := Tryz.sizeOf20
  v20 := Tryz.zeroValue20
  t37 := Tryz.underlying53
  a37 := Tryz.isAgg53
  z37 := Tryz.sizeOf53
  v37 := Tryz.zeroValue53
  t70 := Tryz.underlying52
  a70 := Tryz.isAgg52
  z70 := Tryz.sizeOf52
  v70 := Tryz.zeroValue52
  t72 := Tryz.underlying55
  a72 := Tryz.isAgg55
  z72 := Tryz.sizeOf55
  v72 := Tryz.zeroValue55
  t75 := Tryz.underlying57
  a75 := Tryz.isAgg57
  z75 := Tryz.sizeOf57
  v75 := Tryz.zeroValue57
  t164 := Tryz.underlying95
  a164 := Tryz.isAgg95
  z164 := Tryz.sizeOf95
  v164 := Tryz.zeroValue95 }
theorem Tryz.Builder_Extra_167 : Builder.Extra Tryz.prog Tryz.lays167_ren := {
  sizeBuilder := by kernel_rfl
  liesBuilder := by kernel_rfl
  t5 := Tryz.underlying5
  a5 := Tryz.isAgg5
  z5 := Tryz.sizeOf5
  v5 := Tryz.zeroValue5
  infoByte := by kernel_rfl
  cellsByte := by kernel_rfl
  sizeByte := by kernel_rfl
  neB5 := by decide }
def Tryz.lays166_ren : Go.Shelf.Ren := ⟨fun | 166 => 29 | 240 => 76 | 276 => 102 | n => n, fun | 0 => 0 | 3 => 3 | 4 => 4 | 5 => 5 | 9 => 9 | 20 => 20 | 37 => 53 | 70 => 52 | 72 => 55 | 75 => 57 | 80 => 63 | 164 => 95 | n => n, fun | n => n⟩
theorem Tryz.Builder_Extra_166 : Builder.Extra Tryz.prog Tryz.lays166_ren := {
  sizeBuilder := by kernel_rfl
  liesBuilder := by kernel_rfl
  t5 := Tryz.underlying5
  a5 := Tryz.isAgg5
  z5 := Tryz.sizeOf5
  v5 := Tryz.zeroValue5
  infoByte := by kernel_rfl
  cellsByte := by kernel_rfl
  sizeByte := by kernel_rfl
  neB5 := by decide }
end Go.Proofs
end
section
namespace Go.Proofs.YtgeonilideojnaaGreatDoor.Tk
open Go Go.RowKit
set_option linter.unusedVariables false
set_option linter.unusedSimpArgs false
def Bld (w : World) (b B0 : Nat) (l : Bs) : Prop := ∃ p v, (p = .pointer none ∨ p = .pointer (some ⟨b, 0, none⟩)) ∧ Blk w b 55 #[p, v] ∧ OwnB w B0 v l ∧ b < B0
theorem copyCheck_own (b : Nat) (p v : Value) (w : World) (hp : p = .pointer none ∨ p = .pointer (some ⟨b, 0, none⟩)) (hb : Blk w b 55 #[p, v]) :
    Calls Tryz.prog 76 #[.pointer (some ⟨b, 0, none⟩)] w fun e w' => e = .returned (.tuple #[]) ∧ Blk w' b 55 #[.pointer (some ⟨b, 0, none⟩), v] ∧ w.grownBy w' (some b) := by
  rcases hp with rfl | rfl
  · refine (Any.Builder_copyCheck_fresh { Tryz.lays167 with } Tryz.Builder_Extra_167.toX72 b w (hb.cell 0) ?_ (hb.frozen 0)).mono ?_
    · unfold Blk at hb
      simp [World.shape?, hb]
      rfl
    · rintro e w' ⟨rfl, rfl⟩
      exact ⟨rfl, hb.put 0 _, gb_set (gb_refl _ _) (.inl rfl) _⟩
  · refine (Any.Builder_copyCheck_used { Tryz.lays167 with } Tryz.Builder_Extra_167.toX72 b w (hb.cell 0)).mono ?_
    rintro e w' ⟨rfl, rfl⟩
    exact ⟨rfl, hb, gb_refl _ _⟩
theorem ownB_some {w : World} {base : Nat} {v : Value} {l : Bs} {c : UInt8} (h : OwnB w base v (l ++ [c])) : ∃ g n cap, v = .slice (some ⟨g, 0, none⟩) n cap := by
  rcases h.2 with ⟨_, h⟩ | ⟨g, cap, cur, h, _⟩
  · simp at h
  · exact ⟨g, _, cap, h⟩
def Keeps (w w' : World) (b : Nat) : Prop := ∀ g t cs, Blk w g t cs → g ≠ b → t ≠ 5 → Blk w' g t cs
theorem own_type {w : World} {base : Nat} {e : TypeId} {size n : Nat} {v : Value} {xs : List Value} (h : w.ownsRow base e size v n xs) {g : Nat} {t : TypeId} {cs : Array Value} (hb : Blk w g t cs) (ht : t ≠ e) : some g ≠ v.ownBlock := by
  intro hg
  rcases h.2 with ⟨rfl, _⟩ | ⟨g', cap, cur, rfl, _, hh, _⟩
  · simp [Value.ownBlock] at hg
  · have : g = g' := by simpa [Value.ownBlock] using hg
    subst this
    unfold Blk at hb
    rw [hb] at hh
    injection hh with hh
    injection hh with _ h2
    exact ht h2
theorem keeps_of {w w1 w2 : World} {b B0 : Nat} {v : Value} {l : Bs} (hg1 : w.grownBy w1 (some b)) (ho : OwnB w1 B0 v l) (hg2 : w1.grownBy w2 v.ownBlock) (u : Value) : Keeps w (w2.setCell ⟨b, 1, none⟩ u) b := by
  intro g t cs hb hgb ht
  have h1 := hb.grown hg1 (by simpa using hgb)
  exact (h1.grown hg2 (own_type ho h1 ht)).far hgb u
section
set_option maxHeartbeats 2000000
set_option maxRecDepth 100000
theorem writeByte_own2 (b B0 : Nat) (l : Bs) (c : UInt8) (w : World) (h : Bld w b B0 l) (hl : l.length ≤ 140737488355327) (hsz : B0 ≤ w.heap.size) :
    Calls Tryz.prog 28 #[.pointer (some ⟨b, 0, none⟩), .int .u8 (c.toNat : Int)] w fun e w' => e = .returned .nilIface ∧ Bld w' b B0 (l ++ [c]) ∧ (∀ k, k < B0 → k ≠ b → w'.heap[k]? = w.heap[k]?) ∧ w'.os = w.os ∧ w'.tape = w.tape ∧ w'.output = w.output ∧ w.heap.size ≤ w'.heap.size ∧ Keeps w w' b := by
  obtain ⟨p, v, hp, hb, ho, hbB⟩ := h
  have hcc := hide (copyCheck_own b p v w hp hb)
  clear hp
  go_enter Tryz.func28, Tryz.ntmps28
  go_wp2_with (first | (go_at_call 76; refine hcc.out.mono ?_; rintro e w1 ⟨rfl, hb1, hg1⟩; have d0 : w1.cell? ⟨b, 1, none⟩ = some v := hb1.cell 1; have d1 := hb1.frozen 1; have ho1 := ho.kept hg1 hbB; have HB := hide hb1) | (at_builtin; refine append_u8 rfl _ _ rfl B0 v l c rfl rfl ho1 ?_ ?_ ?_; exact Nat.le_trans hsz hg1.size; exact hl; intro v2 w2 ho2 hg2 hk2; obtain ⟨g3, n3, c3, rfl⟩ := ownB_some ho2; have hb2 := HB.out.own hg2 (fun x hx => Nat.lt_of_lt_of_le hbB (hk2 x hx)); have d2 : w2.cell? ⟨b, 1, none⟩ = some v := hb2.cell 1; have d3 := hb2.frozen 1; have HB2 := hide hb2))
  go_ret
  refine ⟨rfl, ⟨_, _, .inr rfl, HB2.out.put 1 _, ho2.kept (gb_set (gb_refl _ (some b)) (.inl rfl) _) hbB, hbB⟩, ?_⟩
  refine ⟨fun k hk hkb => ?_, hg2.os.trans hg1.os, hg2.tape.trans hg1.tape, hg2.output.trans hg1.output, Nat.le_trans hg1.size (by simpa [World.setCell] using hg2.size), keeps_of hg1 ho1 hg2 _⟩
  have e1 := hg1.size
  refine (Below.heap_setCell w2 _ _ k hkb).trans ((hg2.block k (by omega) ?_).trans (hg1.block k (by omega) (by simpa using hkb)))
  intro e
  have := hk2 k e.symm
  omega
theorem writeByte_own (b B0 : Nat) (l : Bs) (c : UInt8) (w : World) (h : Bld w b B0 l) (hl : l.length ≤ 140737488355327) (hsz : B0 ≤ w.heap.size) :
    Calls Tryz.prog 28 #[.pointer (some ⟨b, 0, none⟩), .int .u8 (c.toNat : Int)] w fun e w' => e = .returned .nilIface ∧ Bld w' b B0 (l ++ [c]) ∧ (∀ k, k < B0 → k ≠ b → w'.heap[k]? = w.heap[k]?) ∧ w'.os = w.os ∧ w'.tape = w.tape ∧ w'.output = w.output ∧ w.heap.size ≤ w'.heap.size :=
  (writeByte_own2 b B0 l c w h hl hsz).mono fun _ _ ⟨h1, h2, h3, h4, h5, h6, h7, _⟩ => ⟨h1, h2, h3, h4, h5, h6, h7⟩
theorem own_slice {w : World} {base : Nat} {e : TypeId} {size n : Nat} {v : Value} {xs : List Value} (h : w.ownsRow base e size v n xs) : ∃ a m c, v = .slice a m c := by
  rcases h.2 with ⟨h, _⟩ | ⟨g, cap, cur, h, _⟩
  · exact ⟨_, _, _, h⟩
  · exact ⟨_, _, _, h⟩
theorem strCells_B (s : Bs) : Lib.strCells (B s) = byteVals s := by
  rfl
theorem writeString_own2 (b B0 : Nat) (l s : Bs) (w : World) (h : Bld w b B0 l) (hl : l.length + s.length ≤ 140737488355327) (hsz : B0 ≤ w.heap.size) :
    Calls Tryz.prog 29 #[.pointer (some ⟨b, 0, none⟩), .string (B s)] w fun e w' => e = .returned (.tuple #[.int .i64 (s.length : Int), .nilIface]) ∧ Bld w' b B0 (l ++ s) ∧ (∀ k, k < B0 → k ≠ b → w'.heap[k]? = w.heap[k]?) ∧ w'.os = w.os ∧ w'.tape = w.tape ∧ w'.output = w.output ∧ w.heap.size ≤ w'.heap.size ∧ Keeps w w' b := by
  obtain ⟨p, v, hp, hb, ho, hbB⟩ := h
  have hz := size_B s
  have hcc := hide (copyCheck_own b p v w hp hb)
  obtain ⟨i0, hi, hz0, hz1, hz2⟩ := info_parts Tryz.Builder_Extra_166.infoByte
  clear hp
  go_enter Tryz.func29, Tryz.ntmps29
  go_wp2_with (first | (go_at_call 76; refine hcc.out.mono ?_; rintro e w1 ⟨rfl, hb1, hg1⟩; have d0 : w1.cell? ⟨b, 1, none⟩ = some v := hb1.cell 1; have d1 := hb1.frozen 1; have ho1 := ho.kept hg1 hbB; have HB := hide hb1) | (at_builtin; refine Lib.wpList_append_own_string _ rfl _ _ 53 9 rfl B0 5 i0 Tryz.underlying53 Tryz.underlying9 hi hz0 hz1 hz2 _ _ _ rfl ho1 (B s) rfl ?_ ?_ ?_ ?_; (unfold maxLen; omega); omega; exact Nat.le_trans hsz hg1.size; intro v2 w2 ho2 hg2 _; obtain ⟨a2, n2, c2, rfl⟩ := own_slice ho2; have hk2 := own_ge ho1; have hb2 := HB.out.own hg2 (fun x hx => Nat.lt_of_lt_of_le hbB (hk2 x hx)); have d2 : w2.cell? ⟨b, 1, none⟩ = some v := hb2.cell 1; have d3 := hb2.frozen 1; have HB2 := hide hb2))
  go_ret2
  rw [hz] at ho2
  have ho3 : OwnB w2 B0 (.slice a2 n2 c2) (l ++ s) := by
    unfold OwnB
    rw [List.length_append, show byteVals (l ++ s) = byteVals l ++ Lib.strCells (B s) by rw [strCells_B]; simp [byteVals]]
    exact ho2
  refine ⟨rfl, ⟨_, _, .inr rfl, HB2.out.put 1 _, ho3.kept (gb_set (gb_refl _ (some b)) (.inl rfl) _) hbB, hbB⟩, ?_⟩
  refine ⟨fun k hk hkb => ?_, hg2.os.trans hg1.os, hg2.tape.trans hg1.tape, hg2.output.trans hg1.output, Nat.le_trans hg1.size (by simpa [World.setCell] using hg2.size), keeps_of hg1 ho1 hg2 _⟩
  have e1 := hg1.size
  refine (Below.heap_setCell w2 _ _ k hkb).trans ((hg2.block k (by omega) ?_).trans (hg1.block k (by omega) (by simpa using hkb)))
  intro e
  have := hk2 k e.symm
  omega
theorem writeString_own (b B0 : Nat) (l s : Bs) (w : World) (h : Bld w b B0 l) (hl : l.length + s.length ≤ 140737488355327) (hsz : B0 ≤ w.heap.size) :
    Calls Tryz.prog 29 #[.pointer (some ⟨b, 0, none⟩), .string (B s)] w fun e w' => e = .returned (.tuple #[.int .i64 (s.length : Int), .nilIface]) ∧ Bld w' b B0 (l ++ s) ∧ (∀ k, k < B0 → k ≠ b → w'.heap[k]? = w.heap[k]?) ∧ w'.os = w.os ∧ w'.tape = w.tape ∧ w'.output = w.output ∧ w.heap.size ≤ w'.heap.size :=
  (writeString_own2 b B0 l s w h hl hsz).mono fun _ _ ⟨h1, h2, h3, h4, h5, h6, h7, _⟩ => ⟨h1, h2, h3, h4, h5, h6, h7⟩
theorem Bld.is_ {w : World} {b B0 : Nat} {l : Bs} (h : Bld w b B0 l) : Lib.IsBuilder 55 5 b b (Lib.byteCells l) w := by
  obtain ⟨p, v, hp, hb, ho, hbB⟩ := h
  have hat : Lib.BuilderAt 55 5 b b p (Lib.byteCells l) w := by
    refine ⟨Nat.le_refl _, v, hb, ?_, ?_⟩
    · rw [Lib.byteCells_length]
      refine ⟨ho.1, ?_⟩
      rcases ho.2 with h | ⟨g, cap, cur, e, hg, hr⟩
      · exact .inl h
      · exact .inr ⟨g, cap, cur, e, by omega, hr⟩
    · intro e
      have := own_ge ho b e
      omega
  rcases hp with rfl | rfl
  · exact .inl hat
  · exact .inr hat
theorem string_own (b B0 : Nat) (l : Bs) (w : World) (h : Bld w b B0 l) : Calls Tryz.prog 32 #[.pointer (some ⟨b, 0, none⟩)] w fun e w' => e = .returned (.string (B l)) ∧ Below b w w' := by
  obtain ⟨p, v, hp, hb, ho, hbB⟩ := h
  exact Tryz.Builder_String_any b b l w (Bld.is_ ⟨p, v, hp, hb, ho, hbB⟩) (Nat.le_of_lt hb.lt)
theorem len_own (b B0 : Nat) (l : Bs) (w : World) (h : Bld w b B0 l) : Calls Tryz.prog 31 #[.pointer (some ⟨b, 0, none⟩)] w fun e w' => e = .returned (.int .i64 (l.length : Int)) ∧ w' = w := by
  have := Tryz.Builder_Len b b (Lib.byteCells l) w h.is_
  rwa [Lib.byteCells_length] at this
end
end Go.Proofs.YtgeonilideojnaaGreatDoor.Tk
end
section
namespace Go.Proofs.YtgeonilideojnaaGreatDoor.Tk
open Go Go.RowKit
set_option linter.unusedVariables false
set_option linter.unusedSimpArgs false
section
set_option maxHeartbeats 400000
theorem small_calls (c : UInt8) (w : World) : Calls Tryz.prog 49 #[.int .u8 (c.toNat : Int)] w fun r w' => r = .returned (.bool (small c)) ∧ w = w' := by
  go_enter Tryz.func49, Tryz.ntmps49
  go_wp2
  all_goals
    go_ret
    exact ⟨ret_bool (by rw [Bool.eq_iff_iff]; simp [small]; omega), rfl⟩
theorem digit_calls (c : UInt8) (w : World) : Calls Tryz.prog 55 #[.int .u8 (c.toNat : Int)] w fun r w' => r = .returned (.bool (digit c)) ∧ w = w' := by
  go_enter Tryz.func55, Tryz.ntmps55
  go_wp2
  all_goals
    go_ret
    exact ⟨ret_bool (by rw [Bool.eq_iff_iff]; simp [digit]; omega), rfl⟩
theorem capital_calls (c : UInt8) (w : World) : Calls Tryz.prog 53 #[.int .u8 (c.toNat : Int)] w fun r w' => r = .returned (.bool (capital c)) ∧ w = w' := by
  go_enter Tryz.func53, Tryz.ntmps53
  go_wp2
  all_goals
    go_ret
    exact ⟨ret_bool (by rw [Bool.eq_iff_iff]; simp [capital]; omega), rfl⟩
theorem blank_calls (c : UInt8) (w : World) : Calls Tryz.prog 46 #[.int .u8 (c.toNat : Int)] w fun r w' => r = .returned (.bool (blank c)) ∧ w = w' := by
  go_enter Tryz.func46, Tryz.ntmps46
  go_wp2
  all_goals
    go_ret
    exact ⟨ret_bool (by rw [Bool.eq_iff_iff]; simp [blank]; omega), rfl⟩
theorem permitted_calls (c : UInt8) (w : World) : Calls Tryz.prog 95 #[.int .u8 (c.toNat : Int)] w fun r w' => r = .returned (.bool (permitted c)) ∧ w = w' := by
  go_enter Tryz.func95, Tryz.ntmps95
  go_wp2
  all_goals
    go_ret
    exact ⟨ret_bool (by rw [Bool.eq_iff_iff]; simp [permitted]; omega), rfl⟩
theorem letter_calls (c : UInt8) (w : World) : Calls Tryz.prog 51 #[.int .u8 (c.toNat : Int)] w fun r w' => r = .returned (.bool (letter c)) ∧ w = w' := by
  go_enter Tryz.func51, Tryz.ntmps51
  go_wp2_with (first | (go_at_call 49; refine (small_calls _ _).mono ?_; rintro e w' ⟨rfl, rfl⟩) | (go_at_call 53; refine (capital_calls _ _).mono ?_; rintro e w' ⟨rfl, rfl⟩) | (go_at_call 55; refine (digit_calls _ _).mono ?_; rintro e w' ⟨rfl, rfl⟩))
  all_goals
    go_ret
    exact ⟨ret_bool (by simp [letter, *]), rfl⟩
theorem limit_calls (n : Nat) (w : World) : Calls Tryz.prog 84 #[.int .i64 (n : Int)] w fun r w' => r = .returned (.int .i64 (limitS n : Int)) ∧ w = w' := by
  by_cases h : 40 < n
  · go_enter Tryz.func84, Tryz.ntmps84
    go_wp2
    go_ret
    exact ⟨by simp [limitS, h], rfl⟩
  · go_enter Tryz.func84, Tryz.ntmps84
    go_wp2
    go_ret
    exact ⟨by simp [limitS, h], rfl⟩
theorem stop_calls (b : Nat) (i e : Int) (w : World) : Calls Tryz.prog 58 #[.pointer (some ⟨b, 0, none⟩), .int .i64 i, .int .i64 e] w fun r w' => r = .panicked (fault i e) ∧ w = w' := by
  go_enter Tryz.func58, Tryz.ntmps58
  go_wp2
  exact ⟨rfl, rfl, rfl⟩
theorem peek_calls (b : Nat) (l : Bs) (i k : Nat) (w : World) (hs : l.length ≤ 65536) (hi : i ≤ l.length) (hk : k ≤ 2) (hS : Sc w b l i) :
    Calls Tryz.prog 52 #[.pointer (some ⟨b, 0, none⟩), .int .i64 (k : Int)] w fun r w' => r = .returned (.int .u8 ((pk l (i + k)).toNat : Int)) ∧ ∃ n, w' = w.drewN n := by
  have h0 := hS.c0
  have h1 := hS.c1
  have hz := size_B l
  clear hS
  cases hd : l.drop (i + k) with
  | nil =>
    have hp := hide (pk_nil hd)
    have hn := drop_nil hd
    clear hd
    go_enter Tryz.func52, Tryz.ntmps52
    go_wp2
    go_quiet (fail)
    go_wp2
    go_ret
    exact ⟨by rw [hp.out]; rfl, _, rfl⟩
  | cons c t =>
    have hp := hide (pk_cons hd)
    have hb := B_get hd
    obtain ⟨hl, -, -⟩ := drop_at hd
    clear hd
    have e1 := wrap_sum i k (by omega)
    have e2 : (0 : Int) ≤ (i : Int) + k := by omega
    have e3 : ((i : Int) + k).toNat = i + k := by omega
    go_enter Tryz.func52, Tryz.ntmps52
    go_wp2
    go_quiet (fail)
    go_wp2
    go_quiet (fail)
    go_wp2
    go_ret
    exact ⟨by rw [hp.out]; rfl, drawn2 _ _ _⟩
theorem peek_any (b : Nat) (l : Bs) (i : Nat) (k : Int) (w : World) (hs : l.length ≤ 65536) (hi : i ≤ l.length) (h0 : 0 ≤ k) (hk : k ≤ 2) (hS : Sc w b l i) :
    Calls Tryz.prog 52 #[.pointer (some ⟨b, 0, none⟩), .int .i64 k] w fun r w' => r = .returned (.int .u8 ((pk l (i + k.toNat)).toNat : Int)) ∧ ∃ n, w' = w.drewN n := by
  obtain ⟨n, rfl⟩ := Int.eq_ofNat_of_zero_le h0
  exact peek_calls b l i n w hs hi (by omega) hS
theorem byte_calls (b : Nat) (l : Bs) (i f : Nat) (w : World) (hs : l.length ≤ 65536) (hi : i ≤ l.length) (hf : f ≤ 65536) (hS : Sc w b l i) :
    Calls Tryz.prog 47 #[.pointer (some ⟨b, 0, none⟩), .int .i64 (f : Int)] w (ScPost w b l (fun c : UInt8 => .int .u8 (c.toNat : Int)) (byteS l i f)) := by
  have h0 := hS.c0
  have h1 := hS.c1
  have h2 := hS.f1
  have hz := size_B l
  have HS := hide hS
  clear hS
  unfold byteS
  cases hd : l.drop i with
  | nil =>
    have hn := drop_nil hd
    clear hd
    simp only
    go_enter Tryz.func47, Tryz.ntmps47
    go_wp2
    go_quiet (fail)
    go_wp2_with (go_at_call 58; refine (stop_calls _ _ _ _).mono ?_; rintro e w' ⟨rfl, rfl⟩)
    exact ⟨rfl, rfl, gb_drewN (gb_refl _ _) _⟩
  | cons c t =>
    have hb := B_get hd
    obtain ⟨hl, -, -⟩ := drop_at hd
    clear hd
    simp only
    cases hp : permitted c with
    | true =>
      simp only [if_true]
      go_enter Tryz.func47, Tryz.ntmps47
      go_wp2
      go_quiet (fail)
      go_wp2
      go_quiet (fail)
      go_wp2_with (go_at_call 95; refine (permitted_calls _ _).mono ?_; rintro e w' ⟨rfl, rfl⟩)
      go_ret
      exact ⟨rfl, (HS.out.drewN _).set (i + 1), gb_set (gb_drewN (gb_refl _ _) _) (.inl rfl) _⟩
    | false =>
      simp only [Bool.false_eq_true, if_false]
      go_enter Tryz.func47, Tryz.ntmps47
      go_wp2
      go_quiet (fail)
      go_wp2
      go_quiet (fail)
      go_wp2_with (first | (go_at_call 95; refine (permitted_calls _ _).mono ?_; rintro e w' ⟨rfl, rfl⟩) | (go_at_call 58; refine (stop_calls _ _ _ _).mono ?_; rintro e w' ⟨rfl, rfl⟩))
      exact ⟨rfl, rfl, gb_drewN (gb_refl _ _) _⟩
end
end Go.Proofs.YtgeonilideojnaaGreatDoor.Tk
end
section
namespace Go.Proofs.YtgeonilideojnaaGreatDoor.Tk
open Go Go.RowKit
set_option linter.unusedVariables false
set_option linter.unusedSimpArgs false
theorem span_step {p : UInt8 → Bool} {l : Bs} {i j : Nat} {c : UInt8} {t : Bs} (hd : l.drop j = c :: t) (hp : p c = true) (h : spanLen p (l.drop i) = (j - i) + spanLen p (l.drop j)) (hij : i ≤ j) :
    spanLen p (l.drop i) = (j + 1 - i) + spanLen p (l.drop (j + 1)) := by
  obtain ⟨_, _, ht⟩ := drop_at hd
  rw [h, hd, ht]
  simp only [spanLen, hp, if_true]
  omega
theorem span_stop {p : UInt8 → Bool} {l : Bs} {i j : Nat} {c : UInt8} {t : Bs} (hd : l.drop j = c :: t) (hp : p c = false) (h : spanLen p (l.drop i) = (j - i) + spanLen p (l.drop j)) (hij : i ≤ j) :
    i + spanLen p (l.drop i) = j := by
  rw [h, hd]
  simp only [spanLen, hp]
  simp
  omega
theorem span_end {p : UInt8 → Bool} {l : Bs} {i j : Nat} (hd : l.drop j = []) (h : spanLen p (l.drop i) = (j - i) + spanLen p (l.drop j)) (hij : i ≤ j) :
    i + spanLen p (l.drop i) = j := by
  rw [h, hd]
  simp only [spanLen]
  omega
theorem spanLen_le0 (p : UInt8 → Bool) (l : Bs) : spanLen p l ≤ l.length := by
  induction l with
  | nil => simp [spanLen]
  | cons c t ih => simp only [spanLen]; split <;> simp <;> omega
theorem spanLen_le (p : UInt8 → Bool) (l : Bs) (i : Nat) : spanLen p (l.drop i) ≤ l.length - i := by
  have h := spanLen_le0 p (l.drop i)
  rwa [List.length_drop] at h
theorem index_pos (l : Bs) (c : UInt8) : 0 ≤ Lib.indexByte l c ↔ c ∈ l := by
  induction l with
  | nil => simp [Lib.indexByte]
  | cons b l ih =>
    have hg := Lib.indexByte_ge l c
    unfold Lib.indexByte
    by_cases h : b = c
    · subst h; simp
    · have h1 : (b == c) = false := by simpa using h
      have h2 : ¬ c = b := fun e => h e.symm
      rw [List.mem_cons, ← ih]
      simp only [h1, h2, Bool.false_eq_true, if_false, false_or]
      by_cases h3 : Lib.indexByte l c = -1
      · simp [h3]
      · have h4 : (Lib.indexByte l c == -1) = false := by simpa using h3
        simp only [h4, Bool.false_eq_true, if_false]
        omega
theorem index_has (l : Bs) (c : UInt8) : decide (0 ≤ Lib.indexByte l c) = l.contains c := by
  rw [Bool.eq_iff_iff]
  simp [index_pos]
theorem u8_back (c : UInt8) : ((c.toNat : Int)).toNat.toUInt8 = c := by simp
theorem IndexByte_calls (s : Bs) (c : UInt8) (w : World) : Calls Tryz.prog 59 #[.string (B s), .int .u8 (c.toNat : Int)] w fun e w' => e = .returned (.int .i64 (Lib.indexByte s c)) ∧ w = w' := by
  refine (Tryz.strings_IndexByte (B s) _ w).mono ?_
  rintro e w' ⟨rfl, rfl⟩
  exact ⟨by rw [u8_back]; rfl, rfl⟩
theorem hasPrefix_eq (s p : Bs) : Lib.hasPrefix s p = p.isPrefixOf s := rfl
theorem HasPrefix_calls (s p : Bs) (w : World) : Calls Tryz.prog 48 #[.string (B s), .string (B p)] w fun e w' => e = .returned (.bool (p.isPrefixOf s)) ∧ w = w' := by
  refine (Tryz.strings_HasPrefix (B s) (B p) w).mono ?_
  rintro e w' ⟨rfl, rfl⟩
  exact ⟨by rw [← hasPrefix_eq]; rfl, rfl⟩
theorem Contains_calls (s : Bs) (c : UInt8) (w : World) : Calls Tryz.prog 57 #[.string (B s), .string ⟨#[c]⟩] w fun e w' => e = .returned (.bool (s.contains c)) ∧ w = w' := by
  refine (Tryz.strings_Contains_one (B s) c w).mono ?_
  rintro e w' ⟨rfl, rfl⟩
  exact ⟨by rw [← index_has]; rfl, rfl⟩
section
set_option maxHeartbeats 1000000
theorem run_any (K : Nat) (p : UInt8 → Bool) (eK : ∀ (args : Array Value) (w : World), (callFunc K args).run Tryz.prog w = .ok (.enter K args) w)
    (hK : ∀ (c : UInt8) (w : World), Calls Tryz.prog K #[.int .u8 (c.toNat : Int)] w fun r w' => r = .returned (.bool (p c)) ∧ w = w')
    (b : Nat) (l : Bs) (i : Nat) (w : World) (hs : l.length ≤ 65536) (hi : i ≤ l.length) (hS : Sc w b l i) :
    Calls Tryz.prog 50 #[.pointer (some ⟨b, 0, none⟩), .func (.func K) #[] #[]] w (ScPost w b l (fun r : Bs => .string (B r)) (.ok (cut l i (i + spanLen p (l.drop i))) (i + spanLen p (l.drop i)))) := by
  have h0 := hS.c0
  have h1 := hS.c1
  have h2 := hS.f1
  have hz := size_B l
  have HS := hide hS
  have HK := hide hK
  clear hS hK
  go_enter Tryz.func50, Tryz.ntmps50
  go_wp2
  go_loopw [] (fun wr => ∃ j, i ≤ j ∧ j ≤ l.length ∧ spanLen p (l.drop i) = (j - i) + spanLen p (l.drop j) ∧ Sc wr b l j ∧ w.grownBy wr (some b)) (fun wr => l.length - atOf wr b)
  case atStart => exact ⟨i, Nat.le_refl _, hi, by omega, HS.out, gb_refl _ _⟩
  case round =>
    obtain ⟨j, hij, hjl, hsp, hS, hg⟩ := hrel
    clear h0 h1 h2
    have h0 := hS.c0
    have h1 := hS.c1
    have h2 := hS.f1
    have Hsp := hide hsp
    have HS1 := hide hS
    clear hsp hS
    cases hd : l.drop j with
    | nil =>
      have hn := drop_nil hd
      have Hd := hide hd
      have hlt : decide (j < l.length) = false := by simp; omega
      clear hd
      go_wp2
      go_quiet (fail)
      go_wp2
      go_quiet (fail)
      go_wp2
      go_ret
      have he := span_end Hd.out Hsp.out hij
      rw [he]
      exact ⟨ret_str (extract_B _ _ _), (HS1.out.drewN _).drewN _, gb_drewN (gb_drewN hg _) _⟩
    | cons c t =>
      have hb := B_get hd
      obtain ⟨hl, -, -⟩ := drop_at hd
      have Hd := hide hd
      have hlt : decide (j < l.length) = true := by simp; omega
      clear hd
      cases hp : p c with
      | true =>
        go_wp2
        go_quiet ((first | (refine Calls.quiet_of_same (HK.out _ _)) | (refine Calls.quiet_of_same ((HK.out _ _).mono fun _ _ h => ⟨h.1, h.2.symm⟩))))
        go_wp2
        refine ⟨⟨j + 1, by omega, by omega, span_step Hd.out hp Hsp.out hij, (HS1.out.drewN _).set (j + 1), gb_set (gb_drewN hg _) (.inl rfl) _⟩, ?_⟩
        exact Sc.less HS1.out ((HS1.out.drewN _).set (j + 1)) (by omega) hl
      | false =>
        go_wp2
        go_quiet ((first | (refine Calls.quiet_of_same (HK.out _ _)) | (refine Calls.quiet_of_same ((HK.out _ _).mono fun _ _ h => ⟨h.1, h.2.symm⟩))))
        go_wp2
        go_quiet (fail)
        go_wp2
        go_ret
        have he := span_stop Hd.out hp Hsp.out hij
        rw [he]
        exact ⟨ret_str (extract_B _ _ _), (HS1.out.drewN _).drewN _, gb_drewN (gb_drewN hg _) _⟩
theorem sign_calls (c : UInt8) (w : World) : Calls Tryz.prog 60 #[.int .u8 (c.toNat : Int)] w fun r w' => r = .returned (.bool (sign c)) ∧ w = w' := by
  have hc := hide (index_has signsL c)
  go_enter Tryz.func60, Tryz.ntmps60
  go_wp2_with (go_at_call 59; refine (IndexByte_calls signsL _ _).mono ?_; rintro e w' ⟨rfl, rfl⟩)
  go_ret
  exact ⟨ret_bool hc.out, rfl⟩
theorem run_letter (b : Nat) (l : Bs) (i : Nat) (w : World) (hs : l.length ≤ 65536) (hi : i ≤ l.length) (hS : Sc w b l i) :
    Calls Tryz.prog 50 #[.pointer (some ⟨b, 0, none⟩), .func (.func 51) #[] #[]] w (ScPost w b l (fun r : Bs => .string (B r)) (.ok (cut l i (i + spanLen letter (l.drop i))) (i + spanLen letter (l.drop i)))) :=
  run_any 51 letter (enters_of Tryz.func51 (by kernel_rfl) rfl) letter_calls b l i w hs hi hS
theorem run_digit (b : Nat) (l : Bs) (i : Nat) (w : World) (hs : l.length ≤ 65536) (hi : i ≤ l.length) (hS : Sc w b l i) :
    Calls Tryz.prog 50 #[.pointer (some ⟨b, 0, none⟩), .func (.func 55) #[] #[]] w (ScPost w b l (fun r : Bs => .string (B r)) (.ok (cut l i (i + spanLen digit (l.drop i))) (i + spanLen digit (l.drop i)))) :=
  run_any 55 digit (enters_of Tryz.func55 (by kernel_rfl) rfl) digit_calls b l i w hs hi hS
theorem run_sign (b : Nat) (l : Bs) (i : Nat) (w : World) (hs : l.length ≤ 65536) (hi : i ≤ l.length) (hS : Sc w b l i) :
    Calls Tryz.prog 50 #[.pointer (some ⟨b, 0, none⟩), .func (.func 60) #[] #[]] w (ScPost w b l (fun r : Bs => .string (B r)) (.ok (cut l i (i + spanLen sign (l.drop i))) (i + spanLen sign (l.drop i)))) :=
  run_any 60 sign (enters_of Tryz.func60 (by kernel_rfl) rfl) sign_calls b l i w hs hi hS
end
end Go.Proofs.YtgeonilideojnaaGreatDoor.Tk
end
section
namespace Go.Proofs.YtgeonilideojnaaGreatDoor.Tk
open Go
set_option linter.unusedVariables false
set_option linter.unusedSimpArgs false
theorem get_drop {s : Bs} {i : Nat} {c : UInt8} {t : Bs} (h : s.drop i = c :: t) : ∃ hl : i < (B s).size, (B s)[i]'hl = c := by
  have hl : i < s.length := by
    rcases Nat.lt_or_ge i s.length with h1 | h1
    · exact h1
    · rw [List.drop_eq_nil_of_le h1] at h; cases h
  rw [List.drop_eq_getElem_cons hl] at h
  injection h with h1 h2
  exact ⟨hl, h1⟩
theorem get_bang (s : ByteArray) (i : Nat) (h : i < s.size) : s.get! i = s[i]'h := by
  obtain ⟨d⟩ := s
  exact getElem!_pos d i h
theorem decode_high (s : ByteArray) (i : Nat) (h : 128 ≤ (s.get! i).toNat) : 128 ≤ (Utf8.decode s i).1 := by
  rw [Lib.decode_at]
  unfold Lib.decodeN
  rw [if_neg (by omega)]
  repeat' split
  all_goals simp only
  all_goals omega
theorem idx_from (p : Nat → Bool) (hp : ∀ x, 126 < x → p x = true) (s : Bs) : ∀ (f i : Nat), s.length ≤ i + f → (0 ≤ Lib.idxFuncFrom p true (B s) f i ↔ ∃ c ∈ s.drop i, p c.toNat = true) := by
  intro f
  induction f with
  | zero =>
    intro i h
    rw [List.drop_eq_nil_of_le (by omega)]
    simp [Lib.idxFuncFrom]
  | succ f ih =>
    intro i h
    cases hd : s.drop i with
    | nil =>
      have : s.length ≤ i := by simpa using hd
      unfold Lib.idxFuncFrom
      rw [if_neg (by rw [size_B]; omega)]
      simp
    | cons c t =>
      obtain ⟨hl, hc⟩ := get_drop hd
      have ht : s.drop (i + 1) = t := by
        have := List.drop_drop (l := s) (i := 1) (j := i)
        rw [← this, hd]; rfl
      unfold Lib.idxFuncFrom
      rw [if_pos hl]
      by_cases h128 : c.toNat < 128
      · rw [decode_ascii _ _ hl (by rw [hc]; exact h128), hc]
        by_cases hpc : p c.toNat = true
        · rw [if_pos hpc]
          simp [hpc]
        · rw [if_neg hpc, ih (i + 1) (by omega), ht]
          simp [hpc]
      · have hb := decode_high (B s) i (by rw [get_bang _ _ hl, hc]; omega)
        rw [if_pos (hp _ (by omega))]
        have := hp c.toNat (by omega)
        simp [this]
theorem idx_any (p : Nat → Bool) (hp : ∀ x, 126 < x → p x = true) (s : Bs) : decide (0 ≤ Lib.idxFunc p true (B s)) = s.any fun c => p c.toNat := by
  rw [Bool.eq_iff_iff]
  unfold Lib.idxFunc
  rw [decide_eq_true_eq, idx_from p hp s _ 0 (by rw [size_B]; omega)]
  simp
end Go.Proofs.YtgeonilideojnaaGreatDoor.Tk
end
section
namespace Go.Proofs.YtgeonilideojnaaGreatDoor.Tk
open Go Go.RowKit
set_option linter.unusedVariables false
set_option linter.unusedSimpArgs false
def runeP (q : UInt8 → Bool) (x : Nat) : Bool := decide (126 < x) || !q (UInt8.ofNat x)
theorem runeP_hi (q : UInt8 → Bool) : ∀ x, 126 < x → runeP q x = true := fun x h => by simp [runeP, h]
theorem runeP_byte (q : UInt8 → Bool) (c : UInt8) : runeP q c.toNat = (decide (126 < c.toNat) || !q c) := by simp [runeP]
section
set_option maxHeartbeats 1000000
theorem word1_calls (x : Nat) (hx : x ≤ 1114111) (w : World) : Calls Tryz.prog 103 #[.int .i32 (x : Int)] w fun e w' => e = .returned (.bool (runeP letter x)) ∧ w = w' := by
  by_cases h : 126 < x
  · go_enter Tryz.func103, Tryz.ntmps103
    go_wp2
    go_ret
    exact ⟨ret_bool (by simp [runeP, h]), rfl⟩
  · obtain ⟨c, rfl⟩ : ∃ c : UInt8, x = c.toNat := ⟨UInt8.ofNat x, by simp; omega⟩
    have hr := hide (runeP_byte letter c)
    go_enter Tryz.func103, Tryz.ntmps103
    go_wp2_with (first | (go_at_call 51; refine (letter_calls _ _).mono ?_; rintro e w' ⟨rfl, rfl⟩))
    go_ret
    exact ⟨ret_bool (by rw [hr.out]; simp only [h, decide_false, Bool.false_or]; simp; try omega), rfl⟩
theorem plain1_calls (x : Nat) (hx : x ≤ 1114111) (w : World) : Calls Tryz.prog 94 #[.int .i32 (x : Int)] w fun e w' => e = .returned (.bool (runeP sign x)) ∧ w = w' := by
  by_cases h : 126 < x
  · go_enter Tryz.func94, Tryz.ntmps94
    go_wp2
    go_ret
    exact ⟨ret_bool (by simp [runeP, h]), rfl⟩
  · obtain ⟨c, rfl⟩ : ∃ c : UInt8, x = c.toNat := ⟨UInt8.ofNat x, by simp; omega⟩
    have hr := hide (runeP_byte sign c)
    go_enter Tryz.func94, Tryz.ntmps94
    go_wp2_with (first | (go_at_call 60; refine (sign_calls _ _).mono ?_; rintro e w' ⟨rfl, rfl⟩))
    go_ret
    exact ⟨ret_bool (by rw [hr.out]; simp only [h, decide_false, Bool.false_or]; simp; try omega), rfl⟩
theorem ContainsFunc_word (s : Bs) (w : World) : Calls Tryz.prog 93 #[.string (B s), .func (.func 103) #[] #[]] w fun e w' => e = .returned (.bool (s.any fun c => runeP letter c.toNat)) ∧ w.grownBy w' none := by
  refine (Tryz.strings_ContainsFunc_runes 103 #[] (enters_of Tryz.func103 (by kernel_rfl) rfl) (runeP letter) (B s) w ?_).mono ?_
  · intro W x hx _
    exact (word1_calls x hx W).mono fun e w' h => ⟨h.1, 0, h.2.symm⟩
  · rintro e w' ⟨rfl, hb⟩
    exact ⟨by rw [← idx_any (runeP letter) (runeP_hi letter)], below_gb hb none⟩
theorem ContainsFunc_plain (s : Bs) (w : World) : Calls Tryz.prog 93 #[.string (B s), .func (.func 94) #[] #[]] w fun e w' => e = .returned (.bool (s.any fun c => runeP sign c.toNat)) ∧ w.grownBy w' none := by
  refine (Tryz.strings_ContainsFunc_runes 94 #[] (enters_of Tryz.func94 (by kernel_rfl) rfl) (runeP sign) (B s) w ?_).mono ?_
  · intro W x hx _
    exact (plain1_calls x hx W).mono fun e w' h => ⟨h.1, 0, h.2.symm⟩
  · rintro e w' ⟨rfl, hb⟩
    exact ⟨by rw [← idx_any (runeP sign) (runeP_hi sign)], below_gb hb none⟩
theorem letter_low (c : UInt8) (h : letter c = true) : c.toNat ≤ 126 := by
  simp [letter, small, capital, digit] at h
  omega
theorem any_word (s : Bs) : (!s.any fun c => runeP letter c.toNat) = s.all letter := by
  rw [Bool.eq_iff_iff]
  simp only [Bool.not_eq_true', List.any_eq_false, List.all_eq_true, runeP_byte]
  constructor
  · intro h c hc
    have := h c hc
    simp at this
    exact this.2
  · intro h c hc
    have := letter_low c (h c hc)
    simp [h c hc]
    omega
theorem sign_low (c : UInt8) (h : sign c = true) : c.toNat ≤ 126 := by
  simp only [sign, signsL, List.contains_iff_mem, List.mem_cons, List.mem_nil_iff, or_false] at h
  rcases h with h | h | h | h | h | h | h | h | h | h | h | h | h | h | h | h | h <;> subst h <;> decide
theorem any_sign (s : Bs) : (!s.any fun c => runeP sign c.toNat) = s.all sign := by
  rw [Bool.eq_iff_iff]
  simp only [Bool.not_eq_true', List.any_eq_false, List.all_eq_true, runeP_byte]
  constructor
  · intro h c hc
    have := h c hc
    simp at this
    exact this.2
  · intro h c hc
    have := sign_low c (h c hc)
    simp [h c hc]
    omega
theorem word_any (K : Nat) (p : UInt8 → Bool) (eK : ∀ (args : Array Value) (w : World), (callFunc K args).run Tryz.prog w = .ok (.enter K args) w)
    (hK : ∀ (c : UInt8) (w : World), Calls Tryz.prog K #[.int .u8 (c.toNat : Int)] w fun r w' => r = .returned (.bool (p c)) ∧ w = w')
    (s : Bs) (w : World) : Calls Tryz.prog 83 #[.string (B s), .func (.func K) #[] #[]] w fun e w' => e = .returned (.bool (word p s)) ∧ w.grownBy w' none := by
  have HK := hide hK
  clear hK
  have ht := toList_B s
  cases s with
  | nil =>
    go_enter Tryz.func83, Tryz.ntmps83
    go_wp2
    go_ret
    exact ⟨rfl, gb_refl _ _⟩
  | cons c t =>
    have hb : ∀ h : 0 < (B (c :: t)).size, (B (c :: t))[0]'h = c := fun _ => rfl
    have hz : 0 < (B (c :: t)).size := by rw [size_B]; simp
    have ha := hide (any_word (c :: t))
    have hc := hide (fun W => ContainsFunc_word (c :: t) W)
    cases hp : p c with
    | false =>
      go_enter Tryz.func83, Tryz.ntmps83
      go_wp2_with fail
      refine (HK.out _ _).mono ?_
      rintro e w' ⟨rfl, rfl⟩
      go_wp2
      go_ret
      exact ⟨ret_bool (by simp [word, hp]), gb_refl _ _⟩
    | true =>
      go_enter Tryz.func83, Tryz.ntmps83
      go_wp2_with fail
      refine (HK.out _ _).mono ?_
      rintro e w' ⟨rfl, rfl⟩
      go_wp2_with (go_at_call 93; refine (hc.out _).mono ?_; rintro e w1 ⟨rfl, hg1⟩)
      go_ret
      exact ⟨ret_bool (by
        have h3 := ha.out
        simp only [List.any_cons, Bool.not_or, List.all_cons] at h3
        simp only [word, hp, Bool.true_and]
        exact h3), hg1⟩
theorem word_small (s : Bs) (w : World) : Calls Tryz.prog 83 #[.string (B s), .func (.func 49) #[] #[]] w fun e w' => e = .returned (.bool (word small s)) ∧ w.grownBy w' none :=
  word_any 49 small (enters_of Tryz.func49 (by kernel_rfl) rfl) small_calls s w
theorem word_capital (s : Bs) (w : World) : Calls Tryz.prog 83 #[.string (B s), .func (.func 53) #[] #[]] w fun e w' => e = .returned (.bool (word capital s)) ∧ w.grownBy w' none :=
  word_any 53 capital (enters_of Tryz.func53 (by kernel_rfl) rfl) capital_calls s w
end
end Go.Proofs.YtgeonilideojnaaGreatDoor.Tk
end
