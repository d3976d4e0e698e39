/- A part of a proof over the package's statements: contracts of functions and plain facts, merged by a program of this session's. -/
import Derived.Lib.SplitLaws
import Derived.Lib.ParseIntB
import Derived.Lib.SlTrimSet
import Derived.WideLaws
import Derived.Shelf.Strings.SlTrimAscii
import Derived.Maps.OwnSet
import Derived.Carry
import Derived.Laws.EntriesVeiled
import Derived.Deep.Quiet
import Derived.Deep.RegionHeld3
import Derived.Test.YtgeonilideojnaaGreatDoorRG1x1
section
namespace Go.Proofs.YtgeonilideojnaaGreatDoor.Tk
open Go Go.RowKit
set_option linter.unusedVariables false
set_option linter.unusedSimpArgs false
def strVals (ss : List Bs) : List Value := ss.map fun s => .string (B s)
def idxBy {α : Type} (p : α → Bool) (xs : List α) : Int := match xs.findIdx? p with
  | some i => (i : Int)
  | none => -1
theorem idxBy_found {α : Type} {p : α → Bool} {xs : List α} {k : Nat} (hk : k < xs.length) (h : p xs[k] = true) (hn : (xs.take k).any p = false) : idxBy p xs = (k : Int) := by
  unfold idxBy
  have : xs.findIdx? p = some k := by
    rw [List.findIdx?_eq_some_iff_getElem]
    refine ⟨hk, h, fun j hj => ?_⟩
    rw [List.any_eq_false] at hn
    have := hn (xs[j]'(by omega)) (List.mem_take_iff_getElem.2 ⟨j, by omega, rfl⟩)
    simpa using this
  rw [this]
theorem idxBy_none {α : Type} {p : α → Bool} {xs : List α} (h : xs.any p = false) : idxBy p xs = -1 := by
  unfold idxBy
  have : xs.findIdx? p = none := by
    rw [List.findIdx?_eq_none_iff]
    rw [List.any_eq_false] at h
    intro x hx
    simpa using h x hx
  rw [this]
theorem idxBy_any {α : Type} (p : α → Bool) (xs : List α) : decide (0 ≤ idxBy p xs) = xs.any p := by
  unfold idxBy
  cases h : xs.findIdx? p with
  | none =>
    rw [List.findIdx?_eq_none_iff] at h
    symm
    simp
    intro x hx
    simpa using h x hx
  | some i =>
    rw [List.findIdx?_eq_some_iff_getElem] at h
    obtain ⟨hi, hp, _⟩ := h
    symm
    simp
    exact ⟨xs[i], by simp, hp⟩
theorem any_take_succ {α : Type} {p : α → Bool} {xs : List α} {k : Nat} (hk : k < xs.length) (h : p xs[k] = false) (hn : (xs.take k).any p = false) : (xs.take (k + 1)).any p = false := by
  rw [List.take_succ_eq_append_getElem hk]
  simp only [List.any_append, hn, List.any_cons, h, List.any_nil, Bool.or_self]
section
set_option maxHeartbeats 1000000
theorem sindex_any (K : Nat) (p : Bs → Bool) (eK : ∀ (args : Array Value) (w : World), (callFunc K args).run Tryz.prog w = .ok (.enter K args) w)
    (hK : ∀ (s : Bs) (w : World), Calls Tryz.prog K #[.string (B s)] w fun r w' => r = .returned (.bool (p s)) ∧ w.grownBy w' none)
    (A : Option Addr) (n c : Nat) (ss : List Bs) (w : World) (hn : ss.length = n) (hb : n ≤ 140737488355328) (hC : Cells w A (strVals ss)) :
    Calls Tryz.prog 123 #[.slice A n c, .func (.func K) #[] #[]] w fun e w' => e = .returned (.int .i64 (idxBy p ss)) ∧ w.grownBy w' none := by
  have HK := hide hK
  have HC := hide hC
  have Hn := hide hn
  clear hK hC hn
  go_enter Tryz.func123, Tryz.ntmps123
  go_wp2_with fail
  go_loopw [8] (fun v wr => ∃ k : Nat, k ≤ n ∧ v = .int .i64 (k : Int) ∧ Hid ((ss.take k).any p = false) ∧ w.grownBy wr none) (fun v _ => n - (intOf v).toNat)
  case atStart => exact ⟨0, Nat.zero_le _, rfl, by unfold Hid; simp, gb_refl _ _⟩
  case round =>
    obtain ⟨k, hk, rfl, Hk, hg⟩ := hrel
    have Hg := hide hg
    clear hg
    by_cases hlt : k < n
    · have hks : k < ss.length := by rw [Hn.out]; exact hlt
      obtain ⟨ad, e, hcell⟩ := (HC.out.kept Hg.out).at_ (k := k) (by simp [strVals]; exact hks)
      have HA := hide e
      subst e
      simp only [strVals, List.getElem_map] at hcell
      cases hp : p ss[k] with
      | true =>
        have hr := hide (idxBy_found hks hp Hk.out)
        have hc := hide (fun W => hp ▸ HK.out ss[k] W)
        clear hp
        go_wp2_with fail
        refine (hc.out _).mono ?_
        rintro e w1 ⟨rfl, hg1⟩
        go_wp2
        go_ret
        rw [hr.out]
        exact ⟨rfl, gb_trans Hg.out hg1⟩
      | false =>
        have Hk2 := hide (any_take_succ hks hp Hk.out)
        have hc := hide (fun W => hp ▸ HK.out ss[k] W)
        clear hp
        go_wp2_with fail
        refine (hc.out _).mono ?_
        rintro e w1 ⟨rfl, hg1⟩
        go_wp2
        refine ⟨⟨k + 1, by omega, by go_num, Hk2, gb_trans Hg.out hg1⟩, ?_⟩
        simp [intOf]
        omega
    · have hr := hide (idxBy_none (p := p) (xs := ss) (by have := Hk.out; rwa [List.take_of_length_le (by rw [Hn.out]; omega)] at this))
      go_wp2
      go_ret
      rw [hr.out]
      exact ⟨rfl, Hg.out⟩
theorem scontains_any (K : Nat) (p : Bs → Bool) (eK : ∀ (args : Array Value) (w : World), (callFunc K args).run Tryz.prog w = .ok (.enter K args) w)
    (hK : ∀ (s : Bs) (w : World), Calls Tryz.prog K #[.string (B s)] w fun r w' => r = .returned (.bool (p s)) ∧ w.grownBy w' none)
    (A : Option Addr) (n c : Nat) (ss : List Bs) (w : World) (hn : ss.length = n) (hb : n ≤ 140737488355328) (hC : Cells w A (strVals ss)) :
    Calls Tryz.prog 108 #[.slice A n c, .func (.func K) #[] #[]] w fun e w' => e = .returned (.bool (ss.any p)) ∧ w.grownBy w' none := by
  have hc := hide (sindex_any K p eK hK A n c ss w hn hb hC)
  have hr := hide (idxBy_any p ss)
  clear hK hC hn
  go_enter Tryz.func108, Tryz.ntmps108
  go_wp2_with (go_at_call 123; refine hc.out.mono ?_; rintro e w1 ⟨rfl, hg1⟩)
  go_ret
  exact ⟨ret_bool hr.out, hg1⟩
theorem parts1_calls (s : Bs) (w : World) : Calls Tryz.prog 109 #[.string (B s)] w fun r w' => r = .returned (.bool (!word small s)) ∧ w.grownBy w' none := by
  go_enter Tryz.func109, Tryz.ntmps109
  go_wp2_with (go_at_call 83; refine (word_small s _).mono ?_; rintro e w1 ⟨rfl, hg1⟩)
  go_ret
  exact ⟨rfl, hg1⟩
theorem splitDot_le : ∀ s : Bs, (splitDot s).length ≤ s.length + 1
  | [] => Nat.le_refl _
  | c :: t => by
    have ih := splitDot_le t
    unfold splitDot
    split
    · simp; omega
    · cases h : splitDot t with
      | nil => simp
      | cons p ps => rw [h] at ih; simp at ih ⊢; omega
theorem parts_ok (s : Bs) : (!(splitDot s).any fun x => !word small x) = partsOk s := by
  unfold partsOk
  rw [Bool.eq_iff_iff]
  simp
theorem split_dot : ∀ s : Bs, Lib.splitK [46] 0 (Lib.count s [46]) s = splitDot s
  | [] => rfl
  | c :: t => by
    have ih := split_dot t
    by_cases h : c = 46
    · subst h
      rw [Lib.count_cons_eq, Nat.add_comm, splitDot, if_pos rfl, ← ih]
      have hi : Lib.index (46 :: t) [46] = 0 := by simp [Lib.index]
      generalize Lib.count t [46] = k
      show (if (Lib.index (46 :: t) [46] == -1) = true then [46 :: t] else (46 :: t).take ((Lib.index (46 :: t) [46]).toNat + 0) :: Lib.splitK [46] 0 k ((46 :: t).drop ((Lib.index (46 :: t) [46]).toNat + [(46 : UInt8)].length))) = _
      rw [hi]
      rfl
    · rw [Lib.count_cons_ne c 46 t h, splitDot, if_neg h, ← ih]
      have hi : Lib.index (c :: t) [46] = if Lib.index t [46] == -1 then -1 else Lib.index t [46] + 1 := by
        have : ¬ (46 : UInt8) = c := fun e => h e.symm
        simp [Lib.index, this]
      cases hk : Lib.count t [46] with
      | zero => simp [Lib.splitK]
      | succ k =>
        have hne : Lib.index t [46] ≠ -1 := by
          intro e
          rw [Lib.count_miss e] at hk
          cases hk
        have hb : (Lib.index t [46] == -1) = false := by simpa using hne
        have hg := Lib.index_ge t [46]
        rw [hb] at hi
        have h2 : (Lib.index (c :: t) [46] == -1) = false := by rw [hi]; simp; omega
        have h3 : (Lib.index (c :: t) [46]).toNat = (Lib.index t [46]).toNat + 1 := by rw [hi]; simp; omega
        unfold Lib.splitK
        rw [hb, h2, h3]
        simp
theorem Split_dot (s : Bs) (w : World) (hs : s.length ≤ 65536) (hE : Env w) : Calls Tryz.prog 107 #[.string (B s), .string ⟨#[46]⟩] w fun e w' =>
    e = .returned (.slice (some ⟨w.heap.size, 0, none⟩) (splitDot s).length (splitDot s).length) ∧ w' = w.alloc (.cells (strVals (splitDot s)).toArray 9) := by
  obtain ⟨m, hm⟩ := hE.maxLen
  refine (Tryz.strings_Split (B s) ⟨#[46]⟩ m w (by rw [size_B]; omega) hm (by decide)).mono ?_
  rintro e w' ⟨rfl, rfl⟩
  have h1 : (Lib.splitB ⟨#[46]⟩ 0 (Lib.countB (B s) ⟨#[46]⟩) (B s)) = (splitDot s).map B := by
    have h2 := Lib.splitB_data ⟨#[46]⟩ 0 (Lib.countB (B s) ⟨#[46]⟩) (B s)
    have h3 : Lib.splitK [46] 0 (Lib.countB (B s) ⟨#[46]⟩) s = splitDot s := split_dot s
    have h4 : (Lib.splitB ⟨#[46]⟩ 0 (Lib.countB (B s) ⟨#[46]⟩) (B s)).map (·.data.toList) = splitDot s := h2.trans h3
    rw [← h4, List.map_map]
    conv => lhs; rw [← List.map_id (Lib.splitB ⟨#[46]⟩ 0 (Lib.countB (B s) ⟨#[46]⟩) (B s))]
    apply List.map_congr_left
    intro x _
    exact (B_of x).symm
  have h5 : Lib.countB (B s) ⟨#[46]⟩ + 1 = (splitDot s).length := by
    have := Lib.splitB_all ⟨#[46]⟩ (by decide) 0 _ (B s) rfl
    rw [h1] at this
    simpa using this.symm
  refine ⟨by rw [h5], ?_⟩
  rw [h1]
  simp [strVals, List.map_map, Function.comp_def]
theorem parts_calls (s : Bs) (w : World) (hs : s.length ≤ 65536) (hE : Env w) : Calls Tryz.prog 92 #[.string (B s)] w fun e w' =>
    ∃ g, e = .returned (.tuple #[.slice (some ⟨g, 0, none⟩) (splitDot s).length (splitDot s).length, .bool (partsOk s)]) ∧ Blk w' g 9 (strVals (splitDot s)).toArray ∧ w.grownBy w' none := by
  have hc := hide (Split_dot s w hs hE)
  have hl : (splitDot s).length ≤ 140737488355328 := by
    have := splitDot_le s
    omega
  have hr := hide (parts_ok s)
  clear hE
  go_enter Tryz.func92, Tryz.ntmps92
  go_wp2_with (first | (go_at_call 107; refine hc.out.mono ?_; rintro e w1 ⟨rfl, rfl⟩) | (go_at_call 108; refine (scontains_any 109 (fun x => !word small x) (enters_of Tryz.func109 (by kernel_rfl) rfl) parts1_calls _ _ _ (splitDot s) _ rfl hl (by have := Cells.blk (Blk.new w 9 (strVals (splitDot s)).toArray); simpa using this)).mono ?_; rintro e w2 ⟨rfl, hg2⟩))
  go_ret2
  exact ⟨w.heap.size, by rw [← hr.out]; rfl, (Blk.new _ _ _).kept hg2, gb_trans (gb_alloc (gb_refl _ _) _) hg2⟩
end
end Go.Proofs.YtgeonilideojnaaGreatDoor.Tk
end
section
namespace Go.Proofs.YtgeonilideojnaaGreatDoor.Tk
open Go Go.RowKit
set_option linter.unusedVariables false
set_option linter.unusedSimpArgs false
section
set_option maxHeartbeats 1000000
set_option maxRecDepth 100000
theorem plain_calls (s : Bs) (w : World) (hs : s.length ≤ 65536) (hE : Env w) : Calls Tryz.prog 44 #[.string (B s)] w fun e w' => e = .returned (.bool (plain s)) ∧ w.grownBy w' none := by
  have ht := toList_B s
  have hpa := hide (parts_calls s w hs hE)
  clear hE
  cases hp : partsOk s with
  | true =>
    have hpc := hide (hp ▸ hpa.out)
    have hr := hide (show plain s = true by simp [plain, hp])
    clear hp
    go_enter Tryz.func44, Tryz.ntmps44
    go_wp2_with (first | (go_at_call 92; refine hpc.out.mono ?_; rintro e w1 ⟨g, rfl, hb1, hg1⟩))
    go_ret
    exact ⟨ret_bool hr.out.symm, hg1⟩
  | false =>
    have hpc := hide (hp ▸ hpa.out)
    have hd := hide hp
    clear hp
    by_cases h0 : s = []
    · have t0 : s.isEmpty = true := by simpa using h0
      have hr := hide (show plain s = false by rw [plain, hd.out]; simp [h0])
      clear h0
      go_enter Tryz.func44, Tryz.ntmps44
      go_wp2_with (first | (go_at_call 92; refine hpc.out.mono ?_; rintro e w1 ⟨g, rfl, hb1, hg1⟩))
      go_ret
      exact ⟨ret_bool hr.out.symm, hg1⟩
    · have t0 : s.isEmpty = false := by simpa using h0
      by_cases h1 : s = [46]
      · have t1 : (s == [46]) = true := by simpa using h1
        have hr := hide (show plain s = false by rw [plain, hd.out]; simp [h1])
        clear h0 h1
        go_enter Tryz.func44, Tryz.ntmps44
        go_wp2_with (first | (go_at_call 92; refine hpc.out.mono ?_; rintro e w1 ⟨g, rfl, hb1, hg1⟩))
        go_ret
        exact ⟨ret_bool hr.out.symm, hg1⟩
      · have t1 : (s == [46]) = false := by simpa using h1
        by_cases h2 : s = [59]
        · have t2 : (s == [59]) = true := by simpa using h2
          have hr := hide (show plain s = true by simp [plain, h2])
          clear h0 h1 h2
          go_enter Tryz.func44, Tryz.ntmps44
          go_wp2_with (first | (go_at_call 92; refine hpc.out.mono ?_; rintro e w1 ⟨g, rfl, hb1, hg1⟩))
          go_ret
          exact ⟨ret_bool hr.out.symm, hg1⟩
        · have t2 : (s == [59]) = false := by simpa using h2
          by_cases h3 : s = [33]
          · have t3 : (s == [33]) = true := by simpa using h3
            have hr := hide (show plain s = true by simp [plain, h3])
            clear h0 h1 h2 h3
            go_enter Tryz.func44, Tryz.ntmps44
            go_wp2_with (first | (go_at_call 92; refine hpc.out.mono ?_; rintro e w1 ⟨g, rfl, hb1, hg1⟩))
            go_ret
            exact ⟨ret_bool hr.out.symm, hg1⟩
          · have t3 : (s == [33]) = false := by simpa using h3
            cases hpre : ([47, 42] : Bs).isPrefixOf s with
            | true =>
              have hr := hide (show plain s = false by simp [plain, hd.out, h0, h1, h2, h3, hpre])
              have hpx := hide (fun W => hpre ▸ HasPrefix_calls s [47, 42] W)
              clear h0 h1 h2 h3 hpre
              go_enter Tryz.func44, Tryz.ntmps44
              go_wp2_with (first | (go_at_call 92; refine hpc.out.mono ?_; rintro e w1 ⟨g, rfl, hb1, hg1⟩) | (go_at_call 48; refine (hpx.out _).mono ?_; rintro e w' ⟨rfl, rfl⟩))
              go_ret
              exact ⟨ret_bool hr.out.symm, hg1⟩
            | false =>
              have hr := hide (show plain s = !s.any fun c => runeP sign c.toNat by rw [any_sign]; simp [plain, hd.out, h0, h1, h2, h3, hpre])
              have hpx := hide (fun W => hpre ▸ HasPrefix_calls s [47, 42] W)
              clear h0 h1 h2 h3 hpre
              go_enter Tryz.func44, Tryz.ntmps44
              go_wp2_with (first | (go_at_call 92; refine hpc.out.mono ?_; rintro e w1 ⟨g, rfl, hb1, hg1⟩) | (go_at_call 48; refine (hpx.out _).mono ?_; rintro e w' ⟨rfl, rfl⟩) | (go_at_call 93; refine (ContainsFunc_plain s _).mono ?_; rintro e w2 ⟨rfl, hg2⟩))
              go_ret
              exact ⟨ret_bool hr.out.symm, gb_trans hg1 hg2⟩
theorem printable_no {s : Bs} {bk : Bool} {k : Nat} (hk : k < s.length) (h : (permitted s[k] && (bk || decide (32 ≤ s[k].toNat))) = false) : printable s bk = false := by
  unfold printable
  rw [Bool.eq_false_iff]
  intro h2
  rw [List.all_eq_true] at h2
  have := h2 s[k] (by simp)
  rw [h] at this
  cases this
theorem printable_next {s : Bs} {bk : Bool} {k : Nat} (hk : k < s.length) (hp : printable (s.take k) bk = true) (h : (permitted s[k] && (bk || decide (32 ≤ s[k].toNat))) = true) : printable (s.take (k + 1)) bk = true := by
  unfold printable at *
  rw [List.take_succ_eq_append_getElem hk, List.all_append, hp]
  simp only [List.all_cons, List.all_nil, h, Bool.and_self]
theorem printable_calls (s : Bs) (bk : Bool) (w : World) (hs : s.length ≤ 65536) : Calls Tryz.prog 87 #[.string (B s), .bool bk] w fun e w' => e = .returned (.bool (printable s bk)) ∧ w.grownBy w' none := by
  have hcv := bytes_conv s
  have hgb := hide (bytes_gb s w)
  have hce := hide (fun k (hk : k < s.length) => bytes_cell s w hk)
  go_enter Tryz.func87, Tryz.ntmps87
  go_wp2_with fail
  generalize hW : Lib.bytesWorld w 5 (B s) = W at *
  clear hcv hW
  go_loop [10] (fun v => ∃ k : Nat, k ≤ s.length ∧ v = .int .i64 (k : Int) ∧ Hid (printable (s.take k) bk = true)) (fun v => s.length - (intOf v).toNat)
  case atStart => exact ⟨0, Nat.zero_le _, rfl, rfl⟩
  case round =>
    obtain ⟨k, hk, rfl, Hk⟩ := hrel
    by_cases hlt : k < s.length
    · have hcell := hce.out k hlt
      have hn := hide (printable_no (bk := bk) hlt)
      have hy := hide (fun h => printable_next hlt Hk.out (bk := bk) h)
      cases hp : permitted s[k] with
      | false =>
        have hr := hide (hn.out (by simp [hp]))
        go_wp2_with (go_at_call 95; refine (permitted_calls _ _).mono ?_; rintro e w' ⟨rfl, rfl⟩)
        go_ret
        exact ⟨ret_bool hr.out.symm, hgb.out⟩
      | true =>
        cases hb : bk with
        | true =>
          have hk2 := hide (hy.out (by simp [hp, hb]))
          subst hb
          go_wp2_with (go_at_call 95; refine (permitted_calls _ _).mono ?_; rintro e w' ⟨rfl, rfl⟩)
          go_round
          case rel => exact ⟨k + 1, by omega, by go_num, hk2⟩
          case measure => simp [intOf]; omega
        | false =>
          subst hb
          by_cases h32 : (32 : Int) ≤ (s[k].toNat : Int)
          · have hk2 := hide (hy.out (by simp [hp]; omega))
            go_wp2_with (go_at_call 95; refine (permitted_calls _ _).mono ?_; rintro e w' ⟨rfl, rfl⟩)
            go_round
            case rel => exact ⟨k + 1, by omega, by go_num, hk2⟩
            case measure => simp [intOf]; omega
          · have hr := hide (hn.out (by simp [hp]; omega))
            have h32b : decide ((32 : Int) ≤ (s[k].toNat : Int)) = false := by simp; omega
            go_wp2_with (go_at_call 95; refine (permitted_calls _ _).mono ?_; rintro e w' ⟨rfl, rfl⟩)
            go_ret
            exact ⟨ret_bool hr.out.symm, hgb.out⟩
    · have hr := hide (show printable s bk = true by have := Hk.out; rwa [List.take_of_length_le (by omega)] at this)
      go_wp2
      go_ret
      exact ⟨ret_bool hr.out.symm, hgb.out⟩
theorem splitDot_each : ∀ s : Bs, ∀ x ∈ splitDot s, x.length ≤ s.length
  | [], x, h => by simp [splitDot] at h; simp [h]
  | c :: t, x, h => by
    have ih := splitDot_each t
    unfold splitDot at h
    split at h
    · rcases List.mem_cons.1 h with rfl | h
      · simp
      · have := ih x h
        simp; omega
    · cases hs : splitDot t with
      | nil => rw [hs] at h; simp at h; simp [h]
      | cons p ps =>
        rw [hs] at h ih
        rcases List.mem_cons.1 h with rfl | h
        · have := ih p (by simp)
          simp; omega
        · have := ih x (by simp [h])
          simp; omega
theorem checkName_calls (s : Bs) (w : World) (hs : s.length ≤ 65536) (hE : Env w) (hsz : 8 ≤ w.heap.size) : Calls Tryz.prog 81 #[.string (B s)] w fun e w' => e = .returned (.int .i64 (checkName s : Int)) ∧ w.grownBy w' none := by
  have ht := toList_B s
  have hz := size_B s
  have hpa := hide (parts_calls s w hs hE)
  cases hp : partsOk s with
  | true =>
    have hpc := hide (hp ▸ hpa.out)
    have hr := hide (show checkName s = if (splitDot s).any (fun x => decide (40 < x.length)) then 6 else 0 by simp [checkName, hp])
    have hsl := splitDot_le s
    have hel := hide (splitDot_each s)
    clear hp hE
    go_enter Tryz.func81, Tryz.ntmps81
    go_wp2_with (first | (go_at_call 92; refine hpc.out.mono ?_; rintro e w1 ⟨g, rfl, hb1, hg1⟩; have HB := hide hb1; have Hg := hide hg1; clear hb1 hg1))
    go_loopw [16] (fun v wr => ∃ k : Nat, k ≤ (splitDot s).length ∧ v = .int .i64 (k : Int) ∧ Hid (((splitDot s).take k).any (fun x => decide (40 < x.length)) = false) ∧ wr = w1) (fun v _ => (splitDot s).length - (intOf v).toNat)
    case atStart => exact ⟨0, Nat.zero_le _, rfl, by unfold Hid; simp, rfl⟩
    case round =>
      obtain ⟨k, hk, rfl, Hk, rfl⟩ := hrel
      by_cases hlt : k < (splitDot s).length
      · have hcell := HB.out.cell k
        have hcv : (strVals (splitDot s)).toArray[k]? = some (.string (B (splitDot s)[k])) := by simp [strVals, hlt]
        rw [hcv] at hcell
        have hzk := size_B (splitDot s)[k]
        have hlen := hel.out _ (List.getElem_mem hlt)
        by_cases h40 : 40 < (splitDot s)[k].length
        · have hl6 := hide (show limitS (splitDot s)[k].length = 6 by simp [limitS, h40])
          have hr2 := hide (hr.out.trans (by rw [if_pos]; exact List.any_eq_true.2 ⟨_, List.getElem_mem hlt, by simpa using h40⟩))
          have hc := hide (fun W => hl6.out ▸ limit_calls (splitDot s)[k].length W)
          go_wp2_with (go_at_call 84; refine (hc.out _).mono ?_; rintro e w' ⟨rfl, rfl⟩)
          go_ret
          rw [hr2.out]
          exact ⟨rfl, Hg.out⟩
        · have hl0 := hide (show limitS (splitDot s)[k].length = 0 by simp [limitS, h40])
          have hk2 := hide (any_take_succ hlt (by simpa using h40) Hk.out)
          have hc := hide (fun W => hl0.out ▸ limit_calls (splitDot s)[k].length W)
          go_wp2_with (go_at_call 84; refine (hc.out _).mono ?_; rintro e w' ⟨rfl, rfl⟩)
          go_roundw
          case rel => exact ⟨k + 1, by omega, by go_num, hk2, by first | rfl | trivial⟩
          case measure => simp [intOf]; omega
      · have hr2 := hide (hr.out.trans (by rw [if_neg]; have := Hk.out; rw [List.take_of_length_le (by omega)] at this; rw [this]; simp))
        go_wp2
        go_ret
        rw [hr2.out]
        exact ⟨rfl, Hg.out⟩
  | false =>
    have hpc := hide (hp ▸ hpa.out)
    have HE := hide hE
    have hd := hide hp
    clear hE hp
    by_cases h0 : s = []
    · have t0 : s.isEmpty = true := by simpa using h0
      have hr := hide (show checkName s = 2 by rw [checkName, hd.out]; simp [h0])
      clear h0
      go_enter Tryz.func81, Tryz.ntmps81
      go_wp2_with (first | (go_at_call 92; refine hpc.out.mono ?_; rintro e w1 ⟨g, rfl, hb1, hg1⟩))
      go_ret
      rw [hr.out]
      exact ⟨rfl, hg1⟩
    · have t0 : s.isEmpty = false := by simpa using h0
      by_cases h1 : s = [46]
      · have t1 : (s == [46]) = true := by simpa using h1
        have hr := hide (show checkName s = 2 by rw [checkName, hd.out]; simp [h1])
        clear h0 h1
        go_enter Tryz.func81, Tryz.ntmps81
        go_wp2_with (first | (go_at_call 92; refine hpc.out.mono ?_; rintro e w1 ⟨g, rfl, hb1, hg1⟩))
        go_ret
        rw [hr.out]
        exact ⟨rfl, hg1⟩
      · have t1 : (s == [46]) = false := by simpa using h1
        by_cases h2 : s = [33, 46]
        · have t2 : (s == [33, 46]) = true := by simpa using h2
          have hr := hide (show checkName s = limitS s.length by rw [checkName, hd.out]; simp [h2])
          clear h0 h1 h2
          go_enter Tryz.func81, Tryz.ntmps81
          go_wp2_with (first | (go_at_call 92; refine hpc.out.mono ?_; rintro e w1 ⟨g, rfl, hb1, hg1⟩) | (go_at_call 84; refine (limit_calls s.length _).mono ?_; rintro e w' ⟨rfl, rfl⟩))
          go_ret
          rw [hr.out]
          exact ⟨rfl, hg1⟩
        · have t2 : (s == [33, 46]) = false := by simpa using h2
          have hpl0 := fun (W : World) (h : Env W) => plain_calls s W hs h
          cases hp3 : plain s with
          | true =>
            have hpl := hide (hp3 ▸ hpl0)
            have hr := hide (show checkName s = limitS s.length by rw [checkName, hd.out, hp3]; simp [h0, h1])
            clear h0 h1 h2 hp3 hpl0
            go_enter Tryz.func81, Tryz.ntmps81
            go_wp2_with (first | (go_at_call 92; refine hpc.out.mono ?_; rintro e w1 ⟨g, rfl, hb1, hg1⟩) | (go_at_call 44; refine (hpl.out _ (HE.out.grown hg1 hsz (by simp))).mono ?_; rintro e w2 ⟨rfl, hg2⟩) | (go_at_call 84; refine (limit_calls s.length _).mono ?_; rintro e w' ⟨rfl, rfl⟩))
            go_ret
            rw [hr.out]
            exact ⟨rfl, gb_trans hg1 hg2⟩
          | false =>
            have hpl := hide (hp3 ▸ hpl0)
            have hct0 := fun W => Contains_calls s 46 W
            cases hp4 : s.contains 46 with
            | true =>
              have hct := hide (hp4 ▸ hct0)
              have hr := hide (show checkName s = 2 by rw [checkName, hd.out, hp3, hp4]; simp [h2])
              clear h0 h1 h2 hp3 hpl0 hp4 hct0
              go_enter Tryz.func81, Tryz.ntmps81
              go_wp2_with (first | (go_at_call 92; refine hpc.out.mono ?_; rintro e w1 ⟨g, rfl, hb1, hg1⟩) | (go_at_call 44; refine (hpl.out _ (HE.out.grown hg1 hsz (by simp))).mono ?_; rintro e w2 ⟨rfl, hg2⟩) | (go_at_call 57; refine (hct.out _).mono ?_; rintro e w' ⟨rfl, rfl⟩))
              go_ret
              rw [hr.out]
              exact ⟨rfl, gb_trans hg1 hg2⟩
            | false =>
              have hct := hide (hp4 ▸ hct0)
              have hpr0 := fun W => printable_calls s false W hs
              cases hp5 : printable s false with
              | true =>
                have hpr := hide (hp5 ▸ hpr0)
                have hr := hide (show checkName s = limitS s.length by rw [checkName, hd.out, hp3, hp4, hp5]; simp [h0, h1])
                clear h0 h1 h2 hp3 hpl0 hp4 hct0 hp5 hpr0
                go_enter Tryz.func81, Tryz.ntmps81
                go_wp2_with (first | (go_at_call 92; refine hpc.out.mono ?_; rintro e w1 ⟨g, rfl, hb1, hg1⟩) | (go_at_call 44; refine (hpl.out _ (HE.out.grown hg1 hsz (by simp))).mono ?_; rintro e w2 ⟨rfl, hg2⟩) | (go_at_call 57; refine (hct.out _).mono ?_; rintro e w' ⟨rfl, rfl⟩) | (go_at_call 87; refine (hpr.out _).mono ?_; rintro e w3 ⟨rfl, hg3⟩) | (go_at_call 84; refine (limit_calls s.length _).mono ?_; rintro e w' ⟨rfl, rfl⟩))
                go_ret
                rw [hr.out]
                exact ⟨rfl, gb_trans (gb_trans hg1 hg2) hg3⟩
              | false =>
                have hpr := hide (hp5 ▸ hpr0)
                have hr := hide (show checkName s = 2 by rw [checkName, hd.out, hp3, hp4, hp5]; simp [h2])
                clear h0 h1 h2 hp3 hpl0 hp4 hct0 hp5 hpr0
                go_enter Tryz.func81, Tryz.ntmps81
                go_wp2_with (first | (go_at_call 92; refine hpc.out.mono ?_; rintro e w1 ⟨g, rfl, hb1, hg1⟩) | (go_at_call 44; refine (hpl.out _ (HE.out.grown hg1 hsz (by simp))).mono ?_; rintro e w2 ⟨rfl, hg2⟩) | (go_at_call 57; refine (hct.out _).mono ?_; rintro e w' ⟨rfl, rfl⟩) | (go_at_call 87; refine (hpr.out _).mono ?_; rintro e w3 ⟨rfl, hg3⟩))
                go_ret
                rw [hr.out]
                exact ⟨rfl, gb_trans (gb_trans hg1 hg2) hg3⟩
end
end Go.Proofs.YtgeonilideojnaaGreatDoor.Tk
end
section
namespace Go.Proofs.YtgeonilideojnaaGreatDoor.Tk
open Go
set_option linter.unusedVariables false
set_option linter.unusedSimpArgs false
def digitsL : Bs := [48, 49, 50, 51, 52, 53, 54, 55, 56, 57]
theorem digits_has (c : UInt8) : digitsL.contains c = digit c := by
  rw [Bool.eq_iff_iff]
  simp [digitsL, digit, ← UInt8.toNat_inj]
  omega
theorem drop_nil_iff (p : UInt8 → Bool) (l : Bs) : l.dropWhile p = [] ↔ ∀ x ∈ l, p x = true := by
  induction l with
  | nil => simp
  | cons c t ih =>
    by_cases h : p c = true
    · simp [List.dropWhile_cons, h, ih]
    · simp [List.dropWhile_cons, h]
theorem drop_head (p : UInt8 → Bool) (l : Bs) : ∀ c t, l.dropWhile p = c :: t → p c = false := by
  induction l with
  | nil => intro c t h; simp at h
  | cons d u ih =>
    intro c t h
    by_cases hd : p d = true
    · simp [List.dropWhile_cons, hd] at h
      exact ih c t h
    · simp [List.dropWhile_cons, hd] at h
      rw [← h.1]
      simpa using hd
theorem trim_digits (s : Bs) : Lib.trimS s digitsL = [] ↔ s.all digit = true := by
  have hp : (fun c => digitsL.contains c) = digit := funext digits_has
  unfold Lib.trimS Lib.trimLeftS Lib.trimRightS
  rw [hp, drop_nil_iff, List.all_eq_true]
  constructor
  · intro h
    cases hr : s.reverse.dropWhile digit with
    | nil =>
      rw [drop_nil_iff] at hr
      intro x hx
      exact hr x (by simpa using hx)
    | cons c t =>
      have h1 := drop_head digit _ c t hr
      rw [hr] at h
      have := h c (by simp)
      rw [h1] at this
      cases this
  · intro h
    have : s.reverse.dropWhile digit = [] := by
      rw [drop_nil_iff]
      intro x hx
      exact h x (by simpa using hx)
    rw [this]
    simp
def valFrom (acc : Nat) (s : Bs) : Nat := s.foldl (fun n c => n * 10 + (c.toNat - 48)) acc
theorem valFrom_ge : ∀ (s : Bs) (acc : Nat), acc ≤ valFrom acc s
  | [], acc => Nat.le_refl _
  | c :: t, acc => by
    have := valFrom_ge t (acc * 10 + (c.toNat - 48))
    unfold valFrom at *
    simp only [List.foldl_cons]
    omega
theorem digit_range {c : UInt8} (h : digit c = true) : 48 ≤ c.toNat ∧ c.toNat ≤ 57 := by simpa [digit] using h
theorem uint_digits : ∀ (s : Bs) (acc : Nat), s.all digit = true → Lib.parseUintM 18446744073709551615 acc s = if valFrom acc s ≤ 18446744073709551615 then .ok (valFrom acc s) else (if s = [] then .ok acc else .range)
  | [], acc, _ => by simp [Lib.parseUintM, valFrom]
  | c :: t, acc, h => by
    simp only [List.all_cons, Bool.and_eq_true] at h
    have hc := digit_range h.1
    have ih := uint_digits t (acc * 10 + (c.toNat - 48)) h.2
    have hge := valFrom_ge t (acc * 10 + (c.toNat - 48))
    have hv : valFrom acc (c :: t) = valFrom (acc * 10 + (c.toNat - 48)) t := rfl
    rw [hv]
    unfold Lib.parseUintM
    rw [if_pos hc]
    by_cases h1 : 1844674407370955162 ≤ acc
    · rw [if_pos h1, if_neg (by omega)]
      simp
    · rw [if_neg h1]
      by_cases h2 : 18446744073709551615 < acc * 10 + (c.toNat - 48)
      · rw [if_pos h2, if_neg (by omega)]
        simp
      · rw [if_neg h2, ih]
        split
        · rfl
        · rename_i h3
          have : ¬ t = [] := by
            rintro rfl
            simp [valFrom] at h3
            omega
          simp [this]
theorem int_digits (s : Bs) (h0 : s ≠ []) (h : s.all digit = true) : Lib.parseIntB 64 s = if decVal s ≤ 9223372036854775807 then .ok (decVal s : Int) else .range := by
  cases s with
  | nil => exact absurd rfl h0
  | cons c t =>
    have hc := digit_range (by simp at h; exact h.1)
    have hd : decVal (c :: t) = valFrom 0 (c :: t) := rfl
    unfold Lib.parseIntB
    simp only
    rw [if_neg (by omega)]
    unfold Lib.parseUintB
    rw [if_neg h0]
    have hp : (2 : Nat) ^ 64 - 1 = 18446744073709551615 := by decide
    rw [hp, uint_digits _ 0 h, hd]
    by_cases h1 : valFrom 0 (c :: t) ≤ 18446744073709551615
    · rw [if_pos h1]
      simp only
      by_cases h2 : valFrom 0 (c :: t) ≤ 9223372036854775807
      · rw [if_pos h2, if_neg (by omega), if_neg (by omega), if_neg (by omega)]
      · rw [if_neg h2, if_pos (by omega)]
    · rw [if_neg h1, if_neg h0, if_neg (by omega)]
end Go.Proofs.YtgeonilideojnaaGreatDoor.Tk
end
section
namespace Go.Proofs.YtgeonilideojnaaGreatDoor.Tk
open Go Go.RowKit
set_option linter.unusedVariables false
set_option linter.unusedSimpArgs false
section
set_option maxHeartbeats 1000000
set_option maxRecDepth 100000
theorem Trim_digits (s : Bs) (w : World) (hs : s.length ≤ 65536) : Calls Tryz.prog 104 #[.string (B s), .string ⟨#[48, 49, 50, 51, 52, 53, 54, 55, 56, 57]⟩] w fun e w' => e = .returned (.string (B (Lib.trimS s digitsL))) ∧ w.grownBy w' none := by
  refine (Tryz.strings_Trim (B s) ⟨#[48, 49, 50, 51, 52, 53, 54, 55, 56, 57]⟩ w (by rw [size_B]; omega) (by decide) (ascii_of_all (by decide))).mono ?_
  rintro e w' ⟨rfl, hb⟩
  exact ⟨rfl, below_gb hb none⟩
theorem parse_gb {W w2 : World} {e : TypeId} (h : w2 = W ∨ ∃ t, w2 = Lib.bytesWorld W e t) : W.grownBy w2 none := by
  rcases h with rfl | ⟨t, rfl⟩
  · exact gb_refl _ _
  · exact ⟨rfl, rfl, rfl, by rw [Lib.bytesWorld_size]; omega, fun i hi _ => Lib.bytesWorld_at_old W _ _ i hi⟩
theorem checkInt_calls (s : Bs) (w : World) (hs : s.length ≤ 65536) (hE : Env w) (hsz : 8 ≤ w.heap.size) : Calls Tryz.prog 85 #[.string (B s)] w fun e w' => e = .returned (.int .i64 (checkInt s : Int)) ∧ w.grownBy w' none := by
  have ht := toList_B s
  by_cases h0 : s = []
  · have t0 : s.isEmpty = true := by simpa using h0
    have hr := hide (show checkInt s = 2 by simp [checkInt, h0])
    clear h0
    go_enter Tryz.func85, Tryz.ntmps85
    go_wp2
    go_ret
    rw [hr.out]
    exact ⟨rfl, gb_refl _ _⟩
  · have t0 : s.isEmpty = false := by simpa using h0
    have htr := toList_B (Lib.trimS s digitsL)
    have hti := trim_digits s
    cases ha : s.all digit with
    | false =>
      have t1 : (Lib.trimS s digitsL).isEmpty = false := by
        rw [Bool.eq_false_iff]
        intro h
        rw [List.isEmpty_iff, hti, ha] at h
        cases h
      have hr := hide (show checkInt s = 2 by simp [checkInt, h0, ha])
      clear h0 hti ha
      go_enter Tryz.func85, Tryz.ntmps85
      go_wp2_with (first | (go_at_call 104; refine (Trim_digits s _ hs).mono ?_; rintro e w1 ⟨rfl, hg1⟩))
      go_ret
      rw [hr.out]
      exact ⟨rfl, hg1⟩
    | true =>
      have t1 : (Lib.trimS s digitsL).isEmpty = true := by
        rw [List.isEmpty_iff, hti]; exact ha
      have hi := int_digits s h0 ha
      have HE := hide hE
      clear hE
      by_cases hv : decVal s ≤ 9223372036854775807
      · rw [if_pos hv] at hi
        have hpc := hide (fun W => Tryz.strconv_ParseInt_10_at64_ok (B s) (by rw [size_B]; omega) (decVal s : Int) hi W)
        by_cases h5 : 4611686018427387903 < decVal s
        · have hr := hide (show checkInt s = 5 by simp [checkInt, h0, ha, h5])
          have t2 : decide ((4611686018427387903 : Int) < (decVal s : Int)) = true := by simp; omega
          clear h0 hti ha hi
          go_enter Tryz.func85, Tryz.ntmps85
          go_wp2_with (first | (go_at_call 104; refine (Trim_digits s _ hs).mono ?_; rintro e w1 ⟨rfl, hg1⟩) | (go_at_call 105; refine (hpc.out _).mono ?_; rintro e w2 ⟨rfl, hw2⟩))
          go_ret
          rw [hr.out]
          exact ⟨rfl, gb_trans hg1 (parse_gb hw2)⟩
        · have hr := hide (show checkInt s = 0 by simp [checkInt, h0, ha, h5])
          have t2 : decide ((4611686018427387903 : Int) < (decVal s : Int)) = false := by simp; omega
          clear h0 hti ha hi
          go_enter Tryz.func85, Tryz.ntmps85
          go_wp2_with (first | (go_at_call 104; refine (Trim_digits s _ hs).mono ?_; rintro e w1 ⟨rfl, hg1⟩) | (go_at_call 105; refine (hpc.out _).mono ?_; rintro e w2 ⟨rfl, hw2⟩))
          go_ret
          rw [hr.out]
          exact ⟨rfl, gb_trans hg1 (parse_gb hw2)⟩
      · rw [if_neg hv] at hi
        have hpc := hide (fun (W : World) (tp : TypeId) (p : Value) => Tryz.strconv_ParseInt_10_at64_range_var (B s) (by rw [size_B]; omega) hi tp p W)
        have hr := hide (show checkInt s = 5 by simp [checkInt, h0, ha]; omega)
        clear h0 hti ha hi
        go_enter Tryz.func85, Tryz.ntmps85
        go_wp2_with (first | (go_at_call 104; refine (Trim_digits s _ hs).mono ?_; rintro e w1 ⟨rfl, hg1⟩; obtain ⟨tp, p, hvar⟩ := (HE.out.grown hg1 hsz (by simp)).errRange) | (go_at_call 105; refine (hpc.out _ tp p hvar).mono ?_; rintro e w2 ⟨N, rfl, hN, hcell, hb2⟩))
        go_ret
        rw [hr.out]
        exact ⟨rfl, gb_trans hg1 (below_gb hb2 none)⟩
end
end Go.Proofs.YtgeonilideojnaaGreatDoor.Tk
end
section
namespace Go.Proofs.YtgeonilideojnaaGreatDoor.Tk
open Go Go.RowKit
set_option linter.unusedVariables false
set_option linter.unusedSimpArgs false
def fnR (v : Value) : Option (DataW Value × List MemPlace) := some (.held v, [])
def fnV (k : Nat) : Value := .func (.func k) #[] #[]
def fnF (k p : Nat) : Value := .func (.func k) #[] #[.pointer (some ⟨p, 0, none⟩)]
def kI (k : Int) : Lit := .int .i64 k
def checksD (p : Nat) : DataW Value := (((((((((DataW.map []).put (kI 0) (.held (fnF 79 p))).put (kI 7) (.held (fnF 80 p))).put (kI 1) (.held (fnV 81))).put (kI 2) (.held (fnV 82))).put (kI 3) (.held (fnV 85))).put (kI 4) (.held (fnF 86 p))).put (kI 5) (.held (fnF 88 p))).put (kI 6) (.held (fnF 89 p)))
theorem law_int : Maps.Keyed Tryz.prog 3 := Maps.int_keyed Tryz.underlying3
theorem wp_insert_own {H : Type} {P : Program} (w : World) {ops : Array Oper} {rest : List Oper} {o : Oper} {a : Act} {Q : Exit → Act → World → Prop}
    (m x v : Operand) (t : TypeId) (hop : o.op = Op.insert t m x v) (hg : o.guard = none)
    (k e : TypeId) (K : Maps.Keyed P k) (ht : P.underlying t = some (.map k e)) (R : Value → Option (DataW H × List MemPlace)) (b n : Nat) (D : DataW H)
    (hm : a.eval m = .map (some b)) (hown : w.ownsMap P k R b n D) (hn : n < maxLen) (key val : Value) (kl : Lit) (hx : a.eval x = key) (hv : a.eval v = val) (hkey : keyOf P k key = some kl)
    (d : DataW H) (ps : List MemPlace) (hval : R val = some (d, ps))
    (hK : ∀ w', w'.ownsMap P k R b (n + 1) (D.put kl d) → w.grownBy w' (some b) → wpList P ops Q rest (a.put o.dst undef) w') :
    wpList P ops Q (o :: rest) a w := by
  refine wpList_plain hg fun K' hK' => ?_
  obtain ⟨w', hrun, r1, r2⟩ := hown.update K ht hn hkey hval
  unfold Oper.wp
  simp [execOp, hop, hm, hx, hv, hrun, Result.andThen]
  exact hK' _ _ (hK w' r1 r2)
section
set_option maxHeartbeats 1000000
set_option maxRecDepth 100000
theorem checks_calls (w : World) (n : Nat) (hn : w.heap.size = n) : Calls Tryz.prog 35 #[] w fun e w' => e = .returned (.map (some (n + 1))) ∧ w'.ownsMap Tryz.prog 3 fnR (n + 1) 8 (checksD n) ∧ Blk w' n 84 #[fnV 78] ∧ w.grownBy w' none := by
  subst hn
  have hmm := @run_makeMap Tryz.prog
  have hown := World.ownsMap_made (w.alloc (.cells #[fnV 78] 84)) Tryz.prog 3 fnR
  have hb : Blk ((w.alloc (.cells #[fnV 78] 84)).alloc (.map #[] 0)) w.heap.size 84 #[fnV 78] := (Blk.new w _ _).alloc _
  have hg : w.grownBy ((w.alloc (.cells #[fnV 78] 84)).alloc (.map #[] 0)) none := gb_alloc (gb_alloc (gb_refl _ _) _) _
  rw [show (w.alloc (.cells #[fnV 78] 84)).heap.size = w.heap.size + 1 from Array.size_push ..] at hown
  go_enter Tryz.func35, Tryz.ntmps35
  go_wp2_with (refine wp_insert_own _ _ _ _ _ rfl rfl 3 64 law_int (by kernel_rfl) fnR _ _ _ rfl hown (by decide) _ _ _ rfl rfl (Maps.keyOf_int_mk Tryz.underlying3 (by decide)) _ [] rfl ?_; clear hown; intro w1 hown hg1; replace hg := gb_new hg hg1 (by omega); replace hb := hb.grown hg1 (by simp); clear hg1)
  go_ret
  exact ⟨rfl, hown, hb, hg⟩
end
end Go.Proofs.YtgeonilideojnaaGreatDoor.Tk
end
section
namespace Go.Proofs.YtgeonilideojnaaGreatDoor.Tk
open Go Go.RowKit
set_option linter.unusedVariables false
set_option linter.unusedSimpArgs false
section
set_option maxHeartbeats 1000000
set_option maxRecDepth 100000
theorem form_calls (b : Bool) (w : World) : Calls Tryz.prog 78 #[.bool b] w fun e w' => e = .returned (.int .i64 (form b : Int)) ∧ w = w' := by
  cases b <;>
  · go_enter Tryz.func78, Tryz.ntmps78
    go_wp2
    go_ret
    exact ⟨rfl, rfl⟩
theorem checkEnd_calls (s : Bs) (p : Nat) (w : World) (hb : w.cell? ⟨p, 0, none⟩ = some (fnV 78)) : Calls Tryz.prog 79 #[.string (B s), .pointer (some ⟨p, 0, none⟩)] w fun e w' => e = .returned (.int .i64 (form (s == []) : Int)) ∧ w.grownBy w' none := by
  have ht := toList_B s
  unfold fnV at hb
  cases h : s == [] with
  | true =>
    have t0 : s.isEmpty = true := by simpa using h
    have hc := hide (fun W => form_calls true W)
    clear h
    go_enter Tryz.func79, Tryz.ntmps79
    go_wp2_with (first | (go_at_call 78; refine (hc.out _).mono ?_; rintro e w1 ⟨rfl, rfl⟩))
    go_ret
    exact ⟨rfl, gb_refl _ _⟩
  | false =>
    have t0 : s.isEmpty = false := by simpa using h
    have hc := hide (fun W => form_calls false W)
    clear h
    go_enter Tryz.func79, Tryz.ntmps79
    go_wp2_with (first | (go_at_call 78; refine (hc.out _).mono ?_; rintro e w1 ⟨rfl, rfl⟩))
    go_ret
    exact ⟨rfl, gb_refl _ _⟩
theorem checkStop_calls (s : Bs) (p : Nat) (w : World) (hb : w.cell? ⟨p, 0, none⟩ = some (fnV 78)) : Calls Tryz.prog 80 #[.string (B s), .pointer (some ⟨p, 0, none⟩)] w fun e w' => e = .returned (.int .i64 (form (s == [46]) : Int)) ∧ w.grownBy w' none := by
  have ht := toList_B s
  unfold fnV at hb
  cases h : s == [46] with
  | true =>
    have hc := hide (fun W => form_calls true W)
    go_enter Tryz.func80, Tryz.ntmps80
    go_wp2_with (first | (go_at_call 78; refine (hc.out _).mono ?_; rintro e w1 ⟨rfl, rfl⟩))
    go_ret
    exact ⟨rfl, gb_refl _ _⟩
  | false =>
    have hc := hide (fun W => form_calls false W)
    go_enter Tryz.func80, Tryz.ntmps80
    go_wp2_with (first | (go_at_call 78; refine (hc.out _).mono ?_; rintro e w1 ⟨rfl, rfl⟩))
    go_ret
    exact ⟨rfl, gb_refl _ _⟩
theorem checkVar_calls (s : Bs) (w : World) (hs : s.length ≤ 65536) : Calls Tryz.prog 82 #[.string (B s)] w fun e w' => e = .returned (.int .i64 ((if word capital s then limitS s.length else 2 : Nat) : Int)) ∧ w.grownBy w' none := by
  have hz := size_B s
  have hw0 := fun W => word_capital s W
  cases h : word capital s with
  | true =>
    have hw := hide (h ▸ hw0)
    have hl := hide (fun W => limit_calls s.length W)
    clear h hw0
    go_enter Tryz.func82, Tryz.ntmps82
    go_wp2_with (first | (go_at_call 83; refine (hw.out _).mono ?_; rintro e w1 ⟨rfl, hg1⟩) | (go_at_call 84; refine (hl.out _).mono ?_; rintro e w1 ⟨rfl, rfl⟩))
    go_ret
    exact ⟨rfl, hg1⟩
  | false =>
    have hw := hide (h ▸ hw0)
    clear h hw0
    go_enter Tryz.func82, Tryz.ntmps82
    go_wp2_with (first | (go_at_call 83; refine (hw.out _).mono ?_; rintro e w1 ⟨rfl, hg1⟩))
    go_ret
    exact ⟨rfl, hg1⟩
end
end Go.Proofs.YtgeonilideojnaaGreatDoor.Tk
end
section
namespace Go.Proofs.YtgeonilideojnaaGreatDoor.Tk
open Go Go.RowKit
set_option linter.unusedVariables false
set_option linter.unusedSimpArgs false
section
variable {P : Program} {ops : Array Oper} {C : World → Prop} {Q : Act → Prop} {a : Act} {o : Oper} {rest : List Oper}
theorem quiet_val (v : Value) (hgd : o.guard = none) (h : ∀ w1, C w1 → o.quietAt P a C w1 v) (hn : wpQuiet P ops C Q rest (a.put o.dst v)) : wpQuiet P ops C Q (o :: rest) a := by
  unfold wpQuiet
  rw [if_pos (by simp [Region.wanted, hgd])]
  exact ⟨v, h, hn⟩
theorem quiet_region {id : Nat} {Q : Exit → Act → World → Prop} {a : Act} {w : World} {l : List Oper} (C : World → Prop) (hC : C w.drew) (hm : P.follows .mixedOrders = true) (hB : Region.lexB .any l.toArray = true)
    (h : wpQuiet P l.toArray C (fun a' => ∀ w', C w' → Q .normal a' w') l a) : (Code.region id l.toArray true).wp P Q a w :=
  wp_region_quiet (C := C) hm hB hC (by simpa using h)
end
section
set_option maxHeartbeats 1000000
set_option maxRecDepth 100000
theorem checkText_calls (s : Bs) (p : Nat) (w : World) (hs : s.length ≤ 65536) (hb : w.cell? ⟨p, 0, none⟩ = some (fnV 78)) : Calls Tryz.prog 88 #[.string (B s), .pointer (some ⟨p, 0, none⟩)] w fun e w' => e = .returned (.int .i64 (form (printable s true) : Int)) ∧ w.grownBy w' none := by
  have hc0 := hide (fun W => form_calls (printable s true) W)
  have hp0 := hide (fun W => printable_calls s true W hs)
  have hcell := hide (fun (w1 : World) (h : w.grownBy w1 none) => h.cell hb (by simp))
  generalize printable s true = x at hc0 hp0 ⊢
  go_enter Tryz.func88, Tryz.ntmps88
  go_wp2_with fail
  refine quiet_region (fun w1 => w.grownBy w1 none) (gb_drew (gb_refl _ _)) (by kernel_rfl) (by kernel_rfl) ?_
  refine quiet_val (fnV 78) rfl (fun w1 h1 => ?_) ?_
  · have hc1 := hcell.out w1 h1
    unfold fnV at hc1 ⊢
    unfold Oper.quietAt
    go_simp
  · unfold fnV
    repeat (refine wpQuiet_step (fun K hK => ?_); go_simp; first | (refine hK _ ?_; clear hK K) | (refine ⟨_, fun _ _ => rfl, hK _ ?_⟩; clear hK K) | (apply Exists.intro; refine ⟨fun w1 h1 => ?_, hK _ ?_⟩; (first | (go_at_call 87; refine (hp0.out w1).mono ?_; rintro e w2 ⟨rfl, hg2⟩; exact ⟨rfl, gb_trans h1 hg2⟩) | (go_at_call 78; refine (hc0.out w1).mono ?_; rintro e w2 ⟨rfl, rfl⟩; exact ⟨rfl, h1⟩)); clear hK K))
    refine wpQuiet_nil ?_
    intro w1 h1
    go_wp2
    go_ret
    exact ⟨rfl, h1⟩
theorem checkChar_calls (s : Bs) (p : Nat) (w : World) (hs : s.length ≤ 65536) (hb : w.cell? ⟨p, 0, none⟩ = some (fnV 78)) : Calls Tryz.prog 86 #[.string (B s), .pointer (some ⟨p, 0, none⟩)] w fun e w' => e = .returned (.int .i64 (form (s.length == 1 && printable s true) : Int)) ∧ w.grownBy w' none := by
  have hz := size_B s
  have hcell := hide (fun (w1 : World) (h : w.grownBy w1 none) => h.cell hb (by simp))
  by_cases h1 : s.length = 1
  · have t1 : ((s.length : Int) == 1) = true := by simp [h1]
    have hr : (s.length == 1 && printable s true) = printable s true := by simp [h1]
    rw [hr]
    have hc0 := hide (fun W => form_calls (printable s true) W)
    have hp0 := hide (fun W => printable_calls s true W hs)
    generalize printable s true = x at hc0 hp0 ⊢
    clear h1 hr
    go_enter Tryz.func86, Tryz.ntmps86
    go_wp2_with fail
    refine quiet_region (fun w1 => w.grownBy w1 none) (gb_drew (gb_refl _ _)) (by kernel_rfl) (by kernel_rfl) ?_
    refine quiet_val (fnV 78) rfl (fun w1 h1 => ?_) ?_
    · have hc1 := hcell.out w1 h1
      unfold fnV at hc1 ⊢
      unfold Oper.quietAt
      go_simp
    · unfold fnV
      repeat (refine wpQuiet_step (fun K hK => ?_); go_simp; first | (refine hK _ ?_; clear hK K) | (refine ⟨_, fun _ _ => rfl, hK _ ?_⟩; clear hK K) | (apply Exists.intro; refine ⟨fun w1 h1 => ?_, hK _ ?_⟩; (first | (go_at_call 87; refine (hp0.out w1).mono ?_; rintro e w2 ⟨rfl, hg2⟩; exact ⟨rfl, gb_trans h1 hg2⟩) | (go_at_call 78; refine (hc0.out w1).mono ?_; rintro e w2 ⟨rfl, rfl⟩; exact ⟨rfl, h1⟩)); clear hK K))
      refine wpQuiet_nil ?_
      intro w1 h1
      go_wp2
      go_ret
      exact ⟨rfl, h1⟩
  · have t1 : ((s.length : Int) == 1) = false := by
      rw [beq_eq_false_iff_ne]
      omega
    have hr : (s.length == 1 && printable s true) = false := by simp [h1]
    rw [hr]
    have hc0 := hide (fun W => form_calls false W)
    clear h1 hr
    go_enter Tryz.func86, Tryz.ntmps86
    go_wp2_with fail
    refine quiet_region (fun w1 => w.grownBy w1 none) (gb_drew (gb_refl _ _)) (by kernel_rfl) (by kernel_rfl) ?_
    refine quiet_val (fnV 78) rfl (fun w1 h1 => ?_) ?_
    · have hc1 := hcell.out w1 h1
      unfold fnV at hc1 ⊢
      unfold Oper.quietAt
      go_simp
    · unfold fnV
      repeat (refine wpQuiet_step (fun K hK => ?_); go_simp; first | (refine hK _ ?_; clear hK K) | (refine ⟨_, fun _ _ => rfl, hK _ ?_⟩; clear hK K) | (apply Exists.intro; refine ⟨fun w1 h1 => ?_, hK _ ?_⟩; (go_at_call 78; refine (hc0.out w1).mono ?_; rintro e w2 ⟨rfl, rfl⟩; exact ⟨rfl, h1⟩); clear hK K))
      refine wpQuiet_nil ?_
      intro w1 h1
      go_wp2
      go_ret
      exact ⟨rfl, h1⟩
end
end Go.Proofs.YtgeonilideojnaaGreatDoor.Tk
end
section
namespace Go.Proofs.YtgeonilideojnaaGreatDoor.Tk
open Go Go.RowKit
set_option linter.unusedVariables false
set_option linter.unusedSimpArgs false
section
set_option maxHeartbeats 1000000
set_option maxRecDepth 100000
def punctVals : Array Value := #[.string ⟨#[40]⟩, .string ⟨#[41]⟩, .string ⟨#[91]⟩, .string ⟨#[93]⟩, .string ⟨#[123]⟩, .string ⟨#[125]⟩, .string ⟨#[44]⟩, .string ⟨#[124]⟩, .string ⟨#[40, 40]⟩]
theorem puncts_contains (s : Bs) : Lib.containsS ((puncts.map B).take 9) (B s) = puncts.contains s := by
  rw [Bool.eq_iff_iff, Lib.containsS_iff, List.take_of_length_le (by decide), List.contains_iff_mem, List.mem_map]
  exact ⟨fun ⟨x, hx, e⟩ => B_inj e ▸ hx, fun h => ⟨s, h, rfl⟩⟩
theorem SContains_puncts (s : Bs) (g c : Nat) (W : World) (h : Blk W g 9 punctVals) : Calls Tryz.prog 90 #[.slice (some ⟨g, 0, none⟩) 9 c, .string (B s)] W fun e w' => e = .returned (.bool (puncts.contains s)) ∧ w' = W := by
  rw [← puncts_contains]
  refine Tryz.slices_Contains_string g 0 9 c (puncts.map B) (B s) W (by decide) (by decide) ?_
  intro j hj
  rw [Nat.zero_add, h.cell]
  have hj : j < 9 := hj
  match j, hj with
  | 0, _ => rfl
  | 1, _ => rfl
  | 2, _ => rfl
  | 3, _ => rfl
  | 4, _ => rfl
  | 5, _ => rfl
  | 6, _ => rfl
  | 7, _ => rfl
  | 8, _ => rfl
theorem checkPunct_calls (s : Bs) (p : Nat) (w : World) (hb : w.cell? ⟨p, 0, none⟩ = some (fnV 78)) : Calls Tryz.prog 89 #[.string (B s), .pointer (some ⟨p, 0, none⟩)] w fun e w' => e = .returned (.int .i64 (form (puncts.contains s) : Int)) ∧ w.grownBy w' none := by
  have hc0 := hide (fun W => form_calls (puncts.contains s) W)
  have hp0 := hide (fun g c W => SContains_puncts s g c W)
  generalize puncts.contains s = x at hc0 hp0 ⊢
  have hne := World.new_ne w ⟨p, 0, none⟩ hb
  unfold fnV at hb
  go_enter Tryz.func89, Tryz.ntmps89
  go_wp2_with fail
  go_region_held3 (fun w' => w'.cell? ⟨p, 0, none⟩ = some (.func (.func 78) #[] #[])) (go_keep) (first | (go_at_call 90; refine (hp0.out _ _ _ ?_).mono ?_; (exact Blk.new _ _ _); rintro e w1 ⟨rfl, rfl⟩) | (go_at_call 78; refine (hc0.out _).mono ?_; rintro e w1 ⟨rfl, rfl⟩))
  all_goals go_wp2
  all_goals go_ret
  all_goals exact ⟨rfl, gb_drew (gb_alloc (gb_refl _ _) _)⟩
theorem look_some {w : World} {m p : Nat} {k : Int} (h : w.ownsMap Tryz.prog 3 fnR m 8 (checksD p)) (hk : (Lit.int .i64 k).wf = true) :
    ∃ v ok, (Instr.lookup 66 (.map (some m)) (.int .i64 k) true).run Tryz.prog w = .ok (.tuple #[v, .bool ok]) w ∧ Hid (∀ v', (checksD p).atKey (kI k) (.held .nilFunc) = .held v' → v = v') ∧ Hid (Maps.has (checksD p) (kI k) = ok) := by
  obtain ⟨v1, ps, hrun, hR⟩ := h.look_ok law_int (e := 64) (t := 66) (by kernel_rfl) (z := .nilFunc) (by kernel_rfl) (zd := .held .nilFunc) (zp := []) rfl (Maps.keyOf_int_mk Tryz.underlying3 hk)
  unfold fnR at hR
  injection hR with hR
  have e1 := (Prod.mk.inj hR).1
  refine ⟨_, _, hrun, fun v' hv => ?_, rfl⟩
  unfold kI at hv
  rw [hv] at e1
  injection e1
theorem kI_ne {a b : Int} (h : a ≠ b) : kI a ≠ kI b := by
  unfold kI
  intro e
  injection e with _ e
  exact h e
theorem isKey_kI (k : Int) : WideAt.IsKeyLit (kI k) := by
  trivial
theorem at_0 (p : Nat) : (checksD p).atKey (kI 0) (.held .nilFunc) = .held (fnF 79 p) := by
  unfold checksD
  rw [Maps.atKey_put_other (kI_ne (by decide)), Maps.atKey_put_other (kI_ne (by decide)), Maps.atKey_put_other (kI_ne (by decide)), Maps.atKey_put_other (kI_ne (by decide)), Maps.atKey_put_other (kI_ne (by decide)), Maps.atKey_put_other (kI_ne (by decide)), Maps.atKey_put_other (kI_ne (by decide)), Maps.atKey_put_same]
  · exact Maps.isMap_empty
  · exact isKey_kI _
theorem has_0 (p : Nat) : Maps.has (checksD p) (kI 0) = true := by
  unfold checksD
  rw [Maps.has_put_other (kI_ne (by decide)), Maps.has_put_other (kI_ne (by decide)), Maps.has_put_other (kI_ne (by decide)), Maps.has_put_other (kI_ne (by decide)), Maps.has_put_other (kI_ne (by decide)), Maps.has_put_other (kI_ne (by decide)), Maps.has_put_other (kI_ne (by decide)), Maps.has_put_same]
  · exact Maps.isMap_empty
  · exact isKey_kI _
theorem at_7 (p : Nat) : (checksD p).atKey (kI 7) (.held .nilFunc) = .held (fnF 80 p) := by
  unfold checksD
  rw [Maps.atKey_put_other (kI_ne (by decide)), Maps.atKey_put_other (kI_ne (by decide)), Maps.atKey_put_other (kI_ne (by decide)), Maps.atKey_put_other (kI_ne (by decide)), Maps.atKey_put_other (kI_ne (by decide)), Maps.atKey_put_other (kI_ne (by decide)), Maps.atKey_put_same]
  · exact (Maps.isMap_empty.put _ _)
  · exact isKey_kI _
theorem has_7 (p : Nat) : Maps.has (checksD p) (kI 7) = true := by
  unfold checksD
  rw [Maps.has_put_other (kI_ne (by decide)), Maps.has_put_other (kI_ne (by decide)), Maps.has_put_other (kI_ne (by decide)), Maps.has_put_other (kI_ne (by decide)), Maps.has_put_other (kI_ne (by decide)), Maps.has_put_other (kI_ne (by decide)), Maps.has_put_same]
  · exact (Maps.isMap_empty.put _ _)
  · exact isKey_kI _
theorem at_1 (p : Nat) : (checksD p).atKey (kI 1) (.held .nilFunc) = .held (fnV 81) := by
  unfold checksD
  rw [Maps.atKey_put_other (kI_ne (by decide)), Maps.atKey_put_other (kI_ne (by decide)), Maps.atKey_put_other (kI_ne (by decide)), Maps.atKey_put_other (kI_ne (by decide)), Maps.atKey_put_other (kI_ne (by decide)), Maps.atKey_put_same]
  · exact ((Maps.isMap_empty.put _ _).put _ _)
  · exact isKey_kI _
theorem has_1 (p : Nat) : Maps.has (checksD p) (kI 1) = true := by
  unfold checksD
  rw [Maps.has_put_other (kI_ne (by decide)), Maps.has_put_other (kI_ne (by decide)), Maps.has_put_other (kI_ne (by decide)), Maps.has_put_other (kI_ne (by decide)), Maps.has_put_other (kI_ne (by decide)), Maps.has_put_same]
  · exact ((Maps.isMap_empty.put _ _).put _ _)
  · exact isKey_kI _
theorem at_2 (p : Nat) : (checksD p).atKey (kI 2) (.held .nilFunc) = .held (fnV 82) := by
  unfold checksD
  rw [Maps.atKey_put_other (kI_ne (by decide)), Maps.atKey_put_other (kI_ne (by decide)), Maps.atKey_put_other (kI_ne (by decide)), Maps.atKey_put_other (kI_ne (by decide)), Maps.atKey_put_same]
  · exact (((Maps.isMap_empty.put _ _).put _ _).put _ _)
  · exact isKey_kI _
theorem has_2 (p : Nat) : Maps.has (checksD p) (kI 2) = true := by
  unfold checksD
  rw [Maps.has_put_other (kI_ne (by decide)), Maps.has_put_other (kI_ne (by decide)), Maps.has_put_other (kI_ne (by decide)), Maps.has_put_other (kI_ne (by decide)), Maps.has_put_same]
  · exact (((Maps.isMap_empty.put _ _).put _ _).put _ _)
  · exact isKey_kI _
theorem at_3 (p : Nat) : (checksD p).atKey (kI 3) (.held .nilFunc) = .held (fnV 85) := by
  unfold checksD
  rw [Maps.atKey_put_other (kI_ne (by decide)), Maps.atKey_put_other (kI_ne (by decide)), Maps.atKey_put_other (kI_ne (by decide)), Maps.atKey_put_same]
  · exact ((((Maps.isMap_empty.put _ _).put _ _).put _ _).put _ _)
  · exact isKey_kI _
theorem has_3 (p : Nat) : Maps.has (checksD p) (kI 3) = true := by
  unfold checksD
  rw [Maps.has_put_other (kI_ne (by decide)), Maps.has_put_other (kI_ne (by decide)), Maps.has_put_other (kI_ne (by decide)), Maps.has_put_same]
  · exact ((((Maps.isMap_empty.put _ _).put _ _).put _ _).put _ _)
  · exact isKey_kI _
theorem at_4 (p : Nat) : (checksD p).atKey (kI 4) (.held .nilFunc) = .held (fnF 86 p) := by
  unfold checksD
  rw [Maps.atKey_put_other (kI_ne (by decide)), Maps.atKey_put_other (kI_ne (by decide)), Maps.atKey_put_same]
  · exact (((((Maps.isMap_empty.put _ _).put _ _).put _ _).put _ _).put _ _)
  · exact isKey_kI _
theorem has_4 (p : Nat) : Maps.has (checksD p) (kI 4) = true := by
  unfold checksD
  rw [Maps.has_put_other (kI_ne (by decide)), Maps.has_put_other (kI_ne (by decide)), Maps.has_put_same]
  · exact (((((Maps.isMap_empty.put _ _).put _ _).put _ _).put _ _).put _ _)
  · exact isKey_kI _
theorem at_5 (p : Nat) : (checksD p).atKey (kI 5) (.held .nilFunc) = .held (fnF 88 p) := by
  unfold checksD
  rw [Maps.atKey_put_other (kI_ne (by decide)), Maps.atKey_put_same]
  · exact ((((((Maps.isMap_empty.put _ _).put _ _).put _ _).put _ _).put _ _).put _ _)
  · exact isKey_kI _
theorem has_5 (p : Nat) : Maps.has (checksD p) (kI 5) = true := by
  unfold checksD
  rw [Maps.has_put_other (kI_ne (by decide)), Maps.has_put_same]
  · exact ((((((Maps.isMap_empty.put _ _).put _ _).put _ _).put _ _).put _ _).put _ _)
  · exact isKey_kI _
theorem at_6 (p : Nat) : (checksD p).atKey (kI 6) (.held .nilFunc) = .held (fnF 89 p) := by
  unfold checksD
  rw [Maps.atKey_put_same]
  · exact (((((((Maps.isMap_empty.put _ _).put _ _).put _ _).put _ _).put _ _).put _ _).put _ _)
  · exact isKey_kI _
theorem has_6 (p : Nat) : Maps.has (checksD p) (kI 6) = true := by
  unfold checksD
  rw [Maps.has_put_same]
  · exact (((((((Maps.isMap_empty.put _ _).put _ _).put _ _).put _ _).put _ _).put _ _).put _ _)
  · exact isKey_kI _
theorem has_no (p : Nat) (k : Int) (h : ¬ (0 ≤ k ∧ k ≤ 7)) : Maps.has (checksD p) (kI k) = false := by
  unfold checksD
  rw [Maps.has_put_other (kI_ne (by omega)), Maps.has_put_other (kI_ne (by omega)), Maps.has_put_other (kI_ne (by omega)), Maps.has_put_other (kI_ne (by omega)), Maps.has_put_other (kI_ne (by omega)), Maps.has_put_other (kI_ne (by omega)), Maps.has_put_other (kI_ne (by omega)), Maps.has_put_other (kI_ne (by omega))]
  rfl
theorem checkS_0 (s : Bs) : checkS 0 s = (form (s == [])) := by rfl
theorem checkS_1 (s : Bs) : checkS 1 s = (checkName s) := by rfl
theorem checkS_2 (s : Bs) : checkS 2 s = (if word capital s then limitS s.length else 2) := by rfl
theorem checkS_3 (s : Bs) : checkS 3 s = (checkInt s) := by rfl
theorem checkS_4 (s : Bs) : checkS 4 s = (form (s.length == 1 && printable s true)) := by rfl
theorem checkS_5 (s : Bs) : checkS 5 s = (form (printable s true)) := by rfl
theorem checkS_6 (s : Bs) : checkS 6 s = (form (puncts.contains s)) := by rfl
theorem checkS_7 (s : Bs) : checkS 7 s = (form (s == [46])) := by rfl
theorem checkS_no (s : Bs) (k : Int) (h : ¬ (0 ≤ k ∧ k ≤ 7)) : checkS k s = 3 := by
  unfold checkS
  rw [if_neg (by omega), if_neg (by omega), if_neg (by omega), if_neg (by omega), if_neg (by omega), if_neg (by omega), if_neg (by omega), if_neg (by omega)]
theorem Check_calls (k : Int) (s : Bs) (i : Int) (w : World) (hk : (Lit.int .i64 k).wf = true) (hs : s.length ≤ 65536) (hE : Env w) (hsz : 8 ≤ w.heap.size) : Calls Tryz.prog 16 #[.agg #[.int .i64 k, .string (B s), .int .i64 i]] w fun e w' => e = .returned (.int .i64 (checkS k s : Int)) ∧ w.grownBy w' none := by
  have HE := hide hE
  obtain ⟨r, hr0⟩ : ∃ r, r = checkS k s := ⟨_, rfl⟩
  rw [← hr0]
  have hr := hide hr0
  clear hE hr0
  go_enter Tryz.func16, Tryz.ntmps16
  go_wp2_with fail
  go_region_held3 (fun w' => w'.cell? ⟨w.heap.size, 0, none⟩ = some (.int .i64 k) ∧ w'.cell? ⟨w.heap.size, 1, none⟩ = some (.string (B s))) (first | go_keep | (exact ⟨World.grownBy.cell (by assumption) (And.left (by assumption)) (by simp), World.grownBy.cell (by assumption) (And.right (by assumption)) (by simp)⟩)) (first | (go_at_call 35; refine (checks_calls _ (w.heap.size + 1) (Array.size_push ..)).mono ?_; rintro e w1 ⟨rfl, hown, hblk, hg1⟩; obtain ⟨v, ok, hlk, hv, ho⟩ := look_some hown hk))
  obtain ⟨hc0, hc1⟩ : w1.cell? ⟨w.heap.size, 0, none⟩ = some (.int .i64 k) ∧ w1.cell? ⟨w.heap.size, 1, none⟩ = some (.string (B s)) := by assumption
  have hnone := gb_trans (gb_drew (gb_alloc (gb_refl w none) _)) hg1
  by_cases hno : 0 ≤ k ∧ k ≤ 7
  · have hcs : k = 0 ∨ k = 1 ∨ k = 2 ∨ k = 3 ∨ k = 4 ∨ k = 5 ∨ k = 6 ∨ k = 7 := by omega
    clear hno hown
    rcases hcs with rfl | rfl | rfl | rfl | rfl | rfl | rfl | rfl
    · obtain rfl := hv.out _ (at_0 _)
      obtain rfl := ho.out.symm.trans (has_0 _)
      have hc := checkEnd_calls s (w.heap.size + 1) w1 (by exact hblk.cell 0)
      rw [← checkS_0 s, ← hr.out] at hc
      replace hc := hide hc
      unfold fnF
      clear hlk
      go_wp2_with (first | (go_at_call 79; refine hc.out.mono ?_; rintro e w2 ⟨rfl, hg2⟩))
      go_ret
      exact ⟨rfl, gb_trans hnone hg2⟩
    · obtain rfl := hv.out _ (at_1 _)
      obtain rfl := ho.out.symm.trans (has_1 _)
      have hc := checkName_calls s w1 hs (by exact HE.out.grown hnone hsz (by simp)) (by exact Nat.le_trans hsz hnone.size)
      rw [← checkS_1 s, ← hr.out] at hc
      replace hc := hide hc
      unfold fnV
      clear hlk
      go_wp2_with (first | (go_at_call 81; refine hc.out.mono ?_; rintro e w2 ⟨rfl, hg2⟩))
      go_ret
      exact ⟨rfl, gb_trans hnone hg2⟩
    · obtain rfl := hv.out _ (at_2 _)
      obtain rfl := ho.out.symm.trans (has_2 _)
      have hc := checkVar_calls s w1 hs
      rw [← checkS_2 s, ← hr.out] at hc
      replace hc := hide hc
      unfold fnV
      clear hlk
      go_wp2_with (first | (go_at_call 82; refine hc.out.mono ?_; rintro e w2 ⟨rfl, hg2⟩))
      go_ret
      exact ⟨rfl, gb_trans hnone hg2⟩
    · obtain rfl := hv.out _ (at_3 _)
      obtain rfl := ho.out.symm.trans (has_3 _)
      have hc := checkInt_calls s w1 hs (by exact HE.out.grown hnone hsz (by simp)) (by exact Nat.le_trans hsz hnone.size)
      rw [← checkS_3 s, ← hr.out] at hc
      replace hc := hide hc
      unfold fnV
      clear hlk
      go_wp2_with (first | (go_at_call 85; refine hc.out.mono ?_; rintro e w2 ⟨rfl, hg2⟩))
      go_ret
      exact ⟨rfl, gb_trans hnone hg2⟩
    · obtain rfl := hv.out _ (at_4 _)
      obtain rfl := ho.out.symm.trans (has_4 _)
      have hc := checkChar_calls s (w.heap.size + 1) w1 hs (by exact hblk.cell 0)
      rw [← checkS_4 s, ← hr.out] at hc
      replace hc := hide hc
      unfold fnF
      clear hlk
      go_wp2_with (first | (go_at_call 86; refine hc.out.mono ?_; rintro e w2 ⟨rfl, hg2⟩))
      go_ret
      exact ⟨rfl, gb_trans hnone hg2⟩
    · obtain rfl := hv.out _ (at_5 _)
      obtain rfl := ho.out.symm.trans (has_5 _)
      have hc := checkText_calls s (w.heap.size + 1) w1 hs (by exact hblk.cell 0)
      rw [← checkS_5 s, ← hr.out] at hc
      replace hc := hide hc
      unfold fnF
      clear hlk
      go_wp2_with (first | (go_at_call 88; refine hc.out.mono ?_; rintro e w2 ⟨rfl, hg2⟩))
      go_ret
      exact ⟨rfl, gb_trans hnone hg2⟩
    · obtain rfl := hv.out _ (at_6 _)
      obtain rfl := ho.out.symm.trans (has_6 _)
      have hc := checkPunct_calls s (w.heap.size + 1) w1 (by exact hblk.cell 0)
      rw [← checkS_6 s, ← hr.out] at hc
      replace hc := hide hc
      unfold fnF
      clear hlk
      go_wp2_with (first | (go_at_call 89; refine hc.out.mono ?_; rintro e w2 ⟨rfl, hg2⟩))
      go_ret
      exact ⟨rfl, gb_trans hnone hg2⟩
    · obtain rfl := hv.out _ (at_7 _)
      obtain rfl := ho.out.symm.trans (has_7 _)
      have hc := checkStop_calls s (w.heap.size + 1) w1 (by exact hblk.cell 0)
      rw [← checkS_7 s, ← hr.out] at hc
      replace hc := hide hc
      unfold fnF
      clear hlk
      go_wp2_with (first | (go_at_call 80; refine hc.out.mono ?_; rintro e w2 ⟨rfl, hg2⟩))
      go_ret
      exact ⟨rfl, gb_trans hnone hg2⟩
  · obtain rfl := ho.out.symm.trans (has_no _ _ hno)
    obtain rfl := hr.out.trans (checkS_no s k hno)
    clear hlk hown
    go_wp2
    go_ret
    exact ⟨rfl, hnone⟩
end
end Go.Proofs.YtgeonilideojnaaGreatDoor.Tk
end
section
namespace Go.Proofs.YtgeonilideojnaaGreatDoor.Tk
open Go Go.RowKit
set_option linter.unusedVariables false
set_option linter.unusedSimpArgs false
section
set_option maxHeartbeats 1000000
theorem named_calls (b : Nat) (l : Bs) (i : Nat) (c : UInt8) (t : Bs) (w : World) (hs : l.length ≤ 65536) (hd : l.drop i = c :: t) (hS : Sc w b l i) :
    Calls Tryz.prog 61 #[.pointer (some ⟨b, 0, none⟩), .int .u8 (c.toNat : Int)] w (ScPost w b l (fun r : Bs => .string (B r)) (.ok (cut l i (namedEnd l i c)) (namedEnd l i c))) := by
  have h0 := hS.c0
  have h1 := hS.c1
  have h2 := hS.f1
  have hz := size_B l
  obtain ⟨hl, -, -⟩ := drop_at hd
  have HS := hide hS
  clear hS hd
  by_cases e1 : c = 33
  · have t1 : ((c.toNat : Int) == 33) = true := is_yes rfl e1
    have t2 : ((c.toNat : Int) != 59) = true := isnt_yes (d := 59) rfl (by simp [e1])
    have t3 : ((c.toNat : Int) != 33) = false := isnt_no rfl e1
    by_cases e2 : pk l (i + 1) = 46
    · have t4 : (((pk l (i + 1)).toNat : Int) == 46) = true := is_yes rfl e2
      cases e3 : capital (pk l (i + 2)) with
      | true =>
        have He := hide (show namedEnd l i c = i + 2 by simp [namedEnd, e1, e2, e3])
        have hl2 : i + 2 < l.length := pk_lt (p := capital) rfl e3
        clear e1 e2
        go_enter Tryz.func61, Tryz.ntmps61
        go_wp2_with (first | (go_at_call 52; refine (peek_any b l (i + 1) _ _ hs (by omega) (by omega) (by omega) (by first | exact HS.out.set (i + 1) | exact (HS.out.set (i + 1)).drewN _)).mono ?_; rintro e w' ⟨rfl, nd, rfl⟩) | (go_at_call 53; refine (capital_calls _ _).mono ?_; rintro e w' ⟨rfl, rfl⟩) | (go_at_call 50; refine (run_sign b l (i + 1) _ hs (by omega) (by first | exact HS.out.set (i + 1) | exact (HS.out.set (i + 1)).drewN _)).mono ?_; rintro e w1 ⟨rfl, hS1, hg1⟩))
        go_quiet (fail)
        go_wp2
        go_ret
        rw [He.out]
        exact ⟨ret_str (extract_B _ _ _), (((HS.out.set (i + 1)).drewN _).set (i + 2)).drewN _, gb_drewN (gb_set (gb_drewN (gb_set (gb_refl _ _) (.inl rfl) _) _) (.inl rfl) _) _⟩
      | false =>
        have He := hide (show namedEnd l i c = i + 1 by simp [namedEnd, e1, e2, e3])
        clear e1 e2
        go_enter Tryz.func61, Tryz.ntmps61
        go_wp2_with (first | (go_at_call 52; refine (peek_any b l (i + 1) _ _ hs (by omega) (by omega) (by omega) (by first | exact HS.out.set (i + 1) | exact (HS.out.set (i + 1)).drewN _)).mono ?_; rintro e w' ⟨rfl, nd, rfl⟩) | (go_at_call 53; refine (capital_calls _ _).mono ?_; rintro e w' ⟨rfl, rfl⟩) | (go_at_call 50; refine (run_sign b l (i + 1) _ hs (by omega) (by first | exact HS.out.set (i + 1) | exact (HS.out.set (i + 1)).drewN _)).mono ?_; rintro e w1 ⟨rfl, hS1, hg1⟩))
        go_quiet (fail)
        go_wp2
        go_ret
        rw [He.out]
        exact ⟨ret_str (extract_B _ _ _), ((HS.out.set (i + 1)).drewN _).drewN _, gb_drewN (gb_drewN (gb_set (gb_refl _ _) (.inl rfl) _) _) _⟩
    · have t4 : (((pk l (i + 1)).toNat : Int) == 46) = false := is_no rfl e2
      by_cases e4 : pk l (i + 1) = 58
      · have t5 : (((pk l (i + 1)).toNat : Int) == 58) = true := is_yes rfl e4
        cases e3 : capital (pk l (i + 2)) with
        | true =>
          have He := hide (show namedEnd l i c = i + 2 by simp [namedEnd, e1, e4, e3])
          have hl2 : i + 2 < l.length := pk_lt (p := capital) rfl e3
          clear e1 e2 e4
          go_enter Tryz.func61, Tryz.ntmps61
          go_wp2_with (first | (go_at_call 52; refine (peek_any b l (i + 1) _ _ hs (by omega) (by omega) (by omega) (by first | exact HS.out.set (i + 1) | exact (HS.out.set (i + 1)).drewN _)).mono ?_; rintro e w' ⟨rfl, nd, rfl⟩) | (go_at_call 53; refine (capital_calls _ _).mono ?_; rintro e w' ⟨rfl, rfl⟩) | (go_at_call 50; refine (run_sign b l (i + 1) _ hs (by omega) (by first | exact HS.out.set (i + 1) | exact (HS.out.set (i + 1)).drewN _)).mono ?_; rintro e w1 ⟨rfl, hS1, hg1⟩))
          go_quiet (fail)
          go_wp2
          go_ret
          rw [He.out]
          exact ⟨ret_str (extract_B _ _ _), (((HS.out.set (i + 1)).drewN _).set (i + 2)).drewN _, gb_drewN (gb_set (gb_drewN (gb_set (gb_refl _ _) (.inl rfl) _) _) (.inl rfl) _) _⟩
        | false =>
          have He := hide (show namedEnd l i c = i + 1 by simp [namedEnd, e1, e4, e3])
          clear e1 e2 e4
          go_enter Tryz.func61, Tryz.ntmps61
          go_wp2_with (first | (go_at_call 52; refine (peek_any b l (i + 1) _ _ hs (by omega) (by omega) (by omega) (by first | exact HS.out.set (i + 1) | exact (HS.out.set (i + 1)).drewN _)).mono ?_; rintro e w' ⟨rfl, nd, rfl⟩) | (go_at_call 53; refine (capital_calls _ _).mono ?_; rintro e w' ⟨rfl, rfl⟩) | (go_at_call 50; refine (run_sign b l (i + 1) _ hs (by omega) (by first | exact HS.out.set (i + 1) | exact (HS.out.set (i + 1)).drewN _)).mono ?_; rintro e w1 ⟨rfl, hS1, hg1⟩))
          go_quiet (fail)
          go_wp2
          go_ret
          rw [He.out]
          exact ⟨ret_str (extract_B _ _ _), ((HS.out.set (i + 1)).drewN _).drewN _, gb_drewN (gb_drewN (gb_set (gb_refl _ _) (.inl rfl) _) _) _⟩
      · have t5 : (((pk l (i + 1)).toNat : Int) == 58) = false := is_no rfl e4
        have He := hide (show namedEnd l i c = i + 1 by simp [namedEnd, e1, e2, e4])
        clear e1 e2 e4
        go_enter Tryz.func61, Tryz.ntmps61
        go_wp2_with (first | (go_at_call 52; refine (peek_any b l (i + 1) _ _ hs (by omega) (by omega) (by omega) (by first | exact HS.out.set (i + 1) | exact (HS.out.set (i + 1)).drewN _)).mono ?_; rintro e w' ⟨rfl, nd, rfl⟩) | (go_at_call 53; refine (capital_calls _ _).mono ?_; rintro e w' ⟨rfl, rfl⟩) | (go_at_call 50; refine (run_sign b l (i + 1) _ hs (by omega) (by first | exact HS.out.set (i + 1) | exact (HS.out.set (i + 1)).drewN _)).mono ?_; rintro e w1 ⟨rfl, hS1, hg1⟩))
        go_quiet (fail)
        go_wp2
        go_ret
        rw [He.out]
        exact ⟨ret_str (extract_B _ _ _), ((HS.out.set (i + 1)).drewN _).drewN _, gb_drewN (gb_drewN (gb_set (gb_refl _ _) (.inl rfl) _) _) _⟩
  · have t1 : ((c.toNat : Int) == 33) = false := is_no rfl e1
    have t3 : ((c.toNat : Int) != 33) = true := isnt_yes rfl e1
    by_cases e2 : c = 59
    · have t2 : ((c.toNat : Int) != 59) = false := isnt_no rfl e2
      have He := hide (show namedEnd l i c = i + 1 by simp [namedEnd, e2])
      clear e1 e2
      go_enter Tryz.func61, Tryz.ntmps61
      go_wp2_with (first | (go_at_call 52; refine (peek_any b l (i + 1) _ _ hs (by omega) (by omega) (by omega) (by first | exact HS.out.set (i + 1) | exact (HS.out.set (i + 1)).drewN _)).mono ?_; rintro e w' ⟨rfl, nd, rfl⟩) | (go_at_call 53; refine (capital_calls _ _).mono ?_; rintro e w' ⟨rfl, rfl⟩) | (go_at_call 50; refine (run_sign b l (i + 1) _ hs (by omega) (by first | exact HS.out.set (i + 1) | exact (HS.out.set (i + 1)).drewN _)).mono ?_; rintro e w1 ⟨rfl, hS1, hg1⟩))
      go_quiet (fail)
      go_wp2
      go_ret
      rw [He.out]
      exact ⟨ret_str (extract_B _ _ _), (HS.out.set (i + 1)).drewN _, gb_drewN (gb_set (gb_refl _ _) (.inl rfl) _) _⟩
    · have t2 : ((c.toNat : Int) != 59) = true := isnt_yes rfl e2
      have He := hide (show namedEnd l i c = i + 1 + spanLen sign (l.drop (i + 1)) by simp [namedEnd, e1, e2])
      clear e1 e2
      go_enter Tryz.func61, Tryz.ntmps61
      go_wp2_with (first | (go_at_call 52; refine (peek_any b l (i + 1) _ _ hs (by omega) (by omega) (by omega) (by first | exact HS.out.set (i + 1) | exact (HS.out.set (i + 1)).drewN _)).mono ?_; rintro e w' ⟨rfl, nd, rfl⟩) | (go_at_call 53; refine (capital_calls _ _).mono ?_; rintro e w' ⟨rfl, rfl⟩) | (go_at_call 50; refine (run_sign b l (i + 1) _ hs (by omega) (by first | exact HS.out.set (i + 1) | exact (HS.out.set (i + 1)).drewN _)).mono ?_; rintro e w1 ⟨rfl, hS1, hg1⟩))
      have g0 := hS1.c0
      have g1 := hS1.c1
      have hle := spanLen_le sign l (i + 1)
      have HS1 := hide hS1
      clear hS1
      go_wp2
      go_quiet (fail)
      go_wp2
      go_ret
      rw [He.out]
      exact ⟨ret_str (extract_B _ _ _), HS1.out.drewN _, gb_drewN (gb_trans (gb_set (gb_refl _ _) (.inl rfl) _) hg1) _⟩
theorem byteS_ok {l : Bs} {i f j : Nat} {c : UInt8} (h : byteS l i f = .ok c j) : j = i + 1 ∧ i < l.length := by
  unfold byteS at h
  cases hd : l.drop i with
  | nil => rw [hd] at h; cases h
  | cons d t =>
    rw [hd] at h
    obtain ⟨hl, -, -⟩ := drop_at hd
    simp only at h
    split at h
    · injection h with h1 h2
      exact ⟨h2.symm, hl⟩
    · cases h
theorem escape_calls (b : Nat) (l esc : Bs) (i f : Nat) (w : World) (hs : l.length ≤ 65536) (hi : i ≤ l.length) (h1i : 1 ≤ i) (hf : f ≤ 65536) (hS : Sc w b l i) :
    Calls Tryz.prog 97 #[.pointer (some ⟨b, 0, none⟩), .int .i64 (f : Int), .string (B esc)] w (ScPost w b l (fun c : UInt8 => .int .u8 (c.toNat : Int)) (escapeS l i f esc)) := by
  have h0 := hS.c0
  have h1 := hS.c1
  have h2 := hS.f1
  have HS := hide hS
  clear hS
  unfold escapeS
  cases hb : byteS l i f with
  | bad a e =>
    have hc := hide (fun (W : World) (h : Sc W b l i) => hb ▸ byte_calls b l i f W hs hi hf h)
    clear hb
    simp only
    go_enter Tryz.func97, Tryz.ntmps97
    go_wp2_with (first | (go_at_call 47; refine (hc.out _ HS.out).mono ?_; rintro e w1 ⟨rfl, hg1⟩))
    exact ⟨rfl, rfl, hg1⟩
  | ok c j =>
    obtain ⟨rfl, hl⟩ := byteS_ok hb
    have hc := hide (fun (W : World) (h : Sc W b l i) => hb ▸ byte_calls b l i f W hs hi hf h)
    clear hb
    simp only
    have hx := index_pos esc c
    cases he : esc.contains c with
    | false =>
      have t1 : Lib.indexByte esc c < 0 := by
        have h3 : ¬ 0 ≤ Lib.indexByte esc c := by rw [hx]; simpa using he
        omega
      clear hx he
      have e3 : ((i : Int) - 1) = ((i - 1 : Nat) : Int) := by omega
      simp only [Bool.false_eq_true, if_false]
      have E3 := hide e3
      clear e3
      go_enter Tryz.func97, Tryz.ntmps97
      go_wp2_with (first | (go_at_call 47; refine (hc.out _ HS.out).mono ?_; rintro e w1 ⟨rfl, hS1, hg1⟩) | (go_at_call 59; refine (IndexByte_calls _ _ _).mono ?_; rintro e w' ⟨rfl, rfl⟩) | (go_at_call 58; refine (stop_calls _ _ _ _).mono ?_; rintro e w' ⟨rfl, rfl⟩))
      rw [E3.out]
      exact ⟨rfl, rfl, hg1⟩
    | true =>
      have t1 : 0 ≤ Lib.indexByte esc c := by rw [hx]; simpa using he
      clear hx he
      simp only [if_true]
      by_cases e1 : c = 110
      · have t2 : ((c.toNat : Int) == 110) = true := is_yes rfl e1
        have He := hide (show unesc c = 10 by simp [unesc, e1])
        clear e1
        go_enter Tryz.func97, Tryz.ntmps97
        go_wp2_with (first | (go_at_call 47; refine (hc.out _ HS.out).mono ?_; rintro e w1 ⟨rfl, hS1, hg1⟩) | (go_at_call 59; refine (IndexByte_calls _ _ _).mono ?_; rintro e w' ⟨rfl, rfl⟩) | (go_at_call 58; refine (stop_calls _ _ _ _).mono ?_; rintro e w' ⟨rfl, rfl⟩))
        go_ret
        exact ⟨ret_int (by rw [He.out]; rfl), hS1, hg1⟩
      · have t2 : ((c.toNat : Int) == 110) = false := is_no rfl e1
        by_cases e2 : c = 116
        · have t3 : ((c.toNat : Int) == 116) = true := is_yes rfl e2
          have He := hide (show unesc c = 9 by simp [unesc, e2])
          clear e1 e2
          go_enter Tryz.func97, Tryz.ntmps97
          go_wp2_with (first | (go_at_call 47; refine (hc.out _ HS.out).mono ?_; rintro e w1 ⟨rfl, hS1, hg1⟩) | (go_at_call 59; refine (IndexByte_calls _ _ _).mono ?_; rintro e w' ⟨rfl, rfl⟩) | (go_at_call 58; refine (stop_calls _ _ _ _).mono ?_; rintro e w' ⟨rfl, rfl⟩))
          go_ret
          exact ⟨ret_int (by rw [He.out]; rfl), hS1, hg1⟩
        · have t3 : ((c.toNat : Int) == 116) = false := is_no rfl e2
          have He := hide (show unesc c = c by simp [unesc, e1, e2])
          clear e1 e2
          go_enter Tryz.func97, Tryz.ntmps97
          go_wp2_with (first | (go_at_call 47; refine (hc.out _ HS.out).mono ?_; rintro e w1 ⟨rfl, hS1, hg1⟩) | (go_at_call 59; refine (IndexByte_calls _ _ _).mono ?_; rintro e w' ⟨rfl, rfl⟩) | (go_at_call 58; refine (stop_calls _ _ _ _).mono ?_; rintro e w' ⟨rfl, rfl⟩))
          go_ret
          exact ⟨ret_int (by rw [He.out]), hS1, hg1⟩
theorem byteS_nil {l : Bs} {j f : Nat} (hd : l.drop j = []) : byteS l j f = .bad f 12 := by simp [byteS, hd]
theorem byteS_bad {l : Bs} {j f : Nat} {c : UInt8} {t : Bs} (hd : l.drop j = c :: t) (hp : permitted c = false) : byteS l j f = .bad j 2 := by simp [byteS, hd, hp]
theorem byteS_good {l : Bs} {j f : Nat} {c : UInt8} {t : Bs} (hd : l.drop j = c :: t) (hp : permitted c = true) : byteS l j f = .ok c (j + 1) := by simp [byteS, hd, hp]
theorem quoted_esc_bad {mark : UInt8} {esc l acc : Bs} {f j x e : Nat} {c : UInt8} {t : Bs} (hp : permitted c = true) (hm : ¬ c = mark) (hb : c = 92) (ht : l.drop (j + 1) = t) (he : escapeS l (j + 1) f esc = .bad x e) :
    quotedR mark esc f j (c :: t) acc = .bad x e := by
  rw [quotedR_cons, if_neg (by simp [hp]), if_neg hm, if_neg (by simp [hb]), if_pos hb]
  unfold escapeS byteS at he
  rw [ht] at he
  cases t with
  | nil => simpa using he
  | cons d u =>
    simp only at he
    cases hd : permitted d with
    | false => simp [hd] at he; simpa [hd] using he
    | true =>
      simp only [hd, if_true] at he
      split at he
      · cases he
      · rename_i h1
        show (if (!permitted d) = true then R.bad (j + 1) 2 else if esc.contains d = true then _ else R.bad j 11) = _
        rw [if_neg (by simp [hd]), if_neg h1]
        simpa using he
theorem quoted_esc_ok {mark : UInt8} {esc l acc : Bs} {f j m : Nat} {c d : UInt8} {t : Bs} (hp : permitted c = true) (hm : ¬ c = mark) (hb : c = 92) (ht : l.drop (j + 1) = t) (he : escapeS l (j + 1) f esc = .ok d m) :
    m = j + 2 ∧ quotedR mark esc f j (c :: t) acc = quotedR mark esc f (j + 2) (l.drop (j + 2)) (acc ++ [d]) := by
  rw [quotedR_cons, if_neg (by simp [hp]), if_neg hm, if_neg (by simp [hb]), if_pos hb]
  unfold escapeS byteS at he
  rw [ht] at he
  cases t with
  | nil => cases he
  | cons d' u =>
    obtain ⟨_, _, hu⟩ := drop_at ht
    simp only at he
    cases hd : permitted d' with
    | false => simp [hd] at he
    | true =>
      simp only [hd, if_true] at he
      split at he
      · rename_i h1
        injection he with h2 h3
        refine ⟨h3.symm, ?_⟩
        show (if (!permitted d') = true then R.bad (j + 1) 2 else if esc.contains d' = true then quotedR mark esc f (j + 2) u (acc ++ [unesc d']) else R.bad j 11) = _
        rw [if_neg (by simp [hd]), if_pos h1, h2, ← hu]
      · cases he
theorem escapeS_lt {l esc : Bs} {i f m : Nat} {d : UInt8} (he : escapeS l i f esc = .ok d m) : i < l.length := by
  unfold escapeS at he
  cases hb : byteS l i f with
  | bad a e => rw [hb] at he; cases he
  | ok c j => exact (byteS_ok hb).2
set_option maxRecDepth 100000 in
theorem quoted_calls (b : Nat) (l esc : Bs) (mark : UInt8) (i : Nat) (w : World) (hs : l.length ≤ 65536) (hi : i < l.length) (hS : Sc w b l i) :
    Calls Tryz.prog 56 #[.pointer (some ⟨b, 0, none⟩), .int .u8 (mark.toNat : Int), .string (B esc)] w (ScPost w b l (fun r : Bs => .string (B r)) (quotedS mark esc l i)) := by
  have h0 := hS.c0
  have h1 := hS.c1
  have h2 := hS.f1
  have hbl : b < w.heap.size := hS.lt
  have HS := hide hS
  clear hS
  unfold quotedS
  go_enter Tryz.func56, Tryz.ntmps56
  go_wp2_with fail
  go_loopw [8] (fun v wr => ∃ j acc, i + 1 ≤ j ∧ j ≤ l.length ∧ acc.length ≤ j ∧ Sc wr b l j ∧ w.grownBy wr (some b) ∧ OwnB wr w.heap.size v acc ∧ Hid (quotedR mark esc i (i + 1) (l.drop (i + 1)) [] = quotedR mark esc i j (l.drop j) acc)) (fun _ wr => l.length - atOf wr b)
  case atStart => exact ⟨i + 1, [], Nat.le_refl _, by omega, by simp, HS.out.set (i + 1), gb_set (gb_refl _ _) (.inl rfl) _, OwnB.nil _ _, rfl⟩
  case round =>
    clear h0 h1 h2 HS
    obtain ⟨j, acc, hij, hjl, hal, hS, hg, ho, Hq⟩ := hrel
    have HS := hide hS
    have HO := hide ho
    have Hg := hide hg
    clear hS ho hg
    cases hd : l.drop j with
    | nil =>
      rw [hd] at Hq
      have hq := hide (show quotedR mark esc i (i + 1) (l.drop (i + 1)) [] = .bad i 12 from Hq.out.trans (quotedR_nil ..))
      have hc := hide (fun (W : World) (h : Sc W b l j) => byteS_nil (f := i) hd ▸ byte_calls b l j i W hs hjl (by omega) h)
      clear hd Hq
      go_wp2_with (first | (go_at_call 47; refine (hc.out _ HS.out).mono ?_; rintro e w1 ⟨rfl, hg1⟩))
      rw [hq.out]
      exact ⟨rfl, rfl, gb_trans Hg.out hg1⟩
    | cons c t =>
      obtain ⟨hl, -, ht⟩ := drop_at hd
      rw [hd] at Hq
      cases hp : permitted c with
      | false =>
        have hq := hide (show quotedR mark esc i (i + 1) (l.drop (i + 1)) [] = .bad j 2 from Hq.out.trans (by rw [quotedR_cons]; simp [hp]))
        have hc := hide (fun (W : World) (h : Sc W b l j) => byteS_bad (f := i) hd hp ▸ byte_calls b l j i W hs hjl (by omega) h)
        clear hd Hq hp ht
        go_wp2_with (first | (go_at_call 47; refine (hc.out _ HS.out).mono ?_; rintro e w1 ⟨rfl, hg1⟩))
        rw [hq.out]
        exact ⟨rfl, rfl, gb_trans Hg.out hg1⟩
      | true =>
        have hc := hide (fun (W : World) (h : Sc W b l j) => byteS_good (f := i) hd hp ▸ byte_calls b l j i W hs hjl (by omega) h)
        by_cases hm : c = mark
        · have hq := hide (show quotedR mark esc i (i + 1) (l.drop (i + 1)) [] = .ok acc (j + 1) from Hq.out.trans (by rw [quotedR_cons, if_neg (by simp [hp]), if_pos hm]))
          have t1 : ((c.toNat : Int) == (mark.toNat : Int)) = true := is_yes rfl hm
          have hcv := fun (W : World) (h : OwnB W w.heap.size u8 acc) => h.string (P := Tryz.prog) (dst := 9) Tryz.underlying53 Tryz.underlying5 Tryz.underlying9
          clear hd Hq hp ht hm
          go_wp2_with (first | (go_at_call 47; refine (hc.out _ HS.out).mono ?_; rintro e w1 ⟨rfl, hS1, hg1⟩; have ho1 := HO.out.kept hg1 hbl))
          go_ret
          rw [hq.out]
          exact ⟨rfl, hS1, gb_trans Hg.out hg1⟩
        · have t1 : ((c.toNat : Int) == (mark.toNat : Int)) = false := is_no rfl hm
          by_cases hn : c = 10 ∨ c = 9
          · have hq := hide (show quotedR mark esc i (i + 1) (l.drop (i + 1)) [] = .bad j 11 from Hq.out.trans (by rw [quotedR_cons]; simp [hp, hm, hn]))
            have HN := hide hn
            clear hd Hq hp ht hm hn
            rcases HN.out with hn | hn
            · have t2 : ((c.toNat : Int) == 10) = true := is_yes rfl hn
              clear hn
              go_wp2_with (first | (go_at_call 47; refine (hc.out _ HS.out).mono ?_; rintro e w1 ⟨rfl, hS1, hg1⟩; have g1 := hS1.c1) | (go_at_call 58; refine (stop_calls _ _ _ _).mono ?_; rintro e w' ⟨rfl, rfl⟩))
              rw [hq.out]
              exact ⟨rfl, rfl, gb_trans Hg.out hg1⟩
            · have t2 : ((c.toNat : Int) == 10) = false := is_no (d := 10) rfl (by simp [hn])
              have t3 : ((c.toNat : Int) == 9) = true := is_yes rfl hn
              clear hn
              go_wp2_with (first | (go_at_call 47; refine (hc.out _ HS.out).mono ?_; rintro e w1 ⟨rfl, hS1, hg1⟩; have g1 := hS1.c1) | (go_at_call 58; refine (stop_calls _ _ _ _).mono ?_; rintro e w' ⟨rfl, rfl⟩))
              rw [hq.out]
              exact ⟨rfl, rfl, gb_trans Hg.out hg1⟩
          · have n10 : ¬ c = 10 := fun h => hn (.inl h)
            have n9 : ¬ c = 9 := fun h => hn (.inr h)
            have t2 : ((c.toNat : Int) == 10) = false := is_no rfl n10
            have t3 : ((c.toNat : Int) == 9) = false := is_no rfl n9
            by_cases hb : c = 92
            · have t4 : ((c.toNat : Int) == 92) = true := is_yes rfl hb
              cases he : escapeS l (j + 1) i esc with
              | bad x e =>
                have hq := hide (show quotedR mark esc i (i + 1) (l.drop (i + 1)) [] = .bad x e from Hq.out.trans (quoted_esc_bad hp hm hb ht he))
                have hx := hide (fun (W : World) (h : Sc W b l (j + 1)) => he ▸ escape_calls b l esc (j + 1) i W hs (by omega) (by omega) (by omega) h)
                clear hd Hq hp ht hm hn n10 n9 hb he
                go_wp2_with (first | (go_at_call 47; refine (hc.out _ HS.out).mono ?_; rintro e w1 ⟨rfl, hS1, hg1⟩) | (go_at_call 97; refine (hx.out _ hS1).mono ?_; rintro e w2 ⟨rfl, hg2⟩))
                rw [hq.out]
                exact ⟨rfl, rfl, gb_trans (gb_trans Hg.out hg1) hg2⟩
              | ok d m =>
                obtain ⟨rfl, hq0⟩ := quoted_esc_ok (acc := acc) (f := i) hp hm hb ht he
                have hq := hide (Hq.out.trans hq0)
                have hl2 := escapeS_lt he
                have hx := hide (fun (W : World) (h : Sc W b l (j + 1)) => he ▸ escape_calls b l esc (j + 1) i W hs (by omega) (by omega) (by omega) h)
                clear hd Hq hp ht hm hn n10 n9 hb he hq0
                go_wp2_with (first | (go_at_call 47; refine (hc.out _ HS.out).mono ?_; rintro e w1 ⟨rfl, hS1, hg1⟩; have ho1 := hide (HO.out.kept hg1 hbl); have hz1 := hide hg1.size) | (go_at_call 97; refine (hx.out _ hS1).mono ?_; rintro e w2 ⟨rfl, hS2, hg2⟩; have ho2 := hide (ho1.out.kept hg2 hbl); have hz2 := hide hg2.size) | (at_builtin; refine append_u8 rfl _ _ rfl w.heap.size u8 acc d rfl rfl ho2.out (by have := Hg.out.size; have := hz1.out; have := hz2.out; omega) (by omega) ?_; intro v1 w3 ho3 hg3 hk3; have hS3 := hide (Sc.own hS2 hg3 (fun x hx => by have := hk3 x hx; omega))))
                refine ⟨⟨j + 2, acc ++ [d], by omega, by omega, by simp; omega, hS3.out, gb_own (gb_trans (gb_trans Hg.out hg1) hg2) hg3 (fun x hx => hk3 x hx), ho3, hq⟩, ?_⟩
                exact Sc.less HS.out hS3.out (by omega) hl
            · have t4 : ((c.toNat : Int) == 92) = false := is_no rfl hb
              have hq := hide (show quotedR mark esc i (i + 1) (l.drop (i + 1)) [] = quotedR mark esc i (j + 1) (l.drop (j + 1)) (acc ++ [c]) from Hq.out.trans (by rw [quotedR_cons, ht]; simp [hp, hm, n10, n9, hb]))
              clear hd Hq hp ht hm hn n10 n9 hb
              go_wp2_with (first | (go_at_call 47; refine (hc.out _ HS.out).mono ?_; rintro e w1 ⟨rfl, hS1, hg1⟩; have ho1 := hide (HO.out.kept hg1 hbl); have hz1 := hide hg1.size) | (at_builtin; go_loud (refine append_u8 rfl _ _ rfl w.heap.size u8 acc c rfl rfl ho1.out (by have := Hg.out.size; have := hz1.out; omega) (by omega) ?_); intro v1 w2 ho2 hg2 hk2; have hS2 := hide (Sc.own hS1 hg2 (fun x hx => by have := hk2 x hx; omega))))
              refine ⟨⟨j + 1, acc ++ [c], by omega, by omega, by simp; omega, hS2.out, gb_own (gb_trans Hg.out hg1) hg2 (fun x hx => hk2 x hx), ho2, hq⟩, ?_⟩
              exact Sc.less HS.out hS2.out (by omega) hl
end
end Go.Proofs.YtgeonilideojnaaGreatDoor.Tk
end
section
namespace Go.Proofs.YtgeonilideojnaaGreatDoor.Tk
open Go Go.RowKit
set_option linter.unusedVariables false
set_option linter.unusedSimpArgs false
section
set_option maxHeartbeats 1000000
set_option maxRecDepth 100000
theorem char_calls (b : Nat) (l : Bs) (i : Nat) (w : World) (hs : l.length ≤ 65536) (hi : i + 2 ≤ l.length) (hS : Sc w b l i) :
    Calls Tryz.prog 54 #[.pointer (some ⟨b, 0, none⟩)] w (ScPost w b l (fun r : Bs => .string (B r)) (charS l i)) := by
  have h0 := hS.c0
  have h1 := hS.c1
  have h2 := hS.f1
  have hz := size_B l
  have HS := hide (show ∀ n, Sc ((w.setCell ⟨b, 1, none⟩ (.int .i64 ((i : Int) + 2))).drewN n) b l (i + 2) from fun n => hS.set (i + 2))
  have Hg := hide (show ∀ n, w.grownBy ((w.setCell ⟨b, 1, none⟩ (.int .i64 ((i : Int) + 2))).drewN n) (some b) from fun n => gb_drewN (gb_set (gb_refl _ _) (.inl rfl) _) n)
  clear hS
  unfold charS
  cases hd : l.drop (i + 2) with
  | nil =>
    have hn := drop_nil hd
    have hlt : decide (l.length ≤ i + 2) = true := by simpa using hn
    simp only
    clear hd
    go_enter Tryz.func54, Tryz.ntmps54
    go_wp2
    go_quiet (fail)
    go_wp2_with (first | (go_at_call 58; refine (stop_calls _ _ _ _).mono ?_; rintro e w' ⟨rfl, rfl⟩))
    exact ⟨rfl, rfl, Hg.out _⟩
  | cons c t =>
    obtain ⟨hl, -, ht⟩ := drop_at hd
    have hlt : decide (l.length ≤ i + 2) = false := by simpa using hl
    simp only
    cases hp : permitted c with
    | false =>
      have hc := hide (fun (W : World) (h : Sc W b l (i + 2)) => byteS_bad (f := i) hd hp ▸ byte_calls b l (i + 2) i W hs hi (by omega) h)
      clear hd ht
      simp only [Bool.not_false, if_true]
      go_enter Tryz.func54, Tryz.ntmps54
      go_wp2
      go_quiet (fail)
      go_wp2_with (first | (go_at_call 47; refine (hc.out _ (HS.out _)).mono ?_; rintro e w1 ⟨rfl, hg1⟩))
      exact ⟨rfl, rfl, gb_trans (Hg.out _) hg1⟩
    | true =>
      have hc := hide (fun (W : World) (h : Sc W b l (i + 2)) => byteS_good (f := i) hd hp ▸ byte_calls b l (i + 2) i W hs hi (by omega) h)
      clear hd
      simp only [Bool.not_true, Bool.false_eq_true, if_false]
      by_cases hb : c = 92
      · have t1 : ((c.toNat : Int) == 92) = true := is_yes rfl hb
        rw [if_pos hb]
        cases hd : t with
        | nil =>
          rw [hd] at ht
          have hn := drop_nil ht
          have hlt2 : decide ((i : Int) + 2 + 1 < (l.length : Int)) = false := by simp; omega
          have hidx : Lib.indexByte [110, 116, 92] (pk l (i + 2 + 1)) < 0 := by rw [pk_nil ht]; decide
          simp only
          clear ht hb hd
          go_enter Tryz.func54, Tryz.ntmps54
          go_wp2
          go_quiet (fail)
          go_wp2_with (first | (go_at_call 47; refine (hc.out _ (HS.out _)).mono ?_; rintro e w1 ⟨rfl, hS1, hg1⟩; have g0 := hS1.c0; have g1 := hS1.c1) | (go_at_call 52; refine (peek_any b l (i + 2 + 1) _ _ hs (by omega) (by omega) (by omega) (by exact hS1)).mono ?_; rintro e w' ⟨rfl, nd, rfl⟩) | (go_at_call 59; refine (IndexByte_calls [110, 116, 92] _ _).mono ?_; rintro e w' ⟨rfl, rfl⟩) | (go_at_call 58; refine (stop_calls _ _ _ _).mono ?_; rintro e w' ⟨rfl, rfl⟩) | (go_at_call 95; refine (permitted_calls _ _).mono ?_; rintro e w' ⟨rfl, rfl⟩) | (go_at_call 46; refine (blank_calls _ _).mono ?_; rintro e w' ⟨rfl, rfl⟩))
          go_quiet (fail)
          go_wp2_with (first | (go_at_call 47; refine (hc.out _ (HS.out _)).mono ?_; rintro e w1 ⟨rfl, hS1, hg1⟩; have g0 := hS1.c0; have g1 := hS1.c1) | (go_at_call 52; refine (peek_any b l (i + 2 + 1) _ _ hs (by omega) (by omega) (by omega) (by exact hS1)).mono ?_; rintro e w' ⟨rfl, nd, rfl⟩) | (go_at_call 59; refine (IndexByte_calls [110, 116, 92] _ _).mono ?_; rintro e w' ⟨rfl, rfl⟩) | (go_at_call 58; refine (stop_calls _ _ _ _).mono ?_; rintro e w' ⟨rfl, rfl⟩) | (go_at_call 95; refine (permitted_calls _ _).mono ?_; rintro e w' ⟨rfl, rfl⟩) | (go_at_call 46; refine (blank_calls _ _).mono ?_; rintro e w' ⟨rfl, rfl⟩))
          exact ⟨rfl, rfl, gb_drewN (gb_trans (Hg.out _) hg1) _⟩
        | cons d u =>
          rw [hd] at ht
          obtain ⟨hl2, -, -⟩ := drop_at ht
          have hb2 := B_get ht
          have e2 : (0 : Int) ≤ (i : Int) + 2 + 1 := by omega
          have e3 : ((i : Int) + 2 + 1).toNat = i + 2 + 1 := by omega
          have e4 : (i : Int) + 2 + 1 < (l.length : Int) := by omega
          have hlt2 : decide ((i : Int) + 2 + 1 < (l.length : Int)) = true := by simp; omega
          have hx := index_pos [110, 116, 92] d
          have hpk := pk_cons ht
          simp only
          cases hp2 : permitted d with
          | false =>
            have hidx : Lib.indexByte [110, 116, 92] (pk l (i + 2 + 1)) < 0 := by
              rw [hpk]
              have : ¬ 0 ≤ Lib.indexByte [110, 116, 92] d := by
                rw [hx]
                intro h
                simp only [List.mem_cons, List.mem_nil_iff, or_false] at h
                rcases h with rfl | rfl | rfl <;> simp [permitted] at hp2
              omega
            simp only [Bool.not_false, if_true]
            clear ht hb hd hx hpk
            go_enter Tryz.func54, Tryz.ntmps54
            go_wp2
            go_quiet (fail)
            go_wp2_with (first | (go_at_call 47; refine (hc.out _ (HS.out _)).mono ?_; rintro e w1 ⟨rfl, hS1, hg1⟩; have g0 := hS1.c0; have g1 := hS1.c1) | (go_at_call 52; refine (peek_any b l (i + 2 + 1) _ _ hs (by omega) (by omega) (by omega) (by exact hS1)).mono ?_; rintro e w' ⟨rfl, nd, rfl⟩) | (go_at_call 59; refine (IndexByte_calls [110, 116, 92] _ _).mono ?_; rintro e w' ⟨rfl, rfl⟩) | (go_at_call 58; refine (stop_calls _ _ _ _).mono ?_; rintro e w' ⟨rfl, rfl⟩) | (go_at_call 95; refine (permitted_calls _ _).mono ?_; rintro e w' ⟨rfl, rfl⟩) | (go_at_call 46; refine (blank_calls _ _).mono ?_; rintro e w' ⟨rfl, rfl⟩))
            go_quiet ((refine (permitted_calls _ _).mono ?_; rintro e w' ⟨rfl, rfl⟩; exact ⟨rfl, _, rfl⟩))
            go_wp2_with (first | (go_at_call 47; refine (hc.out _ (HS.out _)).mono ?_; rintro e w1 ⟨rfl, hS1, hg1⟩; have g0 := hS1.c0; have g1 := hS1.c1) | (go_at_call 52; refine (peek_any b l (i + 2 + 1) _ _ hs (by omega) (by omega) (by omega) (by exact hS1)).mono ?_; rintro e w' ⟨rfl, nd, rfl⟩) | (go_at_call 59; refine (IndexByte_calls [110, 116, 92] _ _).mono ?_; rintro e w' ⟨rfl, rfl⟩) | (go_at_call 58; refine (stop_calls _ _ _ _).mono ?_; rintro e w' ⟨rfl, rfl⟩) | (go_at_call 95; refine (permitted_calls _ _).mono ?_; rintro e w' ⟨rfl, rfl⟩) | (go_at_call 46; refine (blank_calls _ _).mono ?_; rintro e w' ⟨rfl, rfl⟩))
            exact ⟨rfl, rfl, gb_drewN (gb_trans (Hg.out _) hg1) _⟩
          | true =>
            simp only [Bool.not_true, Bool.false_eq_true, if_false]
            by_cases he : d = 110 ∨ d = 116 ∨ d = 92
            · have hidx : 0 ≤ Lib.indexByte [110, 116, 92] (pk l (i + 3)) := by
                rw [show i + 3 = i + 2 + 1 from rfl, hpk, hx]; simpa using he
              have h0d : ((( pk l (i + 3)).toNat : Int) == 0) = false := is_no (d := 0) rfl (by rw [show i + 3 = i + 2 + 1 from rfl, hpk]; rcases he with h | h | h <;> simp [h])
              have hes : escapeS l (i + 2 + 1) i [110, 116, 92] = .ok (unesc d) (i + 4) := by
                unfold escapeS
                rw [byteS_good ht hp2]
                have : ([110, 116, 92] : Bs).contains d = true := by rcases he with h | h | h <;> simp [h]
                simp only [this, if_true]
              have hxe := hide (fun (W : World) (h : Sc W b l (i + 2 + 1)) => hes ▸ escape_calls b l [110, 116, 92] (i + 2 + 1) i W hs (by omega) (by omega) (by omega) h)
              rw [if_pos (by simp; rcases he with h | h | h <;> simp [h])]
              clear ht hb hd hx hpk hes he
              have hcv := conv1
              go_enter Tryz.func54, Tryz.ntmps54
              go_wp2
              go_quiet (fail)
              go_wp2_with (first | (go_at_call 47; refine (hc.out _ (HS.out _)).mono ?_; rintro e w1 ⟨rfl, hS1, hg1⟩; have g0 := hS1.c0; have g1 := hS1.c1) | (go_at_call 52; refine (peek_any b l (i + 2 + 1) _ _ hs (by omega) (by omega) (by omega) (by exact hS1)).mono ?_; rintro e w' ⟨rfl, nd, rfl⟩) | (go_at_call 59; refine (IndexByte_calls [110, 116, 92] _ _).mono ?_; rintro e w' ⟨rfl, rfl⟩) | (go_at_call 58; refine (stop_calls _ _ _ _).mono ?_; rintro e w' ⟨rfl, rfl⟩) | (go_at_call 95; refine (permitted_calls _ _).mono ?_; rintro e w' ⟨rfl, rfl⟩) | (go_at_call 46; refine (blank_calls _ _).mono ?_; rintro e w' ⟨rfl, rfl⟩) | (go_at_call 97; refine (hxe.out _ (by exact hS1)).mono ?_; rintro e w2 ⟨rfl, hS2, hg2⟩))
              go_ret
              exact ⟨rfl, hS2.alloc _, gb_alloc (gb_trans (gb_trans (Hg.out _) hg1) (gb_trans (gb_drewN (gb_refl _ _) _) hg2)) _⟩
            · have hidx : Lib.indexByte [110, 116, 92] (pk l (i + 2 + 1)) < 0 := by
                rw [hpk]
                have : ¬ 0 ≤ Lib.indexByte [110, 116, 92] d := by rw [hx]; simpa using he
                omega
              rw [if_neg (by simpa [and_assoc] using he)]
              clear ht hb hd hx hpk he
              go_enter Tryz.func54, Tryz.ntmps54
              go_wp2
              go_quiet (fail)
              go_wp2_with (first | (go_at_call 47; refine (hc.out _ (HS.out _)).mono ?_; rintro e w1 ⟨rfl, hS1, hg1⟩; have g0 := hS1.c0; have g1 := hS1.c1) | (go_at_call 52; refine (peek_any b l (i + 2 + 1) _ _ hs (by omega) (by omega) (by omega) (by exact hS1)).mono ?_; rintro e w' ⟨rfl, nd, rfl⟩) | (go_at_call 59; refine (IndexByte_calls [110, 116, 92] _ _).mono ?_; rintro e w' ⟨rfl, rfl⟩) | (go_at_call 58; refine (stop_calls _ _ _ _).mono ?_; rintro e w' ⟨rfl, rfl⟩) | (go_at_call 95; refine (permitted_calls _ _).mono ?_; rintro e w' ⟨rfl, rfl⟩) | (go_at_call 46; refine (blank_calls _ _).mono ?_; rintro e w' ⟨rfl, rfl⟩))
              go_quiet ((refine (permitted_calls _ _).mono ?_; rintro e w' ⟨rfl, rfl⟩; exact ⟨rfl, _, rfl⟩))
              go_wp2_with (first | (go_at_call 47; refine (hc.out _ (HS.out _)).mono ?_; rintro e w1 ⟨rfl, hS1, hg1⟩; have g0 := hS1.c0; have g1 := hS1.c1) | (go_at_call 52; refine (peek_any b l (i + 2 + 1) _ _ hs (by omega) (by omega) (by omega) (by exact hS1)).mono ?_; rintro e w' ⟨rfl, nd, rfl⟩) | (go_at_call 59; refine (IndexByte_calls [110, 116, 92] _ _).mono ?_; rintro e w' ⟨rfl, rfl⟩) | (go_at_call 58; refine (stop_calls _ _ _ _).mono ?_; rintro e w' ⟨rfl, rfl⟩) | (go_at_call 95; refine (permitted_calls _ _).mono ?_; rintro e w' ⟨rfl, rfl⟩) | (go_at_call 46; refine (blank_calls _ _).mono ?_; rintro e w' ⟨rfl, rfl⟩))
              exact ⟨rfl, rfl, gb_drewN (gb_trans (Hg.out _) hg1) _⟩
      · have t1 : ((c.toNat : Int) == 92) = false := is_no rfl hb
        rw [if_neg hb]
        by_cases hn : c = 10 ∨ c = 9
        · have hbl : blank c = true := by rcases hn with h | h <;> simp [blank, h]
          have t2 : ((c.toNat : Int) != 32) = true := isnt_yes (d := 32) rfl (by rcases hn with h | h <;> simp [h])
          rw [if_pos (by simpa using hn)]
          clear ht hb hn
          go_enter Tryz.func54, Tryz.ntmps54
          go_wp2
          go_quiet (fail)
          go_wp2_with (first | (go_at_call 47; refine (hc.out _ (HS.out _)).mono ?_; rintro e w1 ⟨rfl, hS1, hg1⟩; have g0 := hS1.c0; have g1 := hS1.c1) | (go_at_call 52; refine (peek_any b l (i + 2 + 1) _ _ hs (by omega) (by omega) (by omega) (by exact hS1)).mono ?_; rintro e w' ⟨rfl, nd, rfl⟩) | (go_at_call 59; refine (IndexByte_calls [110, 116, 92] _ _).mono ?_; rintro e w' ⟨rfl, rfl⟩) | (go_at_call 58; refine (stop_calls _ _ _ _).mono ?_; rintro e w' ⟨rfl, rfl⟩) | (go_at_call 95; refine (permitted_calls _ _).mono ?_; rintro e w' ⟨rfl, rfl⟩) | (go_at_call 46; refine (blank_calls _ _).mono ?_; rintro e w' ⟨rfl, rfl⟩))
          exact ⟨rfl, rfl, gb_trans (Hg.out _) hg1⟩
        · rw [if_neg (by simpa using hn)]
          have hcv := conv1
          by_cases h32 : c = 32
          · have t2 : ((c.toNat : Int) != 32) = false := isnt_no rfl h32
            have hbl : blank c = true := by simp [blank, h32]
            clear ht hb hn h32
            go_enter Tryz.func54, Tryz.ntmps54
            go_wp2
            go_quiet (fail)
            go_wp2_with (first | (go_at_call 47; refine (hc.out _ (HS.out _)).mono ?_; rintro e w1 ⟨rfl, hS1, hg1⟩; have g0 := hS1.c0; have g1 := hS1.c1) | (go_at_call 52; refine (peek_any b l (i + 2 + 1) _ _ hs (by omega) (by omega) (by omega) (by exact hS1)).mono ?_; rintro e w' ⟨rfl, nd, rfl⟩) | (go_at_call 59; refine (IndexByte_calls [110, 116, 92] _ _).mono ?_; rintro e w' ⟨rfl, rfl⟩) | (go_at_call 58; refine (stop_calls _ _ _ _).mono ?_; rintro e w' ⟨rfl, rfl⟩) | (go_at_call 95; refine (permitted_calls _ _).mono ?_; rintro e w' ⟨rfl, rfl⟩) | (go_at_call 46; refine (blank_calls _ _).mono ?_; rintro e w' ⟨rfl, rfl⟩))
            go_ret
            exact ⟨rfl, hS1.alloc _, gb_alloc (gb_trans (Hg.out _) hg1) _⟩
          · have hbl : blank c = false := by
              have h10 : ¬ c = 10 := fun h => hn (.inl h)
              have h9 : ¬ c = 9 := fun h => hn (.inr h)
              simp only [blank, Bool.or_eq_false_iff, beq_eq_false_iff_ne]
              exact ⟨toNat_ne (d := 32) h32, toNat_ne (d := 10) h10, toNat_ne (d := 9) h9⟩
            clear ht hb hn h32
            go_enter Tryz.func54, Tryz.ntmps54
            go_wp2
            go_quiet (fail)
            go_wp2_with (first | (go_at_call 47; refine (hc.out _ (HS.out _)).mono ?_; rintro e w1 ⟨rfl, hS1, hg1⟩; have g0 := hS1.c0; have g1 := hS1.c1) | (go_at_call 52; refine (peek_any b l (i + 2 + 1) _ _ hs (by omega) (by omega) (by omega) (by exact hS1)).mono ?_; rintro e w' ⟨rfl, nd, rfl⟩) | (go_at_call 59; refine (IndexByte_calls [110, 116, 92] _ _).mono ?_; rintro e w' ⟨rfl, rfl⟩) | (go_at_call 58; refine (stop_calls _ _ _ _).mono ?_; rintro e w' ⟨rfl, rfl⟩) | (go_at_call 95; refine (permitted_calls _ _).mono ?_; rintro e w' ⟨rfl, rfl⟩) | (go_at_call 46; refine (blank_calls _ _).mono ?_; rintro e w' ⟨rfl, rfl⟩))
            go_ret
            exact ⟨rfl, hS1.alloc _, gb_alloc (gb_trans (Hg.out _) hg1) _⟩
end
end Go.Proofs.YtgeonilideojnaaGreatDoor.Tk
end
