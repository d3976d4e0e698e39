/- A part of a proof over the package's statements: contracts of functions and plain facts, merged by a program of this session's. -/
import Derived.Laws.StructEq
import Derived.Deep.Slices
import Derived.Deep.Fields
import Derived.ChangeSame
import Derived.Test.YtgeonilideojnaaGreatDoorQG1x1
import Derived.Test.YtgeonilideojnaaGreatDoorQG1x2
import Derived.Test.YtgeonilideojnaaGreatDoorQG1x3
import Derived.Test.YtgeonilideojnaaGreatDoorQG1x4
import Derived.Test.YtgeonilideojnaaGreatDoorQG1x5
import Derived.Test.YtgeonilideojnaaGreatDoorQG1x6
import Derived.Test.YtgeonilideojnaaGreatDoorQG1x7
import Derived.Test.YtgeonilideojnaaGreatDoorQG1x8
import Derived.Test.YtgeonilideojnaaGreatDoorQG1x9
import Derived.Test.YtgeonilideojnaaGreatDoorQG2x1
section
namespace Go.Proofs.YtgeonilideojnaaGreatDoor.Pr
open Go.RowKit Go.Proofs.YtgeonilideojnaaGreatDoorW.PrintWords Go.Proofs.YtgeonilideojnaaGreatDoorW.PrintLast Go.Proofs.YtgeonilideojnaaGreatDoorW.PrintMore
attribute [local go_sem] max2_int min2_int max_two min_two max_three min_three max_four min_four
set_option linter.unusedVariables false
set_option linter.unusedSimpArgs false
def cinnabarlaw01_long.l0 : Nat → List (S35) → Int → Int → Option (Bool)
  | 0, _, _, _ => none
  | k + 1, x0, x3, x4 => if x4 < (x0.length : Int) then (if 0 ≤ x4 then (if (wrap64 (x3 + (((rd_T35 x0 x4).f1).size : Int))) > 2000 then (some true) else (if x4 > 300 then (some true) else (cinnabarlaw01_long.l0 k x0 (wrap64 (x3 + (((rd_T35 x0 x4).f1).size : Int))) (wrap64 (x4 + 1))))) else (none)) else (some false)
def cinnabarlaw01_long.f (k : Nat) (l0 : List (S35)) : Option (Bool) := cinnabarlaw01_long.l0 k l0 0 0
theorem cinnabarlaw01_long.mono_l : ∀ k, (∀ y0 y1 y2, LeO (cinnabarlaw01_long.l0 k y0 y1 y2) (cinnabarlaw01_long.l0 (k + 1) y0 y1 y2))
  | 0 => fun _ _ _ r h => by simp [cinnabarlaw01_long.l0] at h
  | k + 1 => by
    have ih0 := cinnabarlaw01_long.mono_l k
    · intro y0 y1 y2
      unfold cinnabarlaw01_long.l0
      repeat' first
      | (with_reducible exact ih0 _ _ _)
      | (with_reducible exact LeO.refl _)
      | (with_reducible exact LeO.none _)
      | (with_reducible refine LeO.ite ?_ ?_)
      | (with_reducible refine LeO.bind ?_ (fun _ => ?_))
      | exact ih0 _ _ _
      | exact LeO.none _
      | refine LeO.ite ?_ ?_
      | refine LeO.bind ?_ (fun _ => ?_)
theorem cinnabarlaw01_long.mono : ∀ a0 k, LeO (cinnabarlaw01_long.f k a0) (cinnabarlaw01_long.f (k + 1) a0) := by
  intro a0 k
  have ih0 := cinnabarlaw01_long.mono_l k
  unfold cinnabarlaw01_long.f
  repeat' first
      | (with_reducible exact ih0 _ _ _)
      | (with_reducible exact LeO.refl _)
      | (with_reducible exact LeO.none _)
      | (with_reducible refine LeO.ite ?_ ?_)
      | (with_reducible refine LeO.bind ?_ (fun _ => ?_))
      | exact ih0 _ _ _
      | exact LeO.none _
      | refine LeO.ite ?_ ?_
      | refine LeO.bind ?_ (fun _ => ?_)
set_option maxHeartbeats 8000000 in
set_option maxRecDepth 100000 in
theorem cinnabarlaw01_long.calls (k : Nat) (A0 : Option Addr) (c0 : Nat) (l0 : List (S35)) (r : Bool) (w : World) (hr0 : Kd.C k35 w A0 l0.length l0) (hc0 : l0.length ≤ c0) (h : cinnabarlaw01_long.f k l0 = some r) :
    Calls Tryz.prog 13 #[.slice A0 l0.length c0] w fun e w' => e = .returned (.bool r) ∧ Drawn0 w w' := by
  have HR0 := Aside0.mk hr0
  have HC0 := Aside0.mk hc0
  clear hr0 hc0
  have H : (cinnabarlaw01_long.l0 k l0 0 0) = some r := h
  clear h
  have H' := Aside0.mk H
  clear H
  go_enter Tryz.func13, Tryz.ntmps13
  go_wp2
  (try simp only [Go.Act.put, List.setIfInBounds_toArray, List.set_cons_succ, List.set_cons_zero])
  go_loopg [3, 4] k (fun kq v3 v4 w' => ∃ (x3_1 : Int) (x4_1 : Int), v3 = .int .i64 x3_1 ∧ v4 = .int .i64 x4_1 ∧ Aside0 (cinnabarlaw01_long.l0 kq l0 x3_1 x4_1 = some r) ∧ Aside0 (kq ≤ k) ∧ Drawn0 w w')
  case atStart => exact ⟨(0), (0), (by first | rfl | (simp; done) | (simp [*]; done) | (simp [show ∀ l : List UInt8, (l != []) = !l.isEmpty from fun l => by cases l <;> rfl]; done)), (by first | rfl | (simp; done) | (simp [*]; done) | (simp [show ∀ l : List UInt8, (l != []) = !l.isEmpty from fun l => by cases l <;> rfl]; done)), H', ⟨Nat.le_refl _⟩, by repeat (first | exact Drawn0.refl _ | apply Drawn0.step)⟩
  case round =>
    clear H'
    try clear c1
    obtain ⟨x3_1, x4_1, rfl, rfl, HA, HK1, ⟨m1, rfl⟩⟩ := hrel
    cases gk with
    | zero => exact absurd HA.out (by simp [cinnabarlaw01_long.l0])
    | succ k1 =>
      have H := HA.out
      clear HA
      simp only [cinnabarlaw01_long.l0] at H
      by_cases c2 : x4_1 < (l0.length : Int)
      · rw [if_pos c2] at H
        have c2b0 : decide (x4_1 < (l0.length : Int)) = true := decide_eq_true c2
        clear c2
        by_cases c3 : 0 ≤ x4_1
        · rw [if_pos c3] at H
          have c3b0 : decide (0 ≤ x4_1) = true := decide_eq_true c3
          clear c3
          by_cases c4 : (wrap64 (x3_1 + (((rd_T35 l0 x4_1).f1).size : Int))) > 2000
          · rw [if_pos c4] at H
            have c4b0 : decide (2000 < (wrap64 (x3_1 + (((rd_T35 l0 x4_1).f1).size : Int)))) = true := decide_eq_true c4
            clear c4
            obtain rfl := Option.some.inj H
            have p136 : 0 ≤ (x4_1 : Int) := of_decide_eq_true (by first | (with_reducible assumption) | assumption)
            have q136 : x4_1 < (l0.length : Int) := of_decide_eq_true (by first | (with_reducible assumption) | assumption)
            obtain ⟨ad136, e136, hx136_0, hx136_1, hx136_2⟩ := at_T35 HR0.out x4_1 p136 q136
            cases e136
            replace p136 := eq_true p136
            replace q136 := eq_true q136
            go_wp2
            go_ret
            exact ⟨by first | rfl | (simp; done) | (simp [*]; done), by repeat (first | exact Drawn0.refl _ | apply Drawn0.step)⟩
          · rw [if_neg c4] at H
            have c4b0 : decide (2000 < (wrap64 (x3_1 + (((rd_T35 l0 x4_1).f1).size : Int)))) = false := decide_eq_false c4
            clear c4
            by_cases c5 : x4_1 > 300
            · rw [if_pos c5] at H
              have c5b0 : decide (300 < x4_1) = true := decide_eq_true c5
              clear c5
              obtain rfl := Option.some.inj H
              have p136 : 0 ≤ (x4_1 : Int) := of_decide_eq_true (by first | (with_reducible assumption) | assumption)
              have q136 : x4_1 < (l0.length : Int) := of_decide_eq_true (by first | (with_reducible assumption) | assumption)
              obtain ⟨ad136, e136, hx136_0, hx136_1, hx136_2⟩ := at_T35 HR0.out x4_1 p136 q136
              cases e136
              replace p136 := eq_true p136
              replace q136 := eq_true q136
              go_wp2
              go_ret
              exact ⟨by first | rfl | (simp; done) | (simp [*]; done), by repeat (first | exact Drawn0.refl _ | apply Drawn0.step)⟩
            · rw [if_neg c5] at H
              have c5b0 : decide (300 < x4_1) = false := decide_eq_false c5
              clear c5
              have H' := Aside0.mk H
              clear H
              have p136 : 0 ≤ (x4_1 : Int) := of_decide_eq_true (by first | (with_reducible assumption) | assumption)
              have q136 : x4_1 < (l0.length : Int) := of_decide_eq_true (by first | (with_reducible assumption) | assumption)
              obtain ⟨ad136, e136, hx136_0, hx136_1, hx136_2⟩ := at_T35 HR0.out x4_1 p136 q136
              cases e136
              replace p136 := eq_true p136
              replace q136 := eq_true q136
              go_wp2
              go_roundg k1
              case measure => have := HK1.out; omega
              case rel => exact ⟨(wrap64 (x3_1 + (((rd_T35 l0 x4_1).f1).size : Int))), (wrap64 (x4_1 + 1)), (by first | rfl | (simp; done) | (simp [*]; done) | (simp [show ∀ l : List UInt8, (l != []) = !l.isEmpty from fun l => by cases l <;> rfl]; done)), (by first | rfl | (simp; done) | (simp [*]; done) | (simp [show ∀ l : List UInt8, (l != []) = !l.isEmpty from fun l => by cases l <;> rfl]; done)), H', ⟨by have := HK1.out; omega⟩, by repeat (first | exact Drawn0.refl _ | apply Drawn0.step)⟩
        · rw [if_neg c3] at H
          exact absurd H (by simp)
      · rw [if_neg c2] at H
        have c2b0 : decide (x4_1 < (l0.length : Int)) = false := decide_eq_false c2
        clear c2
        obtain rfl := Option.some.inj H
        go_wp2
        go_ret
        exact ⟨by first | rfl | (simp; done) | (simp [*]; done), by repeat (first | exact Drawn0.refl _ | apply Drawn0.step)⟩
end Go.Proofs.YtgeonilideojnaaGreatDoor.Pr
end
section
namespace Go.Proofs.YtgeonilideojnaaGreatDoor.Lw
open Go Go.RowKit Tk Go.Proofs.YtgeonilideojnaaGreatDoor.Pr Go.Proofs.YtgeonilideojnaaGreatDoorW.PrintWords
set_option linter.unusedVariables false
set_option linter.unusedSimpArgs false
theorem awake_some {f : Nat → Option Bool} (h : ∀ k, f k = (cinnabarlaw01_awake.f k).bind fun t => some t) : Ev f true :=
  Ev.congr h (Ev.bind (f := fun _ t => some t) awake_f (Ev.now _))
theorem awake_one {f : Nat → Option Bool} (h : ∀ k, f (k + 1) = (cinnabarlaw01_awake.f k).bind fun t => some t) : Ev f true :=
  Ev.step h (Ev.bind (f := fun _ t => some t) awake_f (Ev.now _))
def Fit (xs : List STok) : Prop := xs.length ≤ 140737488351232 ∧ ∀ x ∈ xs, (Lit.int .i64 x.f0).wf = true ∧ (Lit.int .i64 x.f2).wf = true ∧ x.f1.size ≤ 140737488351232
def Small (xs : List STok) : Prop := xs.length ≤ 301 ∧ ∀ x ∈ xs, x.f1.size ≤ 2000
theorem wrap_add {a b : Nat} (h : a ≤ 2000) (hb : b ≤ 140737488351232) : wrap64 ((a : Int) + (b : Int)) = ((a + b : Nat) : Int) := by
  unfold wrap64
  omega
theorem long_loop (xs : List STok) (hf : Fit xs) : ∀ (d i s : Nat), 302 - i = d → i ≤ xs.length → i ≤ 301 → s ≤ 2000 → (∀ x ∈ xs.take i, x.f1.size ≤ 2000) → ∃ b, Ev (fun k => cinnabarlaw01_long.l0 k xs (s : Int) (i : Int)) b ∧ (b = false → Small xs) := by
  intro d
  induction d with
  | zero => intro i s hd hi h1; omega
  | succ d ih =>
    intro i s hd hi h1 hs hx
    by_cases hlt : i < xs.length
    · have hrd : rd_T35 xs (i : Int) = xs[i] := by
        unfold rd_T35
        simp [List.getElem?_eq_getElem hlt]
      have hz := (hf.2 xs[i] (List.getElem_mem hlt)).2.2
      have w1 := hide (wrap_add hs hz)
      have w2 := hide (wrap_nat i (by omega))
      by_cases h2 : s + xs[i].f1.size > 2000
      · refine ⟨true, Ev.step (f := fun k => some true) (fun k => ?_) (Ev.now _), fun h => by cases h⟩
        simp only [cinnabarlaw01_long.l0, hrd, w1.out]
        rw [if_pos (by omega), if_pos (by omega), if_pos (by omega)]
      · by_cases h3 : i > 300
        · refine ⟨true, Ev.step (f := fun k => some true) (fun k => ?_) (Ev.now _), fun h => by cases h⟩
          simp only [cinnabarlaw01_long.l0, hrd, w1.out]
          rw [if_pos (by omega), if_pos (by omega), if_neg (by omega), if_pos (by omega)]
        · obtain ⟨b, he, hb⟩ := ih (i + 1) (s + xs[i].f1.size) (by omega) (by omega) (by omega) (by omega) (by
            intro x hm
            rw [List.take_succ_eq_append_getElem hlt] at hm
            rcases List.mem_append.1 hm with hm | hm
            · exact hx x hm
            · rw [List.mem_singleton.1 hm]; omega)
          refine ⟨b, Ev.step (f := fun k => cinnabarlaw01_long.l0 k xs ((s + xs[i].f1.size : Nat) : Int) ((i + 1 : Nat) : Int)) (fun k => ?_) he, hb⟩
          simp only [cinnabarlaw01_long.l0, hrd, w1.out, w2.out]
          rw [if_pos (by omega), if_pos (by omega), if_neg (by omega), if_neg (by omega)]
    · refine ⟨false, Ev.step (f := fun k => some false) (fun k => ?_) (Ev.now _), fun _ => ⟨by omega, fun x hm => hx x ?_⟩⟩
      · simp only [cinnabarlaw01_long.l0]
        rw [if_neg (by omega)]
      · rw [List.take_of_length_le (by omega)]
        exact hm
theorem long_f (xs : List STok) (hf : Fit xs) : ∃ b, Ev (fun k => cinnabarlaw01_long.f k xs) b ∧ (b = false → Small xs) := by
  obtain ⟨b, h1, h2⟩ := long_loop xs hf _ 0 0 rfl (Nat.zero_le _) (by omega) (by omega) (by simp)
  exact ⟨b, Ev.congr (fun k => rfl) h1, h2⟩
theorem small_text {xs : List STok} (hf : Fit xs) (hs : Small xs) : TkC.Text.f xs = some (B (textS (xs.map toTok)).1, ((textS (xs.map toTok)).2 : Int)) := by
  unfold TkC.Text.f
  rw [if_pos]
  refine ⟨by have := hs.1; omega, List.all_eq_true.2 fun x hx => ?_⟩
  unfold TkC.okB
  rw [(hf.2 x hx).1]
  have := hs.2 x hx
  simp
  omega
end Go.Proofs.YtgeonilideojnaaGreatDoor.Lw
end
section
namespace Go.Proofs.YtgeonilideojnaaGreatDoor.Lw
open Go Go.RowKit Tk Go.Proofs.YtgeonilideojnaaGreatDoor.Pr Go.Proofs.YtgeonilideojnaaGreatDoorW.PrintWords
open Go.ChangeShapes Go.WideShapes Go.Deep
set_option linter.unusedVariables false
set_option linter.unusedSimpArgs false
section
variable {H : Type} {enc : TypeId × Value → H} {P : Program} {w : World} {base : Nat} {spare : Nat → Bool} {held : Bool}
theorem open_slice_fields {t e : TypeId} {fs : Array Field} {fuel : Nat} {cs : List Value} {x : DataW H × List MemPlace} (ht : P.underlying t = some (.slice e)) (he : P.underlying e = some (.struct fs))
    (hone : oneCellFields P fs = true) (hC : P.cellsOf e = fs.size) (h : DataW.trod enc P w base spare held fuel t cs = some x) :
    (cs = [.slice none 0 0] ∧ x = (.nil, [])) ∨
    ∃ (a : Addr) (len cap m : Nat) (D : Nat → DataW H) (Pl : Nat → List MemPlace), cs = [.slice (some a) len cap] ∧ base ≤ a.block ∧ len ≤ cap ∧ cap ≤ maxLen ∧ m = (if spare a.block then cap else len) ∧
      x = (.slice ((List.range len).map D) ((List.range (m - len)).map fun j => D (len + j)), MemPlace.row a (m * fs.size) ++ (List.range m).flatMap Pl) ∧
      ∀ i, i < m → ∃ (ys : List (DataW H × List MemPlace)) (n : Nat), D i = .agg (ys.map (·.1)) ∧ Pl i = ys.flatMap (·.2) ∧ ys.length = fs.size ∧
        ∀ (j : Nat) (f : Field), fs[j]? = some f → ∃ (v : Value) (y : DataW H × List MemPlace), w.cell? (a.add (i * fs.size + j)) = some v ∧ ys[j]? = some y ∧ DataW.trod enc P w base spare held n f.type [v] = some y := by
  rcases open_slice ht h with h0 | ⟨a, len, cap, m, n, D, Pl, hcs, hb, hl, hm, hmm, hx, hi⟩
  · exact .inl h0
  · refine .inr ⟨a, len, cap, m, D, Pl, hcs, hb, hl, hm, hmm, by rw [hC] at hx; exact hx, fun i him => ?_⟩
    obtain ⟨cs', hc, ht'⟩ := hi i him
    rw [hC] at hc
    obtain ⟨ys, n', hn', hy, hlen, hyl, hf⟩ := DataW.trod_struct he ht'
    obtain ⟨_, hcl, hat⟩ := World.cells?_some hc
    simp only [Prod.mk.injEq] at hy
    refine ⟨ys, n', hy.1, hy.2, hyl, fun j f hj => ?_⟩
    obtain ⟨ho, hk⟩ := hone_of hone j f hj
    have hjl : j < fs.size := (Array.getElem?_eq_some_iff.1 hj).1
    have hcell := hat j hjl
    have hv : cs'[j]? = some (cs'[j]'(by omega)) := List.getElem?_eq_getElem (by omega)
    have h1 := hf j f hj
    rw [ho, hk] at h1
    have hone' : (cs'.drop j).take 1 = [cs'[j]'(by omega)] := by
      rw [List.drop_eq_getElem_cons (by omega)]
      rfl
    rw [hone'] at h1
    have hys : ys[j]? = some (ys[j]'(by omega)) := List.getElem?_eq_getElem (by omega)
    refine ⟨_, _, ?_, hys, h1.trans hys⟩
    rw [← Go.Deep.add_add, hcell, hv]
end
theorem weightsAll_mem {H : Type} {P : Program} {e : TypeId} {n : Nat} : ∀ {ds : List (DataW H)} {d : DataW H}, d ∈ ds → n ∈ d.weights P e → n ∈ DataW.weightsAll P e ds
  | d0 :: ds, d, hd, hn => by
    simp only [DataW.weightsAll, List.mem_append]
    rcases List.mem_cons.1 hd with rfl | hd
    · exact .inl hn
    · exact .inr (weightsAll_mem hd hn)
set_option maxRecDepth 100000 in
theorem open_toks {H : Type} {enc : TypeId × Value → H} {W : World} {ts : List TypeId} {ds : List (DataW H)} {base : Nat} {held : Bool} {v : Value} {d : DataW H} {p : List MemPlace}
    (hsz : (DataW.weightsEach Tryz.prog ts ds).all (· ≤ reachBytes) = true) {j : Nat} (ht : ts[j]? = some 23) (hd : ds[j]? = some d) (hv : Value.okWide Tryz.prog W .any base 23 v)
    (hk : DataW.Trod enc Tryz.prog W 0 (fun _ => true) held 23 v d p) :
    ∃ A c xs, v = .slice A xs.length c ∧ Kd.C k35 W A xs.length xs ∧ xs.length ≤ c ∧ Fit xs := by
  obtain ⟨fuel, hk⟩ := hk
  obtain ⟨a0, len, cap, rfl⟩ := okWide_slice Tryz.underlying23 hv
  rcases open_slice_fields Tryz.underlying23 Tryz.underlying35 (by kernel_rfl) (by kernel_rfl) hk with ⟨h1, h2⟩ | ⟨a, len1, cap1, m, D, Pl, h1, hb, hl, hm, hmm, hx, hf⟩
  · simp only [Value.cells, List.cons.injEq, and_true, Value.slice.injEq] at h1
    obtain ⟨rfl, rfl, rfl⟩ := h1
    exact ⟨none, 0, [], rfl, ⟨rfl, by simp, fun h => absurd h (by simp)⟩, by simp, by simp, fun x hx => by cases hx⟩
  · simp only [Value.cells, List.cons.injEq, and_true, Value.slice.injEq] at h1
    obtain ⟨rfl, rfl, rfl⟩ := h1
    have hmc : m = cap := by rw [hmm]; simp
    subst hmc
    have hdx : d = .slice ((List.range len).map D) ((List.range (m - len)).map fun j => D (len + j)) := congrArg Prod.fst hx
    have hall := List.all_eq_true.1 hsz
    have hlen : (len + (m - len)) * Tryz.prog.bytesOf 35 ≤ reachBytes := by
      have := sized_slice hsz ht (hdx ▸ hd) Tryz.underlying23
      simpa using this
    have hpos : 1 ≤ Tryz.prog.bytesOf 35 := of_decide_eq_true (by kernel_rfl)
    have hre : reachBytes ≤ 140737488351232 := by decide
    have hlr : len + (m - len) ≤ reachBytes := Nat.le_trans (Nat.le_mul_of_pos_right _ hpos) hlen
    have hcell : ∀ i, i < len → ∃ x : STok, (W.cell? (a.add (i * 3)) = some (.int .i64 x.f0) ∧ W.cell? (a.add (i * 3 + 1)) = some (.string x.f1) ∧ W.cell? (a.add (i * 3 + 2)) = some (.int .i64 x.f2)) ∧ (Lit.int .i64 x.f0).wf = true ∧ (Lit.int .i64 x.f2).wf = true ∧ x.f1.size ≤ 140737488351232 := by
      intro i hi
      obtain ⟨ys, n, hDi, _, hyl, hff⟩ := hf i (by omega)
      obtain ⟨v0, y0, c0, e0, t0⟩ := hff 0 _ rfl
      obtain ⟨v1, y1, c1, e1, t1⟩ := hff 1 _ rfl
      obtain ⟨v2, y2, c2, e2, t2⟩ := hff 2 _ rfl
      obtain ⟨k0, q0, rfl, wf0⟩ := DataW.trod_int Tryz.underlying3 t0
      obtain ⟨s1, q1, rfl, wf1⟩ := DataW.trod_string Tryz.underlying9 t1
      obtain ⟨k2, q2, rfl, wf2⟩ := DataW.trod_int Tryz.underlying3 t2
      obtain rfl := List.singleton_inj.1 q0
      obtain rfl := List.singleton_inj.1 q1
      obtain rfl := List.singleton_inj.1 q2
      refine ⟨⟨k0, s1, k2⟩, ⟨c0, c1, c2⟩, wf0, wf2, ?_⟩
      have hmem : (s1.data.toList.length : Nat) ∈ DataW.weightsEach Tryz.prog ts ds := by
        refine DataW.weights_mem_each ht hd _ ?_
        rw [hdx]
        simp only [DataW.weights, Tryz.underlying23]
        refine List.mem_cons_of_mem _ (List.mem_append_left _ (weightsAll_mem (d := D i) (List.mem_map.2 ⟨i, List.mem_range.2 hi, rfl⟩) ?_))
        rw [hDi]
        simp only [DataW.weights, Tryz.underlying35]
        refine DataW.weights_mem_each (j := 1) (t := 9) (d := .lit (.string s1.data.toList)) rfl ?_ _ (by rw [DataW.weights]; exact List.mem_singleton.2 rfl)
        rw [List.getElem?_map, e1]
        rfl
      have := hall _ hmem
      have h3 : s1.data.toList.length ≤ reachBytes := of_decide_eq_true this
      have h4 : s1.data.toList.length = s1.size := Array.length_toList
      show s1.size ≤ _
      omega
    have hch : ∃ f : Nat → STok, ∀ i, i < len → (W.cell? (a.add (i * 3)) = some (.int .i64 (f i).f0) ∧ W.cell? (a.add (i * 3 + 1)) = some (.string (f i).f1) ∧ W.cell? (a.add (i * 3 + 2)) = some (.int .i64 (f i).f2)) ∧ (Lit.int .i64 (f i).f0).wf = true ∧ (Lit.int .i64 (f i).f2).wf = true ∧ (f i).f1.size ≤ 140737488351232 :=
      ⟨fun i => if h : i < len then Classical.choose (hcell i h) else ⟨0, ByteArray.empty, 0⟩, fun i hi => by
        simp only [dif_pos hi]
        exact Classical.choose_spec (hcell i hi)⟩
    obtain ⟨f, hf2⟩ := hch
    have hL : ((List.range len).map f).length = len := by simp
    refine ⟨some a, m, (List.range len).map f, by rw [hL], ⟨by rw [hL], by rw [hL]; have := hlr; omega, fun _ => ⟨a, rfl, ?_⟩⟩, by rw [hL]; exact hl, by rw [hL]; omega, ?_⟩
    · intro i x hx
      rw [List.getElem?_map] at hx
      have hi : i < len := by
        rcases Nat.lt_or_ge i len with h | h
        · exact h
        · rw [List.getElem?_eq_none (by simpa using h)] at hx
          cases hx
      rw [List.getElem?_eq_getElem (by simpa using hi)] at hx
      simp only [List.getElem_range, Option.map_some, Option.some.injEq] at hx
      subst hx
      obtain ⟨⟨c0, c1, c2⟩, _⟩ := hf2 i hi
      refine ⟨_, rfl, k35_mk W (f i), ?_⟩
      intro q u hq
      match q, hq with
      | 0, hq => obtain rfl := Option.some.inj hq; exact c0
      | 1, hq => obtain rfl := Option.some.inj hq; exact c1
      | 2, hq => obtain rfl := Option.some.inj hq; exact c2
    · intro x hx
      obtain ⟨i, hi, rfl⟩ := List.mem_map.1 hx
      exact (hf2 i (List.mem_range.1 hi)).2
end Go.Proofs.YtgeonilideojnaaGreatDoor.Lw
end
