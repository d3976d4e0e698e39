/- A part of a proof over the package's statements: contracts of functions and plain facts, merged by a program of this session's. -/
import Derived.Deep.DeepCutAuto
import Derived.Deep.CutBlock
import Derived.Test.YtgeonilideojnaaGreatDoorRG1x1
import Derived.Test.YtgeonilideojnaaGreatDoorRG1x2
import Derived.Test.YtgeonilideojnaaGreatDoorRG1x3
import Derived.Test.YtgeonilideojnaaGreatDoorRG1x4
import Derived.Test.YtgeonilideojnaaGreatDoorRG1x5
import Derived.Test.YtgeonilideojnaaGreatDoorRG1x6
section
namespace Go.Proofs.YtgeonilideojnaaGreatDoor.Tk
open Go Go.RowKit Go.Proofs.YtgeonilideojnaaGreatDoor.Pr Go.Proofs.YtgeonilideojnaaGreatDoorW.PrintWords Go.Proofs.YtgeonilideojnaaGreatDoorW.PrintLast Go.Proofs.YtgeonilideojnaaGreatDoorW.PrintMore
set_option linter.unusedVariables false
set_option linter.unusedSimpArgs false
structure TxSt (w W : World) (b : Nat) (out : Bs) : Prop where
  bld : Bld W b (b + 1) out
  g : Below w.heap.size w W
  hb : w.heap.size ≤ b
  sz : b + 1 ≤ W.heap.size
section
variable {w W W1 : World} {b T : Nat} {out out1 : Bs}
theorem TxSt.kept (h : TxSt w W b out) (hg : W.grownBy W1 none) : TxSt w W1 b out := by
  obtain ⟨p, v, hp, hb, ho, hbB⟩ := h.bld
  exact ⟨⟨p, v, hp, hb.kept hg, ho.same hg, hbB⟩, h.g.trans ((gb_below hg).mono h.g.size), h.hb, Nat.le_trans h.sz hg.size⟩
theorem TxSt.step (h : TxSt w W b out) (hb : Bld W1 b (b + 1) out1) (hk : ∀ k, k < b + 1 → k ≠ b → W1.heap[k]? = W.heap[k]?) (h1 : W1.os = W.os) (h2 : W1.tape = W.tape) (h3 : W1.output = W.output) (h4 : W.heap.size ≤ W1.heap.size) : TxSt w W1 b out1 :=
  ⟨hb, ⟨h1.trans h.g.os, h2.trans h.g.tape, h3.trans h.g.output, Nat.le_trans h.g.size h4, fun k hkb => by
    have := h.hb
    exact (hk k (by omega) (by omega)).trans (h.g.block k hkb)⟩, h.hb, Nat.le_trans h.sz h4⟩
theorem TxSt.below (h : TxSt w W b out) (hg : Below W.heap.size W W1) : TxSt w W1 b out := h.kept (below_gb hg none)
theorem TxSt.drewN (h : TxSt w W b out) (n : Nat) : TxSt w (W.drewN n) b out := h.kept (gb_drewN (gb_refl _ _) n)
theorem TxSt.ne (h : TxSt w W b out) {t : TypeId} {cs : Array Value} (hT : Blk W T t cs) (ht : t ≠ 55) : T ≠ b := by
  rintro rfl
  obtain ⟨p, v, hp, hb, ho, hbB⟩ := h.bld
  unfold Blk at hb hT
  rw [hT] at hb
  injection hb with hb
  injection hb with _ h2
  exact ht h2
end
def tokX (x : STok) : Array Value := #[.int .i64 x.f0, .string x.f1, .int .i64 x.f2]
abbrev zT : STok := z35
def foB (ys : List STok) (k : Nat) : Bool := decide (0 < k) && ((ys.getD (k - 1) zT).f0 == 1 || (ys.getD (k - 1) zT).f0 == 2)
def vaB (ys : List STok) (k : Nat) : Bool := decide (k + 1 < ys.length) && (ys.getD (k + 1) zT).f0 == 2
def badB (fo va : Bool) (y : STok) : Bool := (y.f1.toList == [40, 40] && y.f0 == 6 && !fo) || (y.f0 == 1 && y.f1.toList == [33, 46] && !va)
def gapB (ys : List STok) (k : Nat) (y : STok) : Bool := decide (0 < k) && (ys.getD (k - 1) zT).f0 != 7 && !(y.f0 == 6 && y.f1.toList == [40, 40]) && !(y.f0 == 2 && stateS (toTok (ys.getD (k - 1) zT)))
def rawB (va : Bool) (y : STok) : Bool := stateS (toTok y) && va
def prevT (ys : List STok) (k : Nat) : Option Tok := if 0 < k then some (toTok (ys.getD (k - 1) zT)) else none
def piece (gap raw : Bool) (y : STok) : Bs := (if gap then [32] else []) ++ (if raw then y.f1.data.toList else writtenS y.f0 y.f1.data.toList) ++ (if y.f0 == 7 then [10] else [])
def folO : Option Tok → Bool
  | none => false
  | some p => p.kind == 1 || p.kind == 2
def varL : List Tok → Bool
  | [] => false
  | u :: _ => u.kind == 2
def gapO (t : Tok) : Option Tok → Bool
  | none => false
  | some p => decide (p.kind ≠ 7) && !(t.kind == 6 && t.text == [40, 40]) && !(t.kind == 2 && stateS p)
theorem textR_cons (p : Option Tok) (t : Tok) (ts : List Tok) (out : Bs) : textR p (t :: ts) out =
    if (t.text == [40, 40] && t.kind == 6 && !folO p) || (t.kind == 1 && t.text == [33, 46] && !varL ts) then none
    else textR (some t) ts (out ++ (if gapO t p then [32] else []) ++ (if stateS t && varL ts then t.text else writtenS t.kind t.text) ++ (if t.kind == 7 then [10] else [])) := by
  cases p <;> cases ts <;> rfl
theorem text_step (ys : List STok) (k : Nat) (hk : k < ys.length) (y : STok) (hy : y = ys.getD k zT) (out : Bs) :
    textR (prevT ys k) ((ys.drop k).map toTok) out = if badB (foB ys k) (vaB ys k) y then none else textR (prevT ys (k + 1)) ((ys.drop (k + 1)).map toTok) (out ++ piece (gapB ys k y) (rawB (vaB ys k) y) y) := by
  have e1 : ys.drop k = y :: ys.drop (k + 1) := by
    rw [List.drop_eq_getElem_cons hk, hy]
    simp [List.getD_eq_getElem?_getD, List.getElem?_eq_getElem hk]
  have e2 : prevT ys (k + 1) = some (toTok y) := by
    unfold prevT
    rw [if_pos (by omega), hy]
    rfl
  have e3 : varL ((ys.drop (k + 1)).map toTok) = vaB ys k := by
    unfold vaB
    by_cases h : k + 1 < ys.length
    · rw [List.drop_eq_getElem_cons h]
      show ((toTok ys[k + 1]).kind == 2) = _
      simp [h, List.getD_eq_getElem?_getD, List.getElem?_eq_getElem h, toTok]
    · rw [List.drop_eq_nil_of_le (by omega)]
      simp [h, varL]
  have e4 : folO (prevT ys k) = foB ys k := by
    unfold prevT foB
    by_cases h : 0 < k
    · simp [h, toTok, folO]
    · simp [h, folO]
  have e5 : gapO (toTok y) (prevT ys k) = gapB ys k y := by
    unfold prevT gapB
    by_cases h : 0 < k
    · rw [if_pos h]
      simp only [h, decide_true, Bool.true_and, toList_data, gapO]
      have : decide ((toTok (ys.getD (k - 1) zT)).kind ≠ 7) = ((ys.getD (k - 1) zT).f0 != 7) := by
        rw [Bool.eq_iff_iff]; simp [toTok]
      rw [this]
      rfl
    · rw [if_neg h]
      simp [h, gapO]
  have e6 : ((toTok y).text == [40, 40] && (toTok y).kind == 6 && !foB ys k || (toTok y).kind == 1 && (toTok y).text == [33, 46] && !vaB ys k) = badB (foB ys k) (vaB ys k) y := by
    unfold badB
    rw [toList_data]
    rfl
  rw [e1, e2, List.map_cons, textR_cons, e3, e4, e5, e6]
  cases badB (foB ys k) (vaB ys k) y with
  | true => rfl
  | false =>
    simp only [Bool.false_eq_true, if_false]
    congr 1
    unfold piece rawB
    simp only [List.append_assoc]
    rfl
def txOut : Option Bs → Bs × Nat
  | none => ([], 2)
  | some o => if 65536 < o.length then ([], 6) else (o, 0)
section
set_option maxHeartbeats 8000000
set_option maxRecDepth 100000
theorem text_loop (A : Option Addr) (c : Nat) (ys : List STok) (R : Option Bs) (w : World) (hC : Kd.C k35 w A ys.length ys) (hc : ys.length ≤ c) (hn : ys.length ≤ 65536) (hok : ∀ x ∈ ys, okT x) (h6 : ∀ x ∈ ys, x.f0 = 6 → x.f1.size ≠ 0) (hE : EnvW w) (hR : textR none (ys.map toTok) [] = R)
    (h0 : firstS (ys.map toTok) = 0) (hend : endAt ys = ys.length) :
    Calls Tryz.prog 14 #[.slice A ys.length c] w fun e w' => e = .returned (.tuple #[.string (B (txOut R).1), .int .i64 ((txOut R).2 : Int)]) ∧ Below w.heap.size w w' := by
  obtain ⟨kf, hkf⟩ := (first_f ys (by omega) hok).rounds
  rw [h0] at hkf
  replace hkf := hide hkf
  replace hC := hide hC
  replace hR := hide hR
  have hid : idxEnd ys = -1 := by unfold idxEnd; rw [if_neg (by omega)]
  have hidx := IdxTok_calls A c ys w hC.out hn
  rw [hid] at hidx
  replace hidx := hide hidx
  replace hok := hide hok
  replace h6 := hide h6
  clear hid h0 hend
  go_enter Tryz.func14, Tryz.ntmps14
  go_wp2_with (first | (go_at_call 24; refine hidx.out.mono ?_; rintro e w1 ⟨rfl, hb1⟩; have HB1 := hide hb1; clear hb1) | (go_at_call 26; refine (tokens_first.calls kf A c ys 0 _ (by exact Kd.C_below hC.out HB1.out) hc (by exact hE.below HB1.out) hkf.out).mono ?_; rintro e w2 ⟨rfl, hb2⟩; have HB2 := hide (HB1.out.trans (hb2.mono HB1.out.size)); clear hb2))
  generalize hbb : w2.heap.size = b
  refine code_forget (fun W => TxSt w W b []) (by
    subst hbb
    have e1 : (w2.alloc (.cells #[.pointer none, .slice none 0 0] 55)).heap.size = w2.heap.size + 1 := Array.size_push ..
    exact ⟨⟨_, _, .inl rfl, Blk.new w2 _ _, OwnB.nil _ _, by omega⟩, HB2.out.alloc HB2.out.size _, HB2.out.size, by omega⟩) ?_
  clear HB1 HB2 hidx hkf
  intro W HS
  replace HS := hide HS
  go_loopw [38] (fun v wr => ∃ (k : Nat) (out : Bs), k ≤ ys.length ∧ v = .int .i64 (k : Int) ∧ TxSt w wr b out ∧ out.length ≤ k * 200000 ∧ Hid (textR (prevT ys k) ((ys.drop k).map toTok) out = R)) (fun v _ => ys.length - (intOf v).toNat)
  case atStart => exact ⟨0, [], Nat.zero_le _, rfl, HS.out, by simp, by rw [← hR.out]; exact hide rfl⟩
  case round =>
    clear HS
    obtain ⟨k, out, hk, rfl, HS, hol, hinv⟩ := hrel
    replace HS := hide HS
    by_cases hlt : k < ys.length
    · obtain ⟨wo, rfl⟩ : ∃ wo : World, wo = wr := ⟨_, rfl⟩
      have hCo := hide (Kd.C_below hC.out HS.out.g)
      obtain ⟨ad, rfl, c0, c1, c2⟩ := at_T35 hCo.out (k : Int) (by omega) (by omega)
      have hx : rd_T35 ys (k : Int) = ys.getD k zT := by simp [rd_T35, zT]
      simp only [Int.toNat_natCast, hx] at c0 c1 c2
      clear hx
      obtain ⟨y, hy⟩ : ∃ y, y = ys.getD k zT := ⟨_, rfl⟩
      rw [← hy] at c0 c1 c2
      have hym : y ∈ ys := by rw [hy, List.getD_eq_getElem?_getD, List.getElem?_eq_getElem hlt]; exact List.getElem_mem hlt
      have hyok := hide (hok.out y hym)
      have hwr := hide (written_f y (hok.out y hym) (h6.out y hym))
      clear hym
      have hst := hide (text_step ys k hlt y hy out)
      replace hy := hide hy
      go_upto_region 14 with fail
      refine code_forget (fun W => TxSt w W b out ∧ Blk W wo.heap.size 35 (tokX y)) (by exact ⟨HS.out.kept (World.grownBy_alloc _ _ none), Blk.new _ _ _⟩) ?_
      clear c0 c1 c2 hCo HS
      generalize hT : wo.heap.size = T
      intro W1 H1
      replace H1 := hide H1
      have hCo := hide (Kd.C_below hC.out H1.out.1.g)
      go_cut [10] (fun s10 wx => s10 = .bool (foB ys k) ∧ TxSt w wx b out ∧ Blk wx T 35 (tokX y))
      case first =>
        by_cases k0 : 0 < k
        · obtain ⟨ad', e', p0, p1, p2⟩ := at_T35 hCo.out ((k : Int) - 1) (by omega) (by omega)
          cases e'
          have hx : rd_T35 ys ((k : Int) - 1) = ys.getD (k - 1) zT := by unfold rd_T35; rw [show ((k : Int) - 1).toNat = k - 1 by omega]
          have e3 : ((k : Int) - 1).toNat = k - 1 := by omega
          rw [hx, e3] at p0 p1 p2
          have hf := hide (show foB ys k = ((ys.getD (k - 1) zT).f0 == 1 || (ys.getD (k - 1) zT).f0 == 2) by simp [foB, k0])
          generalize ys.getD (k - 1) zT = q at p0 p1 p2 hf
          clear hx
          have hk0 : (0 : Int) < (k : Int) := by omega
          go_wp2
          all_goals
            go_meet
            case rel => exact ⟨congrArg Value.bool (by first | (rw [hf.out]; done) | (rw [hf.out]; simp [*])), H1.out.1, H1.out.2⟩
        · have hf := hide (show foB ys k = false by simp [foB, k0])
          have hk0 : ¬ (0 : Int) < (k : Int) := by omega
          go_wp2
          go_meet
          case rel => exact ⟨congrArg Value.bool (by rw [hf.out]), H1.out.1, H1.out.2⟩
      case rest =>
        obtain ⟨rfl, HS, HT⟩ := hcut
        clear H1 hCo
        have H1 := hide (And.intro HS HT)
        clear HS HT
        have hCo := hide (Kd.C_below hC.out H1.out.1.g)
        generalize hfo : foB ys k = fo at hst ⊢
        replace hfo := hide hfo
        go_upto_region 15 with fail
        go_cut [11] (fun s11 wx => s11 = .bool (vaB ys k) ∧ TxSt w wx b out ∧ Blk wx T 35 (tokX y))
        case first =>
          by_cases k0 : k + 1 < ys.length
          · obtain ⟨ad', e', p0, p1, p2⟩ := at_T35 hCo.out ((k : Int) + 1) (by omega) (by omega)
            cases e'
            have e3 : ((k : Int) + 1).toNat = k + 1 := by omega
            have hx : rd_T35 ys ((k : Int) + 1) = ys.getD (k + 1) zT := by unfold rd_T35; rw [e3]
            rw [hx, e3] at p0 p1 p2
            have hf := hide (show vaB ys k = ((ys.getD (k + 1) zT).f0 == 2) by simp [vaB, k0])
            generalize ys.getD (k + 1) zT = q at p0 p1 p2 hf
            clear hx
            have hk0 : (k : Int) + 1 < (ys.length : Int) := by omega
            go_wp2
            all_goals
              go_meet
              case rel => exact ⟨congrArg Value.bool (by rw [hf.out]), H1.out.1, H1.out.2⟩
          · have hf := hide (show vaB ys k = false by simp [vaB, k0])
            have hk0 : ¬ (k : Int) + 1 < (ys.length : Int) := by omega
            go_wp2
            go_meet
            case rel => exact ⟨congrArg Value.bool (by rw [hf.out]), H1.out.1, H1.out.2⟩
        case rest =>
          obtain ⟨rfl, HS, HT⟩ := hcut
          clear H1 hCo
          have t0 : wc.cell? ⟨T, 0, none⟩ = some (.int .i64 y.f0) := HT.cell 0
          have t1 : wc.cell? ⟨T, 1, none⟩ = some (.string y.f1) := HT.cell 1
          have t2 : wc.cell? ⟨T, 2, none⟩ = some (.int .i64 y.f2) := HT.cell 2
          have H1 := hide (And.intro HS HT)
          clear HS HT
          generalize hva : vaB ys k = va at hst ⊢
          replace hva := hide hva
          go_upto_region 16 with fail
          go_cut [10, 11, 102] (fun s10 s11 s wx => s10 = .bool fo ∧ s11 = .bool va ∧ s = .bool (badB fo va y) ∧ TxSt w wx b out ∧ Blk wx T 35 (tokX y))
          case first =>
            go_wp2
            all_goals
              go_meet
              case rel => exact ⟨by simp [*], by simp [*], congrArg Value.bool (by unfold badB; simp [*]), H1.out.1, H1.out.2⟩
          case rest =>
            obtain ⟨rfl, rfl, rfl, HS, HT⟩ := hcut
            clear H1 t0 t1 t2
            have t0 : wc.cell? ⟨T, 0, none⟩ = some (.int .i64 y.f0) := HT.cell 0
            have t1 : wc.cell? ⟨T, 1, none⟩ = some (.string y.f1) := HT.cell 1
            have t2 : wc.cell? ⟨T, 2, none⟩ = some (.int .i64 y.f2) := HT.cell 2
            have H1 := hide (And.intro HS HT)
            clear HS HT
            cases hbad : badB fo va y with
            | true =>
              have hR2 := hide (show R = none by rw [← hinv.out, hst.out, hbad]; rfl)
              go_wp2
              go_ret2
              exact ⟨by rw [hR2.out]; rfl, H1.out.1.g⟩
            | false =>
              have hR2 := hide (show textR (prevT ys (k + 1)) ((ys.drop (k + 1)).map toTok) (out ++ piece (gapB ys k y) (rawB va y) y) = R by rw [← hinv.out, hst.out, hbad]; simp)
              clear hbad hst hinv
              go_upto_region 18 with fail
              obtain ⟨gap, hgap⟩ : ∃ g, g = gapB ys k y := ⟨_, rfl⟩
              rw [← hgap] at hR2
              replace hgap := hide hgap
              have hCo := hide (Kd.C_below hC.out H1.out.1.g)
              go_cut [11, 138] (fun s11 s wx => s11 = .bool va ∧ s = .bool gap ∧ TxSt w wx b out ∧ Blk wx T 35 (tokX y))
              case first =>
                by_cases k0 : 0 < k
                · obtain ⟨ad', e', p0, p1, p2⟩ := at_T35 hCo.out ((k : Int) - 1) (by omega) (by omega)
                  cases e'
                  have hx : rd_T35 ys ((k : Int) - 1) = ys.getD (k - 1) zT := by unfold rd_T35; rw [show ((k : Int) - 1).toNat = k - 1 by omega]
                  have e3 : ((k : Int) - 1).toNat = k - 1 := by omega
                  rw [hx, e3] at p0 p1 p2
                  have hf := hide (show gapB ys k y = ((ys.getD (k - 1) zT).f0 != 7 && !(y.f0 == 6 && y.f1.toList == [40, 40]) && !(y.f0 == 2 && stateS (toTok (ys.getD (k - 1) zT)))) by simp [gapB, k0])
                  generalize ys.getD (k - 1) zT = q at p0 p1 p2 hf
                  clear hx
                  have hk0 : (0 : Int) < (k : Int) := by omega
                  obtain ⟨sq, hsq⟩ : ∃ s, s = stateS (toTok q) := ⟨_, rfl⟩
                  have hsf := state_f q
                  rw [← hsq] at hf hsf
                  replace hsf := hide hsf
                  clear hsq
                  go_wp2_with (first | (go_at_call 27; refine (tokens_state.calls q.f0 q.f1 q.f2 _ _ hsf.out).mono ?_; rintro e w5 ⟨rfl, hb5⟩; have H5 := hide (And.intro (H1.out.1.below hb5) (H1.out.2.kept (below_gb hb5 none)))))
                  all_goals
                    go_meet
                    case rel => exact ⟨by simp [*], congrArg Value.bool (by rw [hgap.out, hf.out];  cases a6 : (y.f0 == 6) <;> cases a40 : (y.f1.toList == [40, 40]) <;> cases a2 : (y.f0 == 2) <;> cases sq <;> simp_all), by first | exact H5.out.1 | exact H1.out.1, by first | exact H5.out.2 | exact H1.out.2⟩
                · have hf := hide (show gapB ys k y = false by simp [gapB, k0])
                  have hk0 : ¬ (0 : Int) < (k : Int) := by omega
                  go_wp2
                  go_meet
                  case rel => exact ⟨by simp [*], congrArg Value.bool (by rw [hgap.out, hf.out]), H1.out.1, H1.out.2⟩
              case rest =>
                obtain ⟨rfl, rfl, HS, HT⟩ := hcut
                clear H1 hCo t0 t1 t2
                have H1 := hide (And.intro HS HT)
                clear HS HT
                have hsz := H1.out.1.sz
                go_upto_if 138 with fail
                go_cut [11] (fun s11 wx => s11 = .bool va ∧ TxSt w wx b (out ++ (if gap then [32] else [])) ∧ Blk wx T 35 (tokX y))
                case first =>
                  cases hg : gap with
                  | true =>
                    go_wp2_with (first | (go_at_call 28; refine (writeByte_own2 b (b + 1) out 32 _ (by exact H1.out.1.bld) (by omega) hsz).mono ?_; rintro e w5 ⟨rfl, hb5, hk5, ho5, ht5, hp5, hs5, hke5⟩; have H5 := hide (And.intro (H1.out.1.step hb5 hk5 ho5 ht5 hp5 hs5) (hke5 _ _ _ H1.out.2 (H1.out.1.ne H1.out.2 (by decide)) (by decide)))))
                    go_meet
                    case rel => exact ⟨rfl, by rw [hg]; exact H5.out.1, H5.out.2⟩
                  | false =>
                    go_wp2
                    go_meet
                    case rel => exact ⟨rfl, by rw [hg]; simpa using H1.out.1, H1.out.2⟩
                case rest =>
                  obtain ⟨rfl, HS, HT⟩ := hcut
                  clear H1 hsz
                  have t0 : wc.cell? ⟨T, 0, none⟩ = some (.int .i64 y.f0) := HT.cell 0
                  have t1 : wc.cell? ⟨T, 1, none⟩ = some (.string y.f1) := HT.cell 1
                  have t2 : wc.cell? ⟨T, 2, none⟩ = some (.int .i64 y.f2) := HT.cell 2
                  have H1 := hide (And.intro HS HT)
                  clear HS HT
                  obtain ⟨sy, hsy⟩ : ∃ s, s = stateS (toTok y) := ⟨_, rfl⟩
                  have hsf := state_f y
                  rw [← hsy] at hsf
                  replace hsf := hide hsf
                  have hraw := hide (show rawB va y = (sy && va) by rw [hsy]; rfl)
                  clear hsy
                  go_upto_region 20 with fail
                  go_cut [11, 144] (fun s11 s wx => s11 = .bool va ∧ s = .bool (sy && va) ∧ TxSt w wx b (out ++ (if gap then [32] else [])) ∧ Blk wx T 35 (tokX y))
                  case first =>
                    go_wp2_with (first | (go_at_call 27; refine (tokens_state.calls y.f0 y.f1 y.f2 _ _ hsf.out).mono ?_; rintro e w5 ⟨rfl, hb5⟩; have H5 := hide (And.intro (H1.out.1.below hb5) (H1.out.2.kept (below_gb hb5 none)))))
                    all_goals
                      go_meet
                      case rel => exact ⟨by simp [*], congrArg Value.bool (by simp [*]), H5.out.1, H5.out.2⟩
                  case rest =>
                    obtain ⟨rfl, rfl, HS, HT⟩ := hcut
                    clear H1 t0 t1 t2
                    have t0 : wc.cell? ⟨T, 0, none⟩ = some (.int .i64 y.f0) := HT.cell 0
                    have t1 : wc.cell? ⟨T, 1, none⟩ = some (.string y.f1) := HT.cell 1
                    have t2 : wc.cell? ⟨T, 2, none⟩ = some (.int .i64 y.f2) := HT.cell 2
                    have H1 := hide (And.intro HS HT)
                    clear HS HT
                    have hsz := H1.out.1.sz
                    have hgl : (out ++ (if gap then ([32] : Bs) else [])).length ≤ out.length + 1 := by cases gap <;> simp
                    have hyl : y.f1.data.toList.length ≤ 65536 := hyok.out.2
                    have hwl := written_len y.f0 y.f1.data.toList
                    have hfin := hide (show textR (prevT ys (k + 1)) ((ys.drop (k + 1)).map toTok) ((out ++ (if gap then [32] else [])) ++ (if (sy && va) then y.f1.data.toList else writtenS y.f0 y.f1.data.toList) ++ (if y.f0 == 7 then [10] else [])) = R by rw [← hR2.out, ← hraw.out]; unfold piece; simp only [List.append_assoc])
                    have hol2 : ((out ++ (if gap then [32] else [])) ++ (if (sy && va) then y.f1.data.toList else writtenS y.f0 y.f1.data.toList) ++ (if y.f0 == 7 then ([10] : Bs) else [])).length ≤ (k + 1) * 200000 := by
                      cases gap <;> cases (sy && va) <;> cases (y.f0 == 7) <;> simp only [Bool.false_eq_true, if_true, if_false, List.length_append, List.length_cons, List.length_nil] <;> omega
                    generalize (out ++ (if gap then ([32] : Bs) else [])) = o1 at H1 hgl hfin hol2 ⊢
                    clear hR2 hraw hgap
                    have hB1 : B y.f1.data.toList = y.f1 := B_of _
                    have hws : ∀ W W2, Calls Tryz.prog 29 #[.pointer (some ⟨b, 0, none⟩), .string (B y.f1.data.toList)] W W2 → Calls Tryz.prog 29 #[.pointer (some ⟨b, 0, none⟩), .string y.f1] W W2 := by intro W W2 h; rwa [B_of] at h
                    replace hws := hide hws
                    clear hB1
                    go_upto_if 144 with fail
                    go_cut [11] (fun s11 wx => s11 = .bool va ∧ TxSt w wx b (o1 ++ (if (sy && va) then y.f1.data.toList else writtenS y.f0 y.f1.data.toList)) ∧ Blk wx T 35 (tokX y))
                    case first =>
                      cases hg : (sy && va) with
                      | true =>
                        go_wp2_with (first | (go_at_call 29; refine (hws.out _ _ (writeString_own2 b (b + 1) o1 y.f1.data.toList _ (by exact H1.out.1.bld) (by omega) hsz)).mono ?_; rintro e w5 ⟨rfl, hb5, hk5, ho5, ht5, hp5, hs5, hke5⟩; have H5 := hide (And.intro (H1.out.1.step hb5 hk5 ho5 ht5 hp5 hs5) (hke5 _ _ _ H1.out.2 (H1.out.1.ne H1.out.2 (by decide)) (by decide)))))
                        go_meet
                        case rel => exact ⟨rfl, by rw [hg]; exact H5.out.1, H5.out.2⟩
                      | false =>
                        go_wp2_with (first | (go_at_call 30; refine (tokens_written.calls y.f0 y.f1 y.f2 _ _ (by exact hE.below H1.out.1.g) hwr.out).mono ?_; rintro e w4 ⟨rfl, hb4⟩; have H4 := hide (And.intro (H1.out.1.below hb4) (H1.out.2.kept (below_gb hb4 none))); have hsz4 := H4.out.1.sz) | (go_at_call 29; refine (writeString_own2 b (b + 1) o1 (writtenS y.f0 y.f1.data.toList) _ (by exact H4.out.1.bld) (by omega) hsz4).mono ?_; rintro e w5 ⟨rfl, hb5, hk5, ho5, ht5, hp5, hs5, hke5⟩; have H5 := hide (And.intro (H4.out.1.step hb5 hk5 ho5 ht5 hp5 hs5) (hke5 _ _ _ H4.out.2 (H4.out.1.ne H4.out.2 (by decide)) (by decide)))))
                        go_meet
                        case rel => exact ⟨rfl, by rw [hg]; exact H5.out.1, H5.out.2⟩
                    case rest =>
                      obtain ⟨rfl, HS, HT⟩ := hcut
                      clear H1 hsz t0 t1 t2
                      have t0 : wc.cell? ⟨T, 0, none⟩ = some (.int .i64 y.f0) := HT.cell 0
                      have hsz := HS.sz
                      have H1 := hide (And.intro HS HT)
                      clear HS HT
                      have hol3 : (o1 ++ (if (sy && va) then y.f1.data.toList else writtenS y.f0 y.f1.data.toList)).length ≤ o1.length + 200000 := by
                        cases (sy && va) <;> simp only [Bool.false_eq_true, if_true, if_false, List.length_append] <;> omega
                      have hol4 : o1.length ≤ 65537 * 200000 := by omega
                      generalize (o1 ++ (if (sy && va) then y.f1.data.toList else writtenS y.f0 y.f1.data.toList)) = o2 at H1 hfin hol2 hol3 ⊢
                      cases h7 : (y.f0 == 7) with
                      | true =>
                        rw [h7] at hfin hol2
                        go_wp2_with (first | (go_at_call 28; refine (writeByte_own2 b (b + 1) o2 10 _ (by exact H1.out.1.bld) (by omega) hsz).mono ?_; rintro e w5 ⟨rfl, hb5, hk5, ho5, ht5, hp5, hs5, hke5⟩; have H5 := hide (H1.out.1.step hb5 hk5 ho5 ht5 hp5 hs5)))
                        go_roundw
                        case rel => exact ⟨k + 1, _, by omega, by go_num, H5.out, by simpa using hol2, by simpa using hfin⟩
                        case measure => simp [intOf]; omega
                      | false =>
                        rw [h7] at hfin hol2
                        go_wp2
                        go_roundw
                        case rel => exact ⟨k + 1, _, by omega, by go_num, H1.out.1, by simpa using hol2, by simpa using hfin⟩
                        case measure => simp [intOf]; omega
    · have hkk : k = ys.length := by omega
      subst hkk
      have hR2 := hide (show some out = R by rw [← hinv.out]; simp [textR])
      have hsz := HS.out.sz
      go_wp2_with (first | (go_at_call 31; refine (len_own b (b + 1) out _ (by exact HS.out.bld)).mono ?_; rintro e w5 ⟨rfl, rfl⟩) | (go_at_call 32; refine (string_own b (b + 1) out _ (by exact HS.out.bld)).mono ?_; rintro e w6 ⟨rfl, hb6⟩))
      · go_ret2
        have : 65536 < out.length := by omega
        exact ⟨by rw [← hR2.out]; simp [txOut, this]; rfl, HS.out.g⟩
      · go_ret2
        have : ¬ 65536 < out.length := by omega
        exact ⟨by rw [← hR2.out]; simp [txOut, this], HS.out.g.trans (hb6.mono HS.out.hb)⟩
end
end Go.Proofs.YtgeonilideojnaaGreatDoor.Tk
end
