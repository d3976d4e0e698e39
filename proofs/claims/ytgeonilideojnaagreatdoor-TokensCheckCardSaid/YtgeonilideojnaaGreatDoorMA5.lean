/- A part of a proof over the package's statements: contracts of functions and plain facts, merged by a program of this session's out of the texts in wip/src. -/
import Derived.Test.YtgeonilideojnaaGreatDoorMA4
import Derived.Test.YtgeonilideojnaaGreatDoorMA1
import Derived.Test.YtgeonilideojnaaGreatDoorProg
import Derived.Below
import Derived.Deep.Draws
import Derived.Deep.AppendLies
import Derived.Maps.AppendAt
import Derived.OwnWalk
import Derived.Laws.BytesArg
import Derived.Laws.MakeOwn
import Derived.Laws.OwnMore
import Derived.Deep.OwnRows
import Derived.Tactics
import Derived.Lib.ConvBytes
import Derived.Laws.Slices
import Derived.WalkKit
import Derived.KernelRfl
import Derived.RowKit3
import Derived.Deep.LoopGhost
import Derived.Deep.QuietTactic
import Derived.BigQuiet
import Derived.WideLaws
import Derived.Deep.DeepCutAuto
import Derived.Deep.CutBlock
import Derived.Deep.RegionHeld3
import Derived.Laws.Rows
import Derived.Lib.AppendStr
import Derived.ArgAppend
import Derived.Laws.IdiomCopy
import Derived.OrdersHeld
import Derived.Laws.BitsLemmas
import Derived.RowKit
import Derived.Test.YtgeonilideojnaaGreatDoorWTab
import Derived.Test.YtgeonilideojnaaGreatDoorWRepsOne
import Derived.Test.YtgeonilideojnaaGreatDoorWMore
import Derived.Test.YtgeonilideojnaaGreatDoorMA2
/- Tokens: what its walk shares. -/
namespace Go.Proofs.YtgeonilideojnaaGreatDoor.Tk
open Go Go.RowKit
set_option linter.unusedVariables false
set_option linter.unusedSimpArgs false
/-- The cells of tokens in a row. -/
def tokVals (ts : List Tok) : List Value := ts.flatMap fun t => [.int .i64 t.kind, .string (B t.text), .int .i64 t.at_]
def OwnT (w : World) (base : Nat) (v : Value) (ts : List Tok) : Prop := w.ownsRow base 35 3 v ts.length (tokVals ts)
theorem OwnT.nil (w : World) (base : Nat) : OwnT w base (.slice none 0 0) [] := World.ownsRow_nil w base _ _
theorem OwnT.kept {w w1 : World} {base : Nat} {v : Value} {l : List Tok} (h : OwnT w base v l) {b : Nat} (hg : w.grownBy w1 (some b)) (hb : b < base) : OwnT w1 base v l := own_kept h hg hb
theorem OwnT.same {w w1 : World} {base : Nat} {v : Value} {l : List Tok} (h : OwnT w base v l) (hg : w.grownBy w1 none) : OwnT w1 base v l := own_none h hg
/-- What Tokens leaves. -/
def TokPost (w : World) (e : Ending) (w' : World) : Res → Prop
  | .fault i c => e = .returned (.tuple #[.slice none 0 0, .agg #[.int .i64 (i : Int), .int .i64 (c : Int)]]) ∧ w.grownBy w' none
  | .toks ts => ∃ v, e = .returned (.tuple #[v, .agg #[.int .i64 0, .int .i64 0]]) ∧ w.grownBy w' none ∧ OwnT w' w.heap.size v ts
/-- What Tokens has in hand: its results' blocks L and F, the scanner's block S. -/
structure TsSt (w W : World) (L F S : Nat) (l : Bs) (i : Nat) (v : Value) (acc : List Tok) : Prop where
  bl : Blk W L 23 #[v]
  bf : Blk W F 26 #[.int .i64 0, .int .i64 0]
  sc : Sc W S l i
  own : OwnT W (S + 1) v acc
  g : Below w.heap.size w W
  hL : w.heap.size = L
  hF : L + 1 = F
  hS : F + 1 = S
section
variable {w W W1 : World} {L F S : Nat} {l : Bs} {i j : Nat} {v : Value} {acc : List Tok}
theorem TsSt.step (h : TsSt w W L F S l i v acc) {m : Nat} (hS : Sc W1 S l m) (hg : W.grownBy W1 (some S)) : TsSt w W1 L F S l m v acc :=
  ⟨h.bl.grown hg (by have := h.hF; have := h.hS; simp; omega), h.bf.grown hg (by have := h.hS; simp; omega), hS, h.own.kept hg (by omega),
   h.g.grown hg h.g.size (by intro k hk; cases hk; have := h.hL; have := h.hF; have := h.hS; omega), h.hL, h.hF, h.hS⟩
theorem TsSt.kept (h : TsSt w W L F S l i v acc) (hg : W.grownBy W1 none) : TsSt w W1 L F S l i v acc := h.step (h.sc.kept hg) (gb_any hg _)
theorem TsSt.env (h : TsSt w W L F S l i v acc) (hE : Env w) (hsz : 8 ≤ w.heap.size) : Env W := by
  obtain ⟨w0, h1, h2, h3⟩ := hE
  exact ⟨w0, h1, h2, h3.trans (h.g.mono hsz)⟩
theorem TsSt.init (hsz : 8 ≤ w.heap.size) : TsSt w (((w.alloc (.cells #[.slice none 0 0] 23)).alloc (.cells #[.int .i64 0, .int .i64 0] 26)).alloc (.cells #[.string (B l), .int .i64 0] 45)) w.heap.size (w.heap.size + 1) (w.heap.size + 1 + 1) l 0 (.slice none 0 0) [] := by
  have e1 : (w.alloc (.cells #[.slice none 0 0] 23)).heap.size = w.heap.size + 1 := Array.size_push ..
  have e2 : ((w.alloc (.cells #[.slice none 0 0] 23)).alloc (.cells #[.int .i64 0, .int .i64 0] 26)).heap.size = w.heap.size + 2 := by
    rw [show w.heap.size + 2 = (w.alloc (.cells #[.slice none 0 0] 23)).heap.size + 1 by rw [e1]]
    exact Array.size_push ..
  have b1 := Blk.new (w.alloc (.cells #[.slice none 0 0] 23)) 26 #[.int .i64 0, .int .i64 0]
  have b2 := Blk.new ((w.alloc (.cells #[.slice none 0 0] 23)).alloc (.cells #[.int .i64 0, .int .i64 0] 26)) 45 #[.string (B l), .int .i64 0]
  rw [e1] at b1
  rw [e2] at b2
  exact ⟨((Blk.new w _ _).alloc _).alloc _, b1.alloc _, ⟨b2, by omega⟩, OwnT.nil _ _, (((Below.refl _ _).alloc (Nat.le_refl _) _).alloc (by rw [e1]; omega) _).alloc (by rw [e2]; omega) _, rfl, rfl, rfl⟩
end
section
variable {ops : Array Oper} {rest : List Oper} {o : Oper} {a : Act} {Q : Exit → Act → World → Prop}
/-- append(l, t) of a token: behind 'at_builtin'. -/
theorem append_tok {W : World} (hgd : o.guard = none) (s x : Operand) (ho : o.op = .call { callee := .builtin .append, args := #[s, x], argTypes := #[23, 23] })
    (base : Nat) (v : Value) (l : List Tok) (t : Tok) (gS : Nat) (hgS : W.heap.size = gS) (hs : a.eval s = v) (hx : a.eval x = .slice (some ⟨gS, 0, none⟩) 1 1)
    (HO : OwnT W base v l) (hbase : base ≤ W.heap.size) (hl : l.length ≤ 65536)
    (h : ∀ v1 w1, OwnT w1 base v1 (l ++ [t]) → W.grownBy w1 v.ownBlock → (∀ k, v.ownBlock = some k → base ≤ k) → wpList Tryz.prog ops Q rest (a.put o.dst v1) w1) :
    wpList Tryz.prog ops Q (o :: rest) a (W.alloc (.cells #[.int .i64 t.kind, .string (B t.text), .int .i64 t.at_] 35)) := by
  subst hgS
  refine wp_append1 hgd s x 23 35 (.agg #[.int .i64 0, .string ⟨#[]⟩, .int .i64 0]) 3 32 ho Tryz.underlying23 (by kernel_rfl) rfl (by omega) base v l.length (tokVals l) hs hx _ rfl (by simp [Value.oneCell']) HO hbase (by simp [maxLen]; omega) (by omega) ?_
  intro v1 w1 ho1 hg1 hk1
  refine h v1 w1 ?_ hg1 hk1
  unfold OwnT tokVals at *
  simpa using ho1
end
theorem tokVals_len : ∀ ts : List Tok, (tokVals ts).length = 3 * ts.length
  | [] => rfl
  | t :: ts => by
    have := tokVals_len ts
    unfold tokVals at *
    simp [this]
    omega
theorem tokVals_kind (ts : List Tok) (p : Tok) : (tokVals (ts ++ [p]))[ts.length * 3]? = some (.int .i64 p.kind) := by
  have e : tokVals (ts ++ [p]) = tokVals ts ++ [.int .i64 p.kind, .string (B p.text), .int .i64 p.at_] := by
    unfold tokVals
    simp
  rw [e, List.getElem?_append_right (by rw [tokVals_len]; omega), tokVals_len, show ts.length * 3 - 3 * ts.length = 0 by omega]
  rfl
/-- The slice of tokens, as it lies. -/
theorem OwnT.cases {w : World} {base : Nat} {v : Value} {ts : List Tok} (h : OwnT w base v ts) : (v = .slice none 0 0 ∧ ts = []) ∨ ∃ g cap, v = .slice (some ⟨g, 0, none⟩) ts.length cap ∧ base ≤ g ∧ ∀ j u, (tokVals ts)[j]? = some u → w.cell? ⟨g, j, none⟩ = some u := by
  rcases h.2 with ⟨hv, hn⟩ | ⟨g, cap, cur, hv, hb, hrest⟩
  · exact .inl ⟨hv, List.eq_nil_of_length_eq_zero hn⟩
  · subst hv
    refine .inr ⟨g, cap, rfl, hb, fun j u hj => ?_⟩
    have hc := World.ownsRow.cells (h := h) (g := g) rfl j u hj
    have ha : (⟨g, 0, none⟩ : Addr).add j = ⟨g, j, none⟩ := by unfold Addr.add; split <;> simp_all
    rwa [ha] at hc
theorem OwnT.some_ {w : World} {base : Nat} {v : Value} {ts : List Tok} {t : Tok} (h : OwnT w base v (ts ++ [t])) : ∃ g n cap, v = .slice (some ⟨g, 0, none⟩) n cap := by
  rcases h.cases with ⟨_, h⟩ | ⟨g, cap, h, _⟩
  · simp at h
  · exact ⟨g, _, cap, h⟩
theorem OwnT.some_cells {w : World} {base : Nat} {v : Value} {ts : List Tok} {t : Tok} (h : OwnT w base v (ts ++ [t])) : ∃ g cap, v = .slice (some ⟨g, 0, none⟩) (ts.length + 1) cap ∧ base ≤ g ∧ ∀ j u, (tokVals (ts ++ [t]))[j]? = some u → w.cell? ⟨g, j, none⟩ = some u := by
  rcases h.cases with ⟨_, h⟩ | ⟨g, cap, h, hb, hc⟩
  · simp at h
  · exact ⟨g, cap, by simpa using h, hb, hc⟩
theorem TsSt.append {w W W4 : World} {L F S : Nat} {l : Bs} {i : Nat} {v v4 : Value} {acc acc4 : List Tok} (h : TsSt w W L F S l i v acc) (hg : W.grownBy W4 v.ownBlock) (ho : OwnT W4 (S + 1) v4 acc4) :
    Blk W4 L 23 #[v] ∧ Blk W4 F 26 #[.int .i64 0, .int .i64 0] ∧ TsSt w (W4.setCell ⟨L, 0, none⟩ v4) L F S l i v4 acc4 := by
  have hge := own_ge h.own
  have e1 := h.hF
  have e2 := h.hS
  have hb : Blk W4 L 23 #[v] := h.bl.own hg (fun x hx => by have := hge x hx; omega)
  have hf : Blk W4 F 26 #[.int .i64 0, .int .i64 0] := h.bf.own hg (fun x hx => by have := hge x hx; omega)
  refine ⟨hb, hf, hb.put 0 v4, hf.far (by simp; omega) _, (h.sc.own hg (fun x hx => by have := hge x hx; omega)).far (by simp; omega) _, ?_, ?_, h.hL, h.hF, h.hS⟩
  · exact own_kept ho (gb_set (gb_refl W4 (some L)) (.inl rfl) v4) (by omega)
  · refine Below.setCell (h.g.grown hg h.g.size (fun k hk => ?_)) (by have := h.hL; simp; omega) _
    have := hge k hk
    have := h.hL
    omega
/-- The results' variables are written once more with what they hold. -/
theorem TsSt.same_l {w W : World} {L F S : Nat} {l : Bs} {i : Nat} {v v0 : Value} {acc : List Tok} (h : TsSt w (W.setCell ⟨L, 0, none⟩ v) L F S l i v acc) (hb : Blk W L 23 #[v0]) : TsSt w ((W.setCell ⟨L, 0, none⟩ v).setCell ⟨L, 0, none⟩ v) L F S l i v acc := by
  have e1 := h.hF
  have e2 := h.hS
  refine ⟨h.bl.put 0 v, h.bf.far (by simp; omega) _, h.sc.far (by simp; omega) _, ?_, h.g.setCell (by have := h.hL; simp; omega) _, h.hL, h.hF, h.hS⟩
  exact own_kept h.own (gb_set (gb_refl _ (some L)) (.inl rfl) v) (by omega)
theorem TsSt.same_f {w W : World} {L F S : Nat} {l : Bs} {i : Nat} {v : Value} {acc : List Tok} (h : TsSt w W L F S l i v acc) : TsSt w ((W.setCell ⟨F, 0, none⟩ (.int .i64 0)).setCell ⟨F, 1, none⟩ (.int .i64 0)) L F S l i v acc := by
  have e1 := h.hF
  have e2 := h.hS
  have hg : W.grownBy ((W.setCell ⟨F, 0, none⟩ (.int .i64 0)).setCell ⟨F, 1, none⟩ (.int .i64 0)) (some F) := by
    refine gb_set (gb_set (gb_refl W (some F)) ?_ _) ?_ _
    · exact .inl rfl
    · exact .inl rfl
  refine ⟨h.bl.grown hg (by simp; omega), (h.bf.put 0 _).put 1 _, h.sc.grown hg (by simp; omega), own_kept h.own hg (by omega), h.g.grown hg h.g.size (by intro k hk; cases hk; have := h.hL; omega), h.hL, h.hF, h.hS⟩
theorem TsSt.tok {w W W3 W4 : World} {L F S T : Nat} {l : Bs} {i : Nat} {v : Value} {acc : List Tok} {cs : Array Value} (h : TsSt w W L F S l i v acc) (hT : W.heap.size = T) (hb : Blk W3 T 35 cs) (hg : W3.grownBy W4 v.ownBlock) : Blk W4 T 35 cs := by
  refine hb.grown hg ?_
  intro e
  have := own_in h.own T e.symm
  omega
theorem tokens_results (tmps : Array Value) (W : World) (L F : Nat) (v x y : Value) (h2 : tmps.getD 2 undef = .pointer (some ⟨L, 0, none⟩)) (h3 : tmps.getD 3 undef = .pointer (some ⟨F, 0, none⟩)) (bl : Blk W L 23 #[v]) (bf : Blk W F 26 #[x, y]) :
    (results Tryz.f10 tmps).run Tryz.prog W = .ok (.tuple #[v, .agg #[x, y]]) W := by
  have h2' : tmps[2]?.getD undef = .pointer (some ⟨L, 0, none⟩) := by simpa using h2
  have h3' : tmps[3]?.getD undef = .pointer (some ⟨F, 0, none⟩) := by simpa using h3
  have hl : (loadVar 23 ⟨L, 0, none⟩).run Tryz.prog W = .ok v W := by
    have c := bl.cell 0
    simp [go_sem, c]
  have hf : (loadVar 26 ⟨F, 0, none⟩).run Tryz.prog W = .ok (.agg #[x, y]) W := run_loadVar_row W F 26 26 #[x, y] (0, 0) _ bf Tryz.underlying26 rfl (by kernel_rfl)
  simp [results, Tryz.results10, h2', h3', asAddr, hl, hf, Sem.run_bind, Result.andThen]
theorem tokens_fault {w W : World} {L F : Nat} {v : Value} {i c : Nat} (bl : Blk W L 23 #[v]) (bf : Blk W F 26 #[.int .i64 0, .int .i64 0]) (g : Below w.heap.size w W) (hL : w.heap.size = L) (hF : L + 1 = F) {Rs : Res} (hR : Rs = .fault i c) (a : Act)
    (hd : a.defers = [{ target := .fn (.func 20) #[.pointer (some ⟨L, 0, none⟩), .pointer (some ⟨F, 0, none⟩)], args := #[] }]) (h2 : a.tmps.getD 2 undef = .pointer (some ⟨L, 0, none⟩)) (h3 : a.tmps.getD 3 undef = .pointer (some ⟨F, 0, none⟩)) :
    bodyPostD Tryz.prog Tryz.f10 (fun e w' => TokPost w e w' Rs) (.panic (fault i c)) a W := by
  subst hR
  show Leaves Tryz.prog Tryz.f10 a.tmps (fun e w' => TokPost w e w' (.fault i c)) a.defers (.panicking (fault i c)) W
  rw [hd]
  refine leaves_cons (f := 20) (args := #[.pointer (some ⟨L, 0, none⟩), .pointer (some ⟨F, 0, none⟩)]) (by simp) (by simp [go_sem]) ?_
  refine (catch_panicking L F w.heap.size W v i c [] bl bf (by omega) (by omega)).mono ?_
  rintro e u' w2 ⟨rfl, rfl, hl2, hf2, hB⟩
  simp only [settle]
  refine ⟨_, tokens_results a.tmps w2 L F _ _ _ h2 h3 hl2 hf2, rfl, below_gb (g.trans hB) none⟩
theorem tokens_done {w W : World} {L F S : Nat} {l : Bs} {i : Nat} {v : Value} {acc : List Tok} (h : TsSt w W L F S l i v acc) {Rs : Res} (hR : Rs = .toks acc) (a : Act)
    (hd : a.defers = [{ target := .fn (.func 20) #[.pointer (some ⟨L, 0, none⟩), .pointer (some ⟨F, 0, none⟩)], args := #[] }]) (h2 : a.tmps.getD 2 undef = .pointer (some ⟨L, 0, none⟩)) (h3 : a.tmps.getD 3 undef = .pointer (some ⟨F, 0, none⟩)) :
    bodyPostD Tryz.prog Tryz.f10 (fun e w' => TokPost w e w' Rs) .ret a W := by
  subst hR
  show Leaves Tryz.prog Tryz.f10 a.tmps (fun e w' => TokPost w e w' (.toks acc)) a.defers .returning W
  rw [hd]
  refine leaves_cons (f := 20) (args := #[.pointer (some ⟨L, 0, none⟩), .pointer (some ⟨F, 0, none⟩)]) (by simp) (by simp [go_sem]) ?_
  refine (catch_idle L F W).mono ?_
  rintro e u' w2 ⟨rfl, rfl, rfl⟩
  simp only [settle]
  refine ⟨_, tokens_results a.tmps w2 L F _ _ _ h2 h3 h.bl h.bf, v, rfl, below_gb h.g none, ?_⟩
  obtain ⟨h1, h2⟩ := h.own
  refine ⟨h1, ?_⟩
  rcases h2 with h2 | ⟨g, cap, cur, e, hb, h3⟩
  · exact .inl h2
  · exact .inr ⟨g, cap, cur, e, by have := h.hL; have := h.hF; have := h.hS; omega, h3⟩
section
set_option maxHeartbeats 4000000
set_option maxRecDepth 100000
theorem Tokens_le (l : Bs) (w : World) (hs : l.length ≤ 65536) (hE : Env w) (hsz : 8 ≤ w.heap.size) : Calls Tryz.prog 10 #[.string (B l)] w fun e w' => TokPost w e w' (tokensS l) := by
  have hz := size_B l
  have hle : decide (65536 < l.length) = false := by simp; omega
  have HE := hide hE
  have hmf : ∀ (fn : Fn) (first cap : Array Value) (w : World), (Instr.makeFunc fn first cap).run Tryz.prog w = .ok (.func fn first cap) w := fun _ _ _ _ => rfl
  have HS := hide (TsSt.init (l := l) hsz)
  clear hE
  have hT0 : Hid (tokensS l = loopS l (l.length + 1) 0 []) := by
    unfold Hid tokensS
    rw [if_neg (by omega)]
  generalize tokensS l = Rs at hT0 ⊢
  go_enter_defers Tryz.func10, Tryz.ntmps10
  go_wp2_with fail
  refine code_forget (fun W => TsSt w W w.heap.size (w.heap.size + 1) (w.heap.size + 1 + 1) l 0 (.slice none 0 0) []) HS.out ?_
  generalize hL : w.heap.size = L
  generalize hF : L + 1 = F
  generalize hSe : F + 1 = S
  clear HS hmf hle
  intro W HS
  replace HS := hide HS
  go_loopw [] (fun wr => ∃ i acc v k, TsSt w wr L F S l i v acc ∧ i ≤ l.length ∧ (acc = [] → v = .slice none 0 0) ∧ l.length - i < k ∧ acc.length ≤ i ∧ Hid (Rs = loopS l k i acc)) (fun wr => l.length - atOf wr S)
  case atStart => exact ⟨0, [], _, l.length + 1, HS.out, Nat.zero_le _, fun _ => rfl, by omega, Nat.zero_le _, hT0⟩
  case round =>
    clear HS hT0
    obtain ⟨i, acc, v, k, HS, hil, hnv, hk, hacc, HT⟩ := hrel
    obtain ⟨k, rfl⟩ : ∃ k', k = k' + 1 := ⟨k - 1, by omega⟩
    have h0 := HS.sc.c0
    have h1 := HS.sc.c1
    have n1 : S ≠ L := by omega
    have n2 : L ≠ F := by omega
    have n3 : F ≠ L := by omega
    replace HS := hide HS
    have hskc := skip_calls S l i
    cases hsk : skipS l i with
    | bad a e =>
      have hq := hide (show Rs = .fault a e by rw [HT.out, loopS, hsk])
      have hc := hide (fun W hW => hsk ▸ skip_calls S l i W hs hil hW)
      clear hsk HT hskc
      go_wp2_with (first | (go_at_call 21; refine (hc.out _ (by exact HS.out.sc)).mono ?_; rintro e w1 ⟨rfl, hg1⟩))
      have HS1 := HS.out
      have bl1 := HS1.bl.grown hg1 (by simpa using n1.symm)
      have bf1 := HS1.bf.grown hg1 (by simp; omega)
      exact tokens_fault bl1 bf1 (HS1.g.grown hg1 HS1.g.size (by intro k hk; cases hk; omega)) hL hF hq.out _ rfl rfl rfl
    | ok u j =>
      have hjl := skipS_bound hil hsk
      obtain ⟨hij, hjl⟩ := hjl
      have hc := hide (fun W hW => hsk ▸ skip_calls S l i W hs hil hW)
      cases htk : tokenS l j with
      | bad a e =>
        have hq := hide (show Rs = .fault a e by rw [HT.out, loopS, hsk]; simp only [htk])
        have hc2 : ∀ W, Sc W S l j → Env W → 8 ≤ W.heap.size → Calls Tryz.prog 22 #[.pointer (some ⟨S, 0, none⟩)] W fun e' w' => e' = .panicked (fault a e) ∧ W.grownBy w' (some S) := by
          intro W h1 h2 h3
          have := token_calls S l j W hs hjl h1 h2 h3
          rw [htk] at this
          exact this
        replace hc2 := hide hc2
        clear hsk HT hskc htk
        go_wp2_with (first | (go_at_call 21; refine (hc.out _ (by exact HS.out.sc)).mono ?_; rintro e w1 ⟨rfl, hS1, hg1⟩; have HS1 := hide (HS.out.step hS1 hg1)) | (go_at_call 22; refine (hc2.out _ (by exact HS1.out.sc) (by exact HS1.out.env HE.out hsz) (by exact Nat.le_trans hsz HS1.out.g.size)).mono ?_; rintro e w2 ⟨rfl, hg2⟩))
        have HS2 := HS1.out
        have bl1 := HS2.bl.grown hg2 (by simpa using n1.symm)
        have bf1 := HS2.bf.grown hg2 (by simp; omega)
        exact tokens_fault bl1 bf1 (HS2.g.grown hg2 HS2.g.size (by intro k hk; cases hk; omega)) hL hF hq.out _ rfl rfl rfl
      | ok t m =>
        obtain ⟨hml, hm1, hm0, -⟩ := tokenS_bound hjl htk
        have hc2 : ∀ W, Sc W S l j → Env W → 8 ≤ W.heap.size → Calls Tryz.prog 22 #[.pointer (some ⟨S, 0, none⟩)] W fun e' w' => e' = .returned (.agg #[.int .i64 t.kind, .string (B t.text), .int .i64 t.at_]) ∧ Sc w' S l m ∧ W.grownBy w' (some S) := by
          intro W h1 h2 h3
          have := token_calls S l j W hs hjl h1 h2 h3
          rw [htk] at this
          exact this
        replace hc2 := hide hc2
        rcases HS.out.own.cases with ⟨rfl, rfl⟩ | ⟨g, cap, rfl, hbg, hcells⟩
        · have hq := hide (show Rs = if t.kind = 0 then .toks [t] else loopS l k m [t] by rw [HT.out, loopS, hsk]; simp only [htk]; rfl)
          clear hsk hskc htk
          go_wp2_with (first | (go_at_call 21; refine (hc.out _ (by exact HS.out.sc)).mono ?_; rintro e w1 ⟨rfl, hS1, hg1⟩; have HS1 := hide (HS.out.step hS1 hg1)) | (go_at_call 22; refine (hc2.out _ (by exact HS1.out.sc) (by exact HS1.out.env HE.out hsz) (by exact Nat.le_trans hsz HS1.out.g.size)).mono ?_; rintro e w2 ⟨rfl, hS2, hg2⟩; have HS2 := HS1.out.step hS2 hg2; have HS3 := HS2.kept (World.grownBy_alloc w2 (.cells #[.int .i64 t.kind, .string (B t.text), .int .i64 t.at_] 35) none); have d0 : (w2.alloc (.cells #[.int .i64 t.kind, .string (B t.text), .int .i64 t.at_] 35)).cell? ⟨L, 0, none⟩ = some (.slice none 0 0) := HS3.bl.cell 0; have d1 := HS3.bl.frozen 0; have d2 := HS2.bl.lt; replace HS2 := hide HS2; replace HS3 := hide HS3) | (at_builtin; refine append_tok rfl _ _ rfl (S + 1) (.slice none 0 0) [] t (w2.heap.size + 1) (Array.size_push ..) rfl rfl HS3.out.own ?_ ?_ ?_; exact HS3.out.sc.lt; (simp); intro v4 w4 ho4 hg4 hk4; obtain ⟨g4, n4, cap4, rfl⟩ := ho4.some_; have HS4 := HS3.out.append hg4 ho4; have bT := HS2.out.tok rfl (Blk.new w2 _ _) hg4; have q0 : w4.cell? ⟨L, 0, none⟩ = some (.slice none 0 0) := HS4.1.cell 0; have q1 := HS4.1.frozen 0; have q2 : w4.cell? ⟨w2.heap.size, 0, none⟩ = some (.int .i64 t.kind) := bT.cell 0; have q3 : w2.heap.size ≠ L := (by omega); have q4 : w4.cell? ⟨F, 0, none⟩ = some (.int .i64 0) := HS4.2.1.cell 0; have q5 : w4.cell? ⟨F, 1, none⟩ = some (.int .i64 0) := HS4.2.1.cell 1; have q6 := HS4.2.1.frozen; have HS5 := hide HS4.2.2; have HB4 := hide HS4.1; have HF4 := hide HS4.2.1; clear HS4 bT))
          · rename_i hk0
            exact tokens_done (HS5.out.same_l HB4.out).same_f (by rw [hq.out, if_pos (by simpa using hk0)]; rfl) _ rfl rfl rfl
          · rename_i hk0
            have hk1 : ¬ t.kind = 0 := by simpa using hk0
            have hjm := hm1 hk1
            refine ⟨⟨m, [t], _, k, HS5.out, hml, (by simp), ?_, ?_, ?_⟩, ?_⟩
            · have := hjm
              omega
            · have := hjm
              simp
              omega
            · unfold Hid
              rw [hq.out, if_neg hk1]
            · have := hjm
              have e1 := HS.out.sc.at_
              have e2 := HS5.out.sc.at_
              rw [e1, e2]
              omega
        · obtain ⟨az, p, rfl⟩ : ∃ az p, acc = az ++ [p] := by
            rcases List.eq_nil_or_concat acc with h | ⟨az, p, h⟩
            · have := hnv h
              cases this
            · exact ⟨az, p, by simpa using h⟩
          have hlen : (az ++ [p]).length = az.length + 1 := by simp
          rw [hlen] at hacc HS
          have htl := toList_B t.text
          clear hcells
          cases tk6 : (t.kind == 6) with
          | false =>
            have hcl : called (az ++ [p]) i t = t := by
              unfold called
              rw [List.getLast?_concat]
              simp only
              rw [if_neg]
              rintro ⟨h, _⟩
              rw [h] at tk6
              cases tk6
            have hq := hide (show Rs = if t.kind = 0 then .toks (az ++ [p] ++ [t]) else loopS l k m (az ++ [p] ++ [t]) by rw [HT.out, loopS, hsk]; simp only [htk, hcl])
            clear hsk hskc htk
            go_wp2_with (first | (go_at_call 21; refine (hc.out _ (by exact HS.out.sc)).mono ?_; rintro e w1 ⟨rfl, hS1, hg1⟩; have HS1 := hide (HS.out.step hS1 hg1)) | (go_at_call 22; refine (hc2.out _ (by exact HS1.out.sc) (by exact HS1.out.env HE.out hsz) (by exact Nat.le_trans hsz HS1.out.g.size)).mono ?_; rintro e w2 ⟨rfl, hS2, hg2⟩; have HS2 := HS1.out.step hS2 hg2; have HS3 := HS2.kept (World.grownBy_alloc w2 (.cells #[.int .i64 t.kind, .string (B t.text), .int .i64 t.at_] 35) none); have d0 : (w2.alloc (.cells #[.int .i64 t.kind, .string (B t.text), .int .i64 t.at_] 35)).cell? ⟨L, 0, none⟩ = some (.slice (some ⟨g, 0, none⟩) (az.length + 1) cap) := HS3.bl.cell 0; have d1 := HS3.bl.frozen 0; have d2 := HS2.bl.lt; have d3 : (w2.alloc (.cells #[.int .i64 t.kind, .string (B t.text), .int .i64 t.at_] 35)).cell? ⟨g, az.length * 3, none⟩ = some (.int .i64 p.kind) := (by obtain ⟨_, _, ee, _, hcc⟩ := HS3.own.some_cells; cases ee; exact hcc _ _ (tokVals_kind az p)); replace HS2 := hide HS2; replace HS3 := hide HS3) | (at_builtin; refine append_tok rfl _ _ rfl (S + 1) (.slice (some ⟨g, 0, none⟩) (az.length + 1) cap) (az ++ [p]) t (w2.heap.size + 1) (Array.size_push ..) rfl rfl HS3.out.own ?_ ?_ ?_; exact HS3.out.sc.lt; (simp; omega); intro v4 w4 ho4 hg4 hk4; obtain ⟨g4, n4, cap4, rfl⟩ := ho4.some_; have HS4 := HS3.out.append hg4 ho4; have bT := HS2.out.tok rfl (Blk.new w2 _ _) hg4; have q0 : w4.cell? ⟨L, 0, none⟩ = some (.slice (some ⟨g, 0, none⟩) (az.length + 1) cap) := HS4.1.cell 0; have q1 := HS4.1.frozen 0; have q2 : w4.cell? ⟨w2.heap.size, 0, none⟩ = some (.int .i64 t.kind) := bT.cell 0; have q3 : w2.heap.size ≠ L := (by omega); have q4 : w4.cell? ⟨F, 0, none⟩ = some (.int .i64 0) := HS4.2.1.cell 0; have q5 : w4.cell? ⟨F, 1, none⟩ = some (.int .i64 0) := HS4.2.1.cell 1; have q6 := HS4.2.1.frozen; have HS5 := hide HS4.2.2; have HB4 := hide HS4.1; have HF4 := hide HS4.2.1; clear HS4 bT))
            · rename_i hk0
              exact tokens_done (HS5.out.same_l HB4.out).same_f (by rw [hq.out, if_pos (by simpa using hk0)]) _ rfl rfl rfl
            · rename_i hk0
              have hk1 : ¬ t.kind = 0 := by simpa using hk0
              have hjm := hm1 hk1
              refine ⟨⟨m, az ++ [p] ++ [t], _, k, HS5.out, hml, (by simp), ?_, ?_, ?_⟩, ?_⟩
              · have := hjm
                omega
              · have := hjm
                simp
                omega
              · unfold Hid
                rw [hq.out, if_neg hk1]
              · have := hjm
                have e1 := HS.out.sc.at_
                have e2 := HS5.out.sc.at_
                rw [e1, e2]
                omega
          | true =>
            have hk6 : t.kind = 6 := by simpa using tk6
            cases tx : (t.text == [40]) with
            | false =>
              have hcl : called (az ++ [p]) i t = t := by
                have h : ¬ t.text = [40] := by simpa using tx
                simp [called, h]
              clear hk6
              have hq := hide (show Rs = if t.kind = 0 then .toks (az ++ [p] ++ [t]) else loopS l k m (az ++ [p] ++ [t]) by rw [HT.out, loopS, hsk]; simp only [htk, hcl])
              clear hsk hskc htk
              go_wp2_with (first | (go_at_call 21; refine (hc.out _ (by exact HS.out.sc)).mono ?_; rintro e w1 ⟨rfl, hS1, hg1⟩; have HS1 := hide (HS.out.step hS1 hg1)) | (go_at_call 22; refine (hc2.out _ (by exact HS1.out.sc) (by exact HS1.out.env HE.out hsz) (by exact Nat.le_trans hsz HS1.out.g.size)).mono ?_; rintro e w2 ⟨rfl, hS2, hg2⟩; have HS2 := HS1.out.step hS2 hg2; have HS3 := HS2.kept (World.grownBy_alloc w2 (.cells #[.int .i64 t.kind, .string (B t.text), .int .i64 t.at_] 35) none); have d0 : (w2.alloc (.cells #[.int .i64 t.kind, .string (B t.text), .int .i64 t.at_] 35)).cell? ⟨L, 0, none⟩ = some (.slice (some ⟨g, 0, none⟩) (az.length + 1) cap) := HS3.bl.cell 0; have d1 := HS3.bl.frozen 0; have d2 := HS2.bl.lt; have d3 : (w2.alloc (.cells #[.int .i64 t.kind, .string (B t.text), .int .i64 t.at_] 35)).cell? ⟨g, az.length * 3, none⟩ = some (.int .i64 p.kind) := (by obtain ⟨_, _, ee, _, hcc⟩ := HS3.own.some_cells; cases ee; exact hcc _ _ (tokVals_kind az p)); replace HS2 := hide HS2; replace HS3 := hide HS3) | (at_builtin; refine append_tok rfl _ _ rfl (S + 1) (.slice (some ⟨g, 0, none⟩) (az.length + 1) cap) (az ++ [p]) t (w2.heap.size + 1) (Array.size_push ..) rfl rfl HS3.out.own ?_ ?_ ?_; exact HS3.out.sc.lt; (simp; omega); intro v4 w4 ho4 hg4 hk4; obtain ⟨g4, n4, cap4, rfl⟩ := ho4.some_; have HS4 := HS3.out.append hg4 ho4; have bT := HS2.out.tok rfl (Blk.new w2 _ _) hg4; have q0 : w4.cell? ⟨L, 0, none⟩ = some (.slice (some ⟨g, 0, none⟩) (az.length + 1) cap) := HS4.1.cell 0; have q1 := HS4.1.frozen 0; have q2 : w4.cell? ⟨w2.heap.size, 0, none⟩ = some (.int .i64 t.kind) := bT.cell 0; have q3 : w2.heap.size ≠ L := (by omega); have q4 : w4.cell? ⟨F, 0, none⟩ = some (.int .i64 0) := HS4.2.1.cell 0; have q5 : w4.cell? ⟨F, 1, none⟩ = some (.int .i64 0) := HS4.2.1.cell 1; have q6 := HS4.2.1.frozen; have HS5 := hide HS4.2.2; have HB4 := hide HS4.1; have HF4 := hide HS4.2.1; clear HS4 bT))
              · have hk1 : ¬ t.kind = 0 := by simp at tk6; omega
                have hjm := hm1 hk1
                refine ⟨⟨m, az ++ [p] ++ [t], _, k, HS5.out, hml, (by simp), ?_, ?_, ?_⟩, ?_⟩
                · have := hjm
                  omega
                · have := hjm
                  simp
                  omega
                · unfold Hid
                  rw [hq.out, if_neg hk1]
                · have := hjm
                  have e1 := HS.out.sc.at_
                  have e2 := HS5.out.sc.at_
                  rw [e1, e2]
                  omega
            | true =>
              have hx : t.text = [40] := by simpa using tx
              cases ba : ((i : Int) == t.at_) with
              | false =>
                have hcl : called (az ++ [p]) i t = t := by
                  have h : ¬ (i : Int) = t.at_ := by simpa using ba
                  simp [called, h]
                clear hx hk6
                have hq := hide (show Rs = if t.kind = 0 then .toks (az ++ [p] ++ [t]) else loopS l k m (az ++ [p] ++ [t]) by rw [HT.out, loopS, hsk]; simp only [htk, hcl])
                clear hsk hskc htk
                go_wp2_with (first | (go_at_call 21; refine (hc.out _ (by exact HS.out.sc)).mono ?_; rintro e w1 ⟨rfl, hS1, hg1⟩; have HS1 := hide (HS.out.step hS1 hg1)) | (go_at_call 22; refine (hc2.out _ (by exact HS1.out.sc) (by exact HS1.out.env HE.out hsz) (by exact Nat.le_trans hsz HS1.out.g.size)).mono ?_; rintro e w2 ⟨rfl, hS2, hg2⟩; have HS2 := HS1.out.step hS2 hg2; have HS3 := HS2.kept (World.grownBy_alloc w2 (.cells #[.int .i64 t.kind, .string (B t.text), .int .i64 t.at_] 35) none); have d0 : (w2.alloc (.cells #[.int .i64 t.kind, .string (B t.text), .int .i64 t.at_] 35)).cell? ⟨L, 0, none⟩ = some (.slice (some ⟨g, 0, none⟩) (az.length + 1) cap) := HS3.bl.cell 0; have d1 := HS3.bl.frozen 0; have d2 := HS2.bl.lt; have d3 : (w2.alloc (.cells #[.int .i64 t.kind, .string (B t.text), .int .i64 t.at_] 35)).cell? ⟨g, az.length * 3, none⟩ = some (.int .i64 p.kind) := (by obtain ⟨_, _, ee, _, hcc⟩ := HS3.own.some_cells; cases ee; exact hcc _ _ (tokVals_kind az p)); replace HS2 := hide HS2; replace HS3 := hide HS3) | (at_builtin; refine append_tok rfl _ _ rfl (S + 1) (.slice (some ⟨g, 0, none⟩) (az.length + 1) cap) (az ++ [p]) t (w2.heap.size + 1) (Array.size_push ..) rfl rfl HS3.out.own ?_ ?_ ?_; exact HS3.out.sc.lt; (simp; omega); intro v4 w4 ho4 hg4 hk4; obtain ⟨g4, n4, cap4, rfl⟩ := ho4.some_; have HS4 := HS3.out.append hg4 ho4; have bT := HS2.out.tok rfl (Blk.new w2 _ _) hg4; have q0 : w4.cell? ⟨L, 0, none⟩ = some (.slice (some ⟨g, 0, none⟩) (az.length + 1) cap) := HS4.1.cell 0; have q1 := HS4.1.frozen 0; have q2 : w4.cell? ⟨w2.heap.size, 0, none⟩ = some (.int .i64 t.kind) := bT.cell 0; have q3 : w2.heap.size ≠ L := (by omega); have q4 : w4.cell? ⟨F, 0, none⟩ = some (.int .i64 0) := HS4.2.1.cell 0; have q5 : w4.cell? ⟨F, 1, none⟩ = some (.int .i64 0) := HS4.2.1.cell 1; have q6 := HS4.2.1.frozen; have HS5 := hide HS4.2.2; have HB4 := hide HS4.1; have HF4 := hide HS4.2.1; clear HS4 bT))
                · have hk1 : ¬ t.kind = 0 := by simp at tk6; omega
                  have hjm := hm1 hk1
                  refine ⟨⟨m, az ++ [p] ++ [t], _, k, HS5.out, hml, (by simp), ?_, ?_, ?_⟩, ?_⟩
                  · have := hjm
                    omega
                  · have := hjm
                    simp
                    omega
                  · unfold Hid
                    rw [hq.out, if_neg hk1]
                  · have := hjm
                    have e1 := HS.out.sc.at_
                    have e2 := HS5.out.sc.at_
                    rw [e1, e2]
                    omega
              | true =>
                have hb : (i : Int) = t.at_ := by simpa using ba
                cases p1 : (p.kind == 1) with
                | true =>
                  have hcl : called (az ++ [p]) i t = { t with text := [40, 40] } := by
                    have h : p.kind = 1 := by simpa using p1
                    simp [called, h, hk6, hx, hb]
                  clear hx hk6 hb
                  have hq := hide (show Rs = if t.kind = 0 then .toks (az ++ [p] ++ [{ t with text := [40, 40] }]) else loopS l k m (az ++ [p] ++ [{ t with text := [40, 40] }]) by rw [HT.out, loopS, hsk]; simp only [htk, hcl])
                  clear hsk hskc htk
                  go_wp2_with (first | (go_at_call 21; refine (hc.out _ (by exact HS.out.sc)).mono ?_; rintro e w1 ⟨rfl, hS1, hg1⟩; have HS1 := hide (HS.out.step hS1 hg1)) | (go_at_call 22; refine (hc2.out _ (by exact HS1.out.sc) (by exact HS1.out.env HE.out hsz) (by exact Nat.le_trans hsz HS1.out.g.size)).mono ?_; rintro e w2 ⟨rfl, hS2, hg2⟩; have HS2 := HS1.out.step hS2 hg2; have HS3 := HS2.kept (World.grownBy_alloc w2 (.cells #[.int .i64 t.kind, .string (B t.text), .int .i64 t.at_] 35) none); have d0 : (w2.alloc (.cells #[.int .i64 t.kind, .string (B t.text), .int .i64 t.at_] 35)).cell? ⟨L, 0, none⟩ = some (.slice (some ⟨g, 0, none⟩) (az.length + 1) cap) := HS3.bl.cell 0; have d1 := HS3.bl.frozen 0; have HS7 := HS2.kept (World.grownBy_alloc w2 (.cells #[.int .i64 t.kind, .string ⟨#[40, 40]⟩, .int .i64 t.at_] 35) none); have d4 : (w2.alloc (.cells #[.int .i64 t.kind, .string ⟨#[40, 40]⟩, .int .i64 t.at_] 35)).cell? ⟨L, 0, none⟩ = some (.slice (some ⟨g, 0, none⟩) (az.length + 1) cap) := HS7.bl.cell 0; have d5 := HS7.bl.frozen 0; clear HS7; have d2 := HS2.bl.lt; have d3 : (w2.alloc (.cells #[.int .i64 t.kind, .string (B t.text), .int .i64 t.at_] 35)).cell? ⟨g, az.length * 3, none⟩ = some (.int .i64 p.kind) := (by obtain ⟨_, _, ee, _, hcc⟩ := HS3.own.some_cells; cases ee; exact hcc _ _ (tokVals_kind az p)); replace HS2 := hide HS2; replace HS3 := hide HS3) | (at_builtin; have HS6 := HS2.out.kept (World.grownBy_alloc w2 (.cells #[.int .i64 t.kind, .string ⟨#[40, 40]⟩, .int .i64 t.at_] 35) none); refine append_tok rfl _ _ rfl (S + 1) (.slice (some ⟨g, 0, none⟩) (az.length + 1) cap) (az ++ [p]) { t with text := [40, 40] } (w2.heap.size + 1) (Array.size_push ..) rfl rfl HS6.own ?_ ?_ ?_; exact HS6.sc.lt; (simp; omega); intro v4 w4 ho4 hg4 hk4; obtain ⟨g4, n4, cap4, rfl⟩ := ho4.some_; have HS4 := HS6.append hg4 ho4; have bT := HS2.out.tok rfl (Blk.new w2 _ _) hg4; have q0 : w4.cell? ⟨L, 0, none⟩ = some (.slice (some ⟨g, 0, none⟩) (az.length + 1) cap) := HS4.1.cell 0; have q1 := HS4.1.frozen 0; have q2 : w4.cell? ⟨w2.heap.size, 0, none⟩ = some (.int .i64 t.kind) := bT.cell 0; have q3 : w2.heap.size ≠ L := (by omega); have q4 : w4.cell? ⟨F, 0, none⟩ = some (.int .i64 0) := HS4.2.1.cell 0; have q5 : w4.cell? ⟨F, 1, none⟩ = some (.int .i64 0) := HS4.2.1.cell 1; have q6 := HS4.2.1.frozen; have HS5 := hide HS4.2.2; have HB4 := hide HS4.1; have HF4 := hide HS4.2.1; clear HS4 bT))
                  · have hk1 : ¬ t.kind = 0 := by simp at tk6; omega
                    have hjm := hm1 hk1
                    refine ⟨⟨m, az ++ [p] ++ [{ t with text := [40, 40] }], _, k, HS5.out, hml, (by simp), ?_, ?_, ?_⟩, ?_⟩
                    · have := hjm
                      omega
                    · have := hjm
                      simp
                      omega
                    · unfold Hid
                      rw [hq.out, if_neg hk1]
                    · have := hjm
                      have e1 := HS.out.sc.at_
                      have e2 := HS5.out.sc.at_
                      rw [e1, e2]
                      omega
                | false =>
                  have hp1 : ¬ p.kind = 1 := by simpa using p1
                  cases p2 : (p.kind == 2) with
                  | true =>
                    have hcl : called (az ++ [p]) i t = { t with text := [40, 40] } := by
                      have h : p.kind = 2 := by simpa using p2
                      simp [called, h, hk6, hx, hb]
                    clear hx hk6 hb hp1
                    have hq := hide (show Rs = if t.kind = 0 then .toks (az ++ [p] ++ [{ t with text := [40, 40] }]) else loopS l k m (az ++ [p] ++ [{ t with text := [40, 40] }]) by rw [HT.out, loopS, hsk]; simp only [htk, hcl])
                    clear hsk hskc htk
                    go_wp2_with (first | (go_at_call 21; refine (hc.out _ (by exact HS.out.sc)).mono ?_; rintro e w1 ⟨rfl, hS1, hg1⟩; have HS1 := hide (HS.out.step hS1 hg1)) | (go_at_call 22; refine (hc2.out _ (by exact HS1.out.sc) (by exact HS1.out.env HE.out hsz) (by exact Nat.le_trans hsz HS1.out.g.size)).mono ?_; rintro e w2 ⟨rfl, hS2, hg2⟩; have HS2 := HS1.out.step hS2 hg2; have HS3 := HS2.kept (World.grownBy_alloc w2 (.cells #[.int .i64 t.kind, .string (B t.text), .int .i64 t.at_] 35) none); have d0 : (w2.alloc (.cells #[.int .i64 t.kind, .string (B t.text), .int .i64 t.at_] 35)).cell? ⟨L, 0, none⟩ = some (.slice (some ⟨g, 0, none⟩) (az.length + 1) cap) := HS3.bl.cell 0; have d1 := HS3.bl.frozen 0; have HS7 := HS2.kept (World.grownBy_alloc w2 (.cells #[.int .i64 t.kind, .string ⟨#[40, 40]⟩, .int .i64 t.at_] 35) none); have d4 : (w2.alloc (.cells #[.int .i64 t.kind, .string ⟨#[40, 40]⟩, .int .i64 t.at_] 35)).cell? ⟨L, 0, none⟩ = some (.slice (some ⟨g, 0, none⟩) (az.length + 1) cap) := HS7.bl.cell 0; have d5 := HS7.bl.frozen 0; clear HS7; have d2 := HS2.bl.lt; have d3 : (w2.alloc (.cells #[.int .i64 t.kind, .string (B t.text), .int .i64 t.at_] 35)).cell? ⟨g, az.length * 3, none⟩ = some (.int .i64 p.kind) := (by obtain ⟨_, _, ee, _, hcc⟩ := HS3.own.some_cells; cases ee; exact hcc _ _ (tokVals_kind az p)); replace HS2 := hide HS2; replace HS3 := hide HS3) | (at_builtin; have HS6 := HS2.out.kept (World.grownBy_alloc w2 (.cells #[.int .i64 t.kind, .string ⟨#[40, 40]⟩, .int .i64 t.at_] 35) none); refine append_tok rfl _ _ rfl (S + 1) (.slice (some ⟨g, 0, none⟩) (az.length + 1) cap) (az ++ [p]) { t with text := [40, 40] } (w2.heap.size + 1) (Array.size_push ..) rfl rfl HS6.own ?_ ?_ ?_; exact HS6.sc.lt; (simp; omega); intro v4 w4 ho4 hg4 hk4; obtain ⟨g4, n4, cap4, rfl⟩ := ho4.some_; have HS4 := HS6.append hg4 ho4; have bT := HS2.out.tok rfl (Blk.new w2 _ _) hg4; have q0 : w4.cell? ⟨L, 0, none⟩ = some (.slice (some ⟨g, 0, none⟩) (az.length + 1) cap) := HS4.1.cell 0; have q1 := HS4.1.frozen 0; have q2 : w4.cell? ⟨w2.heap.size, 0, none⟩ = some (.int .i64 t.kind) := bT.cell 0; have q3 : w2.heap.size ≠ L := (by omega); have q4 : w4.cell? ⟨F, 0, none⟩ = some (.int .i64 0) := HS4.2.1.cell 0; have q5 : w4.cell? ⟨F, 1, none⟩ = some (.int .i64 0) := HS4.2.1.cell 1; have q6 := HS4.2.1.frozen; have HS5 := hide HS4.2.2; have HB4 := hide HS4.1; have HF4 := hide HS4.2.1; clear HS4 bT))
                    · have hk1 : ¬ t.kind = 0 := by simp at tk6; omega
                      have hjm := hm1 hk1
                      refine ⟨⟨m, az ++ [p] ++ [{ t with text := [40, 40] }], _, k, HS5.out, hml, (by simp), ?_, ?_, ?_⟩, ?_⟩
                      · have := hjm
                        omega
                      · have := hjm
                        simp
                        omega
                      · unfold Hid
                        rw [hq.out, if_neg hk1]
                      · have := hjm
                        have e1 := HS.out.sc.at_
                        have e2 := HS5.out.sc.at_
                        rw [e1, e2]
                        omega
                  | false =>
                    have hcl : called (az ++ [p]) i t = t := by
                      have h : ¬ p.kind = 2 := by simpa using p2
                      simp [called, h, hp1]
                    clear hx hk6 hb hp1
                    have hq := hide (show Rs = if t.kind = 0 then .toks (az ++ [p] ++ [t]) else loopS l k m (az ++ [p] ++ [t]) by rw [HT.out, loopS, hsk]; simp only [htk, hcl])
                    clear hsk hskc htk
                    go_wp2_with (first | (go_at_call 21; refine (hc.out _ (by exact HS.out.sc)).mono ?_; rintro e w1 ⟨rfl, hS1, hg1⟩; have HS1 := hide (HS.out.step hS1 hg1)) | (go_at_call 22; refine (hc2.out _ (by exact HS1.out.sc) (by exact HS1.out.env HE.out hsz) (by exact Nat.le_trans hsz HS1.out.g.size)).mono ?_; rintro e w2 ⟨rfl, hS2, hg2⟩; have HS2 := HS1.out.step hS2 hg2; have HS3 := HS2.kept (World.grownBy_alloc w2 (.cells #[.int .i64 t.kind, .string (B t.text), .int .i64 t.at_] 35) none); have d0 : (w2.alloc (.cells #[.int .i64 t.kind, .string (B t.text), .int .i64 t.at_] 35)).cell? ⟨L, 0, none⟩ = some (.slice (some ⟨g, 0, none⟩) (az.length + 1) cap) := HS3.bl.cell 0; have d1 := HS3.bl.frozen 0; have HS7 := HS2.kept (World.grownBy_alloc w2 (.cells #[.int .i64 t.kind, .string ⟨#[40, 40]⟩, .int .i64 t.at_] 35) none); have d4 : (w2.alloc (.cells #[.int .i64 t.kind, .string ⟨#[40, 40]⟩, .int .i64 t.at_] 35)).cell? ⟨L, 0, none⟩ = some (.slice (some ⟨g, 0, none⟩) (az.length + 1) cap) := HS7.bl.cell 0; have d5 := HS7.bl.frozen 0; clear HS7; have d2 := HS2.bl.lt; have d3 : (w2.alloc (.cells #[.int .i64 t.kind, .string (B t.text), .int .i64 t.at_] 35)).cell? ⟨g, az.length * 3, none⟩ = some (.int .i64 p.kind) := (by obtain ⟨_, _, ee, _, hcc⟩ := HS3.own.some_cells; cases ee; exact hcc _ _ (tokVals_kind az p)); replace HS2 := hide HS2; replace HS3 := hide HS3) | (at_builtin; refine append_tok rfl _ _ rfl (S + 1) (.slice (some ⟨g, 0, none⟩) (az.length + 1) cap) (az ++ [p]) t (w2.heap.size + 1) (Array.size_push ..) rfl rfl HS3.out.own ?_ ?_ ?_; exact HS3.out.sc.lt; (simp; omega); intro v4 w4 ho4 hg4 hk4; obtain ⟨g4, n4, cap4, rfl⟩ := ho4.some_; have HS4 := HS3.out.append hg4 ho4; have bT := HS2.out.tok rfl (Blk.new w2 _ _) hg4; have q0 : w4.cell? ⟨L, 0, none⟩ = some (.slice (some ⟨g, 0, none⟩) (az.length + 1) cap) := HS4.1.cell 0; have q1 := HS4.1.frozen 0; have q2 : w4.cell? ⟨w2.heap.size, 0, none⟩ = some (.int .i64 t.kind) := bT.cell 0; have q3 : w2.heap.size ≠ L := (by omega); have q4 : w4.cell? ⟨F, 0, none⟩ = some (.int .i64 0) := HS4.2.1.cell 0; have q5 : w4.cell? ⟨F, 1, none⟩ = some (.int .i64 0) := HS4.2.1.cell 1; have q6 := HS4.2.1.frozen; have HS5 := hide HS4.2.2; have HB4 := hide HS4.1; have HF4 := hide HS4.2.1; clear HS4 bT))
                    · have hk1 : ¬ t.kind = 0 := by simp at tk6; omega
                      have hjm := hm1 hk1
                      refine ⟨⟨m, az ++ [p] ++ [t], _, k, HS5.out, hml, (by simp), ?_, ?_, ?_⟩, ?_⟩
                      · have := hjm
                        omega
                      · have := hjm
                        simp
                        omega
                      · unfold Hid
                        rw [hq.out, if_neg hk1]
                      · have := hjm
                        have e1 := HS.out.sc.at_
                        have e2 := HS5.out.sc.at_
                        rw [e1, e2]
                        omega
theorem Tokens_long (l : Bs) (w : World) (hs : 65536 < l.length) (hm : l.length ≤ 9223372036854775807) : Calls Tryz.prog 10 #[.string (B l)] w fun e w' => TokPost w e w' (tokensS l) := by
  have hz := size_B l
  have hle : decide (65536 < l.length) = true := by simpa using hs
  have hR : tokensS l = .fault 0 6 := by
    unfold tokensS
    rw [if_pos hs]
  rw [hR]
  have b0 : Blk ((w.alloc (.cells #[.slice none 0 0] 23)).alloc (.cells #[.int .i64 0, .int .i64 6] 26)) w.heap.size 23 #[.slice none 0 0] := (Blk.new w _ _).alloc _
  have e1 : (w.alloc (.cells #[.slice none 0 0] 23)).heap.size = w.heap.size + 1 := Array.size_push ..
  have b1 := Blk.new (w.alloc (.cells #[.slice none 0 0] 23)) 26 #[.int .i64 0, .int .i64 6]
  rw [e1] at b1
  have hB := hide b0
  have hB1 := hide b1
  clear b0 b1 e1
  go_enter_defers Tryz.func10, Tryz.ntmps10
  go_wp2
  exact ⟨_, tokens_results _ _ w.heap.size (w.heap.size + 1) _ _ _ rfl rfl hB.out hB1.out, rfl, gb_alloc (gb_alloc (gb_refl _ _) _) _⟩
theorem Tokens_calls (l : Bs) (w : World) (hm : l.length ≤ 9223372036854775807) (hE : Env w) (hsz : 8 ≤ w.heap.size) : Calls Tryz.prog 10 #[.string (B l)] w fun e w' => TokPost w e w' (tokensS l) := by
  by_cases hs : l.length ≤ 65536
  · exact Tokens_le l w hs hE hsz
  · exact Tokens_long l w (by omega) hm
end
end Go.Proofs.YtgeonilideojnaaGreatDoor.Tk
/- The condition on the world under which the contracts of the package tokens hold: the library's variables are as they were laid. -/
namespace Go.Proofs.YtgeonilideojnaaGreatDoor
set_option linter.unusedVariables false
set_option linter.unusedSimpArgs false
open Go Go.RowKit
def EnvW (w : World) : Prop := Tk.Env w ∧ 8 ≤ w.heap.size
theorem EnvW.below {w w1 : World} (h : EnvW w) (hb : Below w.heap.size w w1) : EnvW w1 := by
  obtain ⟨⟨w0, h1, h2, h3⟩, hs⟩ := h
  exact ⟨⟨w0, h1, h2, h3.trans (hb.mono hs)⟩, Nat.le_trans hs hb.size⟩
theorem EnvW.drewN {w : World} (h : EnvW w) (n : Nat) : EnvW (w.drewN n) := ⟨h.1.drewN n, h.2⟩
end Go.Proofs.YtgeonilideojnaaGreatDoor
namespace Go.Proofs.YtgeonilideojnaaGreatDoor.Pr
open Go.RowKit Go.Proofs.YtgeonilideojnaaGreatDoorW.PrintWords Go.Proofs.YtgeonilideojnaaGreatDoorW.PrintLast Go.Proofs.YtgeonilideojnaaGreatDoorW.PrintMore
attribute [local go_sem] max2_int min2_int max_two min_two max_three min_three max_four min_four   -- for this text's walks alone
set_option linter.unusedVariables false
set_option linter.unusedSimpArgs false
def errW : Option Int → Value
  | none => .nilIface
  | some c => .iface 0 (.int .i64 c)
theorem errW_none : errW none = .nilIface := rfl
theorem errW_some (c : Int) : errW (some c) = .iface 0 (.int .i64 c) := rfl
theorem info5 : (Tryz.prog.info? 5).map (fun i => (i.zero, i.size, i.bytes)) = some (some (.int .u8 0), 1, 1) := by kernel_rfl
theorem info9 : (Tryz.prog.info? 9).map (fun i => (i.zero, i.size, i.bytes)) = some (some (.string ⟨#[]⟩), 1, 16) := by kernel_rfl
theorem info35 : (Tryz.prog.info? 35).map (fun i => (i.zero, i.size, i.bytes)) = some (some (.agg #[(.int .i64 0), (.string ⟨#[]⟩), (.int .i64 0)]), 3, 32) := by kernel_rfl
-- the values' own types
/-! #### struct type 35 -/
structure S35 where
  f0 : Int
  f1 : ByteArray
  f2 : Int
def z35 : S35 := ⟨(0 : Int), (⟨#[]⟩ : ByteArray), (0 : Int)⟩
def k35 : Kd S35 := Kd.iso (Kd.pair (Kd.int .i64) (Kd.pair Kd.string (Kd.int .i64))) (fun x : S35 => (x.f0, x.f1, x.f2))
theorem k35_open {w : World} {x : S35} {cs : List Value} (h : k35.K w x cs) : cs = [.int .i64 x.f0, .string x.f1, .int .i64 x.f2] := by
  obtain ⟨_, _, rfl, rfl, ⟨_, _, rfl, rfl, rfl⟩⟩ := h
  exact rfl
theorem k35_openM {w : World} {base : Nat} {ok : Nat → Prop} {x : S35} {cs : List Value} (h : k35.M w base ok x cs) : cs = [.int .i64 x.f0, .string x.f1, .int .i64 x.f2] := by
  obtain ⟨_, _, rfl, rfl, ⟨_, _, rfl, rfl, rfl⟩⟩ := h
  exact rfl
theorem k35_mk (w : World) (x : S35)  : k35.K w x [.int .i64 x.f0, .string x.f1, .int .i64 x.f2] := ⟨[.int .i64 x.f0], [.string x.f1, .int .i64 x.f2], rfl, rfl, ⟨[.string x.f1], [.int .i64 x.f2], rfl, rfl, rfl⟩⟩
theorem k35_mkM (w : World) (base : Nat) (ok : Nat → Prop) (x : S35)  : k35.M w base ok x [.int .i64 x.f0, .string x.f1, .int .i64 x.f2] := ⟨[.int .i64 x.f0], [.string x.f1, .int .i64 x.f2], rfl, rfl, ⟨[.string x.f1], [.int .i64 x.f2], rfl, rfl, rfl⟩⟩
def rd_T35 (xs : List S35) (i : Int) : S35 := xs.getD i.toNat z35
theorem at_T35 {w : World} {A : Option Addr} {n : Nat} {xs : List S35} (h : Kd.C k35 w A n xs) (i : Int) (h0 : 0 ≤ i) (h1 : i < n) : ∃ ad , A = some ad ∧ w.cell? (ad.add (i.toNat * 3)) = some (.int .i64 (rd_T35 xs i).f0) ∧ w.cell? ⟨(ad.add (i.toNat * 3)).block, (ad.add (i.toNat * 3)).off + 1, none⟩ = some (.string (rd_T35 xs i).f1) ∧ w.cell? ⟨(ad.add (i.toNat * 3)).block, (ad.add (i.toNat * 3)).off + 2, none⟩ = some (.int .i64 (rd_T35 xs i).f2) := by
  obtain ⟨ad, c, e, _, hK, hc0⟩ := Kd.C_get h z35 i h0 h1
  have hc : ∀ j u, c[j]? = some u → w.cell? (ad.add (i.toNat * 3 + j)) = some u := hc0
  obtain rfl := k35_open hK
  exact ⟨ad, e, hc 0 _ rfl, by rw [← add_field _ _ 1 (by omega)]; exact hc 1 _ rfl, by rw [← add_field _ _ 2 (by omega)]; exact hc 2 _ rfl⟩
def rd_L3 (xs : List (List S35)) (i : Int) : (List S35) := xs.getD i.toNat ([] : List S35)
theorem at_L3 {w : World} {A : Option Addr} {n : Nat} {xs : List (List S35)} (h : Kd.C (Kd.slice 35 k35) w A n xs) (i : Int) (h0 : 0 ≤ i) (h1 : i < n) : ∃ ad A0 c0, A = some ad ∧ w.cell? (ad.add i.toNat) = some (.slice A0 (rd_L3 xs i).length c0) ∧ (rd_L3 xs i).length ≤ c0 ∧ k35.C w A0 (rd_L3 xs i).length (rd_L3 xs i) := by
  obtain ⟨ad, c, e, _, hK, hc0⟩ := Kd.C_get h ([] : List S35) i h0 h1
  have hc : ∀ j u, c[j]? = some u → w.cell? (ad.add (i.toNat * 1 + j)) = some u := hc0
  obtain ⟨A0, c0, rfl, l0, g0⟩ := hK
  exact ⟨ad, A0, c0, e, by have hq := hc 0 _ rfl; rwa [Nat.mul_one, Nat.add_zero] at hq, l0, g0⟩
/-! #### struct type 26 -/
structure S26 where
  f0 : Int
  f1 : Int
def z26 : S26 := ⟨(0 : Int), (0 : Int)⟩
def k26 : Kd S26 := Kd.iso (Kd.pair (Kd.int .i64) (Kd.int .i64)) (fun x : S26 => (x.f0, x.f1))
theorem k26_open {w : World} {x : S26} {cs : List Value} (h : k26.K w x cs) : cs = [.int .i64 x.f0, .int .i64 x.f1] := by
  obtain ⟨_, _, rfl, rfl, rfl⟩ := h
  exact rfl
theorem k26_openM {w : World} {base : Nat} {ok : Nat → Prop} {x : S26} {cs : List Value} (h : k26.M w base ok x cs) : cs = [.int .i64 x.f0, .int .i64 x.f1] := by
  obtain ⟨_, _, rfl, rfl, rfl⟩ := h
  exact rfl
theorem k26_mk (w : World) (x : S26)  : k26.K w x [.int .i64 x.f0, .int .i64 x.f1] := ⟨[.int .i64 x.f0], [.int .i64 x.f1], rfl, rfl, rfl⟩
theorem k26_mkM (w : World) (base : Nat) (ok : Nat → Prop) (x : S26)  : k26.M w base ok x [.int .i64 x.f0, .int .i64 x.f1] := ⟨[.int .i64 x.f0], [.int .i64 x.f1], rfl, rfl, rfl⟩
def rd_T26 (xs : List S26) (i : Int) : S26 := xs.getD i.toNat z26
theorem at_T26 {w : World} {A : Option Addr} {n : Nat} {xs : List S26} (h : Kd.C k26 w A n xs) (i : Int) (h0 : 0 ≤ i) (h1 : i < n) : ∃ ad , A = some ad ∧ w.cell? (ad.add (i.toNat * 2)) = some (.int .i64 (rd_T26 xs i).f0) ∧ w.cell? ⟨(ad.add (i.toNat * 2)).block, (ad.add (i.toNat * 2)).off + 1, none⟩ = some (.int .i64 (rd_T26 xs i).f1) := by
  obtain ⟨ad, c, e, _, hK, hc0⟩ := Kd.C_get h z26 i h0 h1
  have hc : ∀ j u, c[j]? = some u → w.cell? (ad.add (i.toNat * 2 + j)) = some u := hc0
  obtain rfl := k26_open hK
  exact ⟨ad, e, hc 0 _ rfl, by rw [← add_field _ _ 1 (by omega)]; exact hc 1 _ rfl⟩
end Go.Proofs.YtgeonilideojnaaGreatDoor.Pr
/- The contract of Tokens of the package tokens, in the form that the printed texts ask for. -/
namespace Go.Proofs.YtgeonilideojnaaGreatDoor.TkC
set_option linter.unusedVariables false
set_option linter.unusedSimpArgs false
open Go Go.RowKit Tk Go.Proofs.YtgeonilideojnaaGreatDoor.Pr Go.Proofs.YtgeonilideojnaaGreatDoorW.PrintWords Go.Proofs.YtgeonilideojnaaGreatDoorW.PrintLast Go.Proofs.YtgeonilideojnaaGreatDoorW.PrintMore
def ofTok (t : Tok) : S35 := ⟨t.kind, B t.text, t.at_⟩
def Tokens.f (s : ByteArray) : Option (List S35 × Int × Int) :=
  if s.size ≤ 9223372036854775807 then (match tokensS s.data.toList with
    | .fault i c => some ([], (i : Int), (c : Int))
    | .toks ts => some (ts.map ofTok, 0, 0)) else none
theorem tok_reps (R : S35 → List Value → Prop) (hR : ∀ t : Tok, R (ofTok t) [.int .i64 t.kind, .string (B t.text), .int .i64 t.at_]) : ∀ ts : List Tok, Reps R 3 (ts.map ofTok) (tokVals ts)
  | [] => Reps.none _ _
  | t :: ts => Reps.c3 (hR t) (tok_reps R hR ts)
theorem own_R {w : World} {base : Nat} {v : Value} {ts : List Tok} (h : OwnT w base v ts) : Kd.R k35 35 w base (fun _ => True) v (ts.map ofTok) := by
  refine ⟨fun _ _ => trivial, tokVals ts, ?_, ?_⟩
  · rw [List.length_map]
    exact h
  · exact tok_reps _ (fun t => k35_mkM w base _ (ofTok t)) ts
theorem Tokens.calls (s : ByteArray) (r0 : List S35) (r1 r2 : Int) (w : World) (hEnv : EnvW w) (h : Tokens.f s = some (r0, r1, r2)) :
    Calls Tryz.prog 10 #[.string s] w fun e w' => ∃ v : Value, e = .returned (.tuple #[v, .agg #[.int .i64 r1, .int .i64 r2]]) ∧ Kd.R k35 35 w' w.heap.size (fun _ => True) v r0 ∧ Below w.heap.size w w' := by
  unfold Tokens.f at h
  split at h
  · rename_i hc
    have hT := Tokens_calls s.data.toList w hc hEnv.1 hEnv.2
    rw [B_of] at hT
    refine hT.mono fun e w' hp => ?_
    cases hq : tokensS s.data.toList with
    | fault i c =>
      rw [hq] at h hp
      injection h with h
      injection h with h1 h2
      injection h2 with h2 h3
      subst h1 h2 h3
      exact ⟨_, hp.1, Kd.R_nil _ _ _ _ _, gb_below hp.2⟩
    | toks ts =>
      rw [hq] at h hp
      injection h with h
      injection h with h1 h2
      injection h2 with h2 h3
      subst h1 h2 h3
      obtain ⟨v, he, hg, ho⟩ := hp
      exact ⟨v, he, own_R ho, gb_below hg⟩
  · cases h
end Go.Proofs.YtgeonilideojnaaGreatDoor.TkC
/- Contracts of Check and plain of the package tokens, in the form that the printed texts ask for. -/
namespace Go.Proofs.YtgeonilideojnaaGreatDoor.TkC
set_option linter.unusedVariables false
set_option linter.unusedSimpArgs false
open Go Go.RowKit Tk
theorem B_self (s : ByteArray) : B s.data.toList = s := B_of s
def Check.f (k : Int) (s : ByteArray) (i : Int) : Option Int := if (Lit.int .i64 k).wf = true ∧ s.size ≤ 65536 then some (checkS k s.data.toList : Int) else none
theorem Check.calls (k : Int) (s : ByteArray) (i : Int) (r : Int) (w : World) (hEnv : EnvW w) (h : Check.f k s i = some r) :
    Calls Tryz.prog 16 #[.agg #[.int .i64 k, .string s, .int .i64 i]] w fun e w' => e = .returned (.int .i64 r) ∧ Below w.heap.size w w' := by
  unfold Check.f at h
  split at h
  · rename_i hc
    injection h with h
    subst h
    have := Check_calls k s.data.toList i w hc.1 hc.2 hEnv.1 hEnv.2
    rw [B_of] at this
    exact this.mono fun _ _ ⟨h1, h2⟩ => ⟨h1, gb_below h2⟩
  · cases h
def plain.f (s : ByteArray) : Option Bool := if s.size ≤ 65536 then some (Tk.plain s.data.toList) else none
theorem plain.calls (s : ByteArray) (r : Bool) (w : World) (hEnv : EnvW w) (h : plain.f s = some r) :
    Calls Tryz.prog 44 #[.string s] w fun e w' => e = .returned (.bool r) ∧ Below w.heap.size w w' := by
  unfold plain.f at h
  split at h
  · rename_i hc
    injection h with h
    subst h
    have := plain_calls s.data.toList w hc hEnv.1
    rw [B_of] at this
    exact this.mono fun _ _ ⟨h1, h2⟩ => ⟨h1, gb_below h2⟩
  · cases h
end Go.Proofs.YtgeonilideojnaaGreatDoor.TkC
namespace Go.Proofs.YtgeonilideojnaaGreatDoor.Pr
open Go.RowKit Go.Proofs.YtgeonilideojnaaGreatDoorW.PrintWords Go.Proofs.YtgeonilideojnaaGreatDoorW.PrintLast Go.Proofs.YtgeonilideojnaaGreatDoorW.PrintMore
attribute [local go_sem] max2_int min2_int max_two min_two max_three min_three max_four min_four   -- for this text's walks alone
set_option linter.unusedVariables false
set_option linter.unusedSimpArgs false
/-! ### tokens_first: function 26 -/
def tokens_first.l0 : Nat → List (S35) → Int → Int → Option (Int)
  | 0, _, _, _ => none
  | k + 1, x6, x7, x8 => if x8 < x7 then (if 0 ≤ x8 then (if x8 < (x6.length : Int) then ((TkC.Check.f ((rd_T35 x6 x8).f0) ((rd_T35 x6 x8).f1) ((rd_T35 x6 x8).f2)).bind fun t299 => (if t299 = 0 then (tokens_first.l0 k x6 x7 (wrap64 (x8 + 1))) else (some t299))) else (none)) else (none)) else (some 0)
def tokens_first.f (k : Nat) (l0 : List (S35)) : Option (Int) := tokens_first.l0 k l0 (l0.length : Int) 0
set_option maxHeartbeats 8000000 in
set_option maxRecDepth 100000 in
theorem tokens_first.calls (k : Nat) (A0 : Option Addr) (c0 : Nat) (l0 : List (S35)) (r : Int) (w : World) (hr0 : Kd.C k35 w A0 l0.length l0) (hc0 : l0.length ≤ c0) (hEnv : EnvW w) (h : tokens_first.f k l0 = some r) :
    Calls Tryz.prog 26 #[.slice A0 l0.length c0] w fun e w' => e = .returned (.int .i64 r) ∧ Below w.heap.size w w' := by
  have hu35 := Tryz.underlying35
  have HR0 := Aside0.mk hr0
  have HC0 := Aside0.mk hc0
  clear hr0 hc0
  have HB := Aside0.mk (Below.refl w.heap.size w)
  have H : (tokens_first.l0 k l0 (l0.length : Int) 0) = some r := h
  clear h
  have H' := Aside0.mk H
  clear H
  go_enter Tryz.func26, Tryz.ntmps26
  go_wp2
  (try simp only [Go.Act.put, List.setIfInBounds_toArray, List.set_cons_succ, List.set_cons_zero])
  go_loopg [8] k (fun kq v8 w' => ∃ (x8_1 : Int), v8 = .int .i64 x8_1 ∧ Aside0 (tokens_first.l0 kq l0 (l0.length : Int) x8_1 = some r) ∧ Aside0 (kq ≤ k) ∧ Aside0 (Below w.heap.size w w'))
  case atStart => exact ⟨(0), (by first | rfl | (simp; done) | (simp [*]; done) | (simp [show ∀ l : List UInt8, (l != []) = !l.isEmpty from fun l => by cases l <;> rfl]; done)), H', ⟨Nat.le_refl _⟩, ⟨by repeat (first | (with_reducible first | exact HB.out | apply below_alloc | apply pw_below_drewN | apply below_drew1) | exact HB.out)⟩⟩
  case round =>
    clear H'
    obtain ⟨x8_1, rfl, HA, HK1, HB⟩ := hrel
    cases gk with
    | zero => exact absurd HA.out (by simp [tokens_first.l0])
    | succ k1 =>
      have H := HA.out
      clear HA
      simp only [tokens_first.l0] at H
      by_cases c2 : x8_1 < (l0.length : Int)
      · rw [if_pos c2] at H
        have c2b0 : decide (x8_1 < (l0.length : Int)) = true := decide_eq_true c2
        clear c2
        by_cases c3 : 0 ≤ x8_1
        · rw [if_pos c3] at H
          have c3b0 : decide (0 ≤ x8_1) = true := decide_eq_true c3
          clear c3
          by_cases c4 : x8_1 < (l0.length : Int)
          · rw [if_pos c4] at H
            have c4b0 : decide (x8_1 < (l0.length : Int)) = true := decide_eq_true c4
            clear c4
            replace H := Option.bind_eq_some_iff.mp H
            obtain ⟨t299, A50, H⟩ := H
            replace H : (if t299 = 0 then (tokens_first.l0 k1 l0 (l0.length : Int) (wrap64 (x8_1 + 1))) else (some t299)) = some r := H
            have A5 := Aside0.mk A50
            clear A50
            by_cases c6 : t299 = 0
            · rw [if_pos c6] at H
              have c6b0 : (t299 == 0) = true := beq_iff_eq.mpr c6
              have c6b1 : (t299 != 0) = false := bne_eq_false_iff_eq.mpr c6
              clear c6
              have H' := Aside0.mk H
              clear H
              have p297 : 0 ≤ (x8_1 : Int) := of_decide_eq_true (by first | (with_reducible assumption) | assumption)
              have q297 : x8_1 < (l0.length : Int) := of_decide_eq_true (by first | (with_reducible assumption) | assumption)
              obtain ⟨ad297, e297, hx297_0, hx297_1, hx297_2⟩ := at_T35 HR0.out x8_1 p297 q297
              cases e297
              replace hx297_0 := (HB.out.cell (World.block_lt_of_cell? w _ hx297_0)).trans hx297_0
              replace hx297_1 := (HB.out.cell (World.block_lt_of_cell? w _ hx297_1)).trans hx297_1
              replace hx297_2 := (HB.out.cell (World.block_lt_of_cell? w _ hx297_2)).trans hx297_2
              replace p297 := eq_true p297
              replace q297 := eq_true q297
              go_wp2_with (first | ((with_reducible refine gate_dst (N := 4) rfl ?_); refine box_event ?hg (N := 4) ?hd (cs := #[.int .i64 0, .string (⟨#[]⟩ : ByteArray), .int .i64 0]) (t := 35) ?hr ?_; (case hd => rfl); (case hg => rfl); (case hr => first | (go_simp; done) | (go_simp; rfl)); intro gb298 hg w7 hbox hb; have n0_ := Aside0.mk (below_step (by repeat (first | (with_reducible first | exact HB.out | apply below_alloc | apply pw_below_drewN | apply below_drew1) | exact HB.out)) hb); have n1_ := Aside0.mk (hbox); have n2_ := Aside0.mk ((by rw [hg]; exact (below_size (by repeat (first | (with_reducible first | exact HB.out | apply below_alloc | apply pw_below_drewN | apply below_drew1) | exact HB.out))) : w.heap.size ≤ gb298)); have n3_ := Aside0.mk ((by rw [hg]; exact (below_size (by repeat (first | (with_reducible first | exact HB.out | apply below_alloc | apply pw_below_drewN | apply below_drew1) | exact HB.out))) : w.heap.size ≤ gb298)); clear HB; have HB := n0_; have BK298 := n1_; have GW298 := n2_; have GE298 := n3_; clear n0_ n1_ n2_ n3_; clear hb hbox hg; have hcz8_0 : w7.cell? ⟨gb298, 0, none⟩ = some (.int .i64 0) := (blk_cell BK298.out 0).trans rfl; have hcz8_1 : w7.cell? ⟨gb298, 1, none⟩ = some (.string (⟨#[]⟩ : ByteArray)) := (blk_cell BK298.out 1).trans rfl; have hcz8_2 : w7.cell? ⟨gb298, 2, none⟩ = some (.int .i64 0) := (blk_cell BK298.out 2).trans rfl; have hfz8_0 := blk_frozen BK298.out 0; have hfz8_1 := blk_frozen BK298.out 1; have hfz8_2 := blk_frozen BK298.out 2) | ((with_reducible refine gate_callee (f := 16) rfl ?_); refine goesL_ (some 13) rfl rfl Tryz.func16 (by kernel_rfl) rfl #[.agg #[.int .i64 ((rd_T35 l0 x8_1).f0), .string ((rd_T35 l0 x8_1).f1), .int .i64 ((rd_T35 l0 x8_1).f2)]] rfl (by (try simp only [List.map_toArray, List.map_cons, List.map_nil]); first | done | rfl | (simp only [List.length_drop, List.length_take]; rfl)) ?_; (with_reducible refine (TkC.Check.calls ((rd_T35 l0 x8_1).f0) ((rd_T35 l0 x8_1).f1) ((rd_T35 l0 x8_1).f2) t299 _ ?side1 A5.out).mono ?_); (case side1 => first | exact hEnv | exact EnvW.below hEnv (by repeat (first | (with_reducible first | exact HB.out | apply below_alloc | apply pw_below_drewN | apply below_drew1 | refine below_set ?_ GE298.out) | exact HB.out)) | exact hEnv.drewN _); rintro e w9 ⟨rfl, hb⟩; refine ⟨_, rfl, ?_⟩; have n0_ := Aside0.mk (blk_below (g := gb298) (o := .cells #[.int .i64 ((rd_T35 l0 x8_1).f0), .string ((rd_T35 l0 x8_1).f1), .int .i64 ((rd_T35 l0 x8_1).f2)] 35 (0, 0)) (by (with_reducible repeat (first | refine blk_drewN ?_ _ | refine blk_drew ?_ | refine blk_alloc ?_ _)); refine blk_put (cs := #[.int .i64 ((rd_T35 l0 x8_1).f0), .string ((rd_T35 l0 x8_1).f1), .int .i64 0]) ?_ 2 _ rfl; (with_reducible repeat (first | refine blk_drewN ?_ _ | refine blk_drew ?_ | refine blk_alloc ?_ _)); refine blk_put (cs := #[.int .i64 ((rd_T35 l0 x8_1).f0), .string (⟨#[]⟩ : ByteArray), .int .i64 0]) ?_ 1 _ rfl; (with_reducible repeat (first | refine blk_drewN ?_ _ | refine blk_drew ?_ | refine blk_alloc ?_ _)); refine blk_put (cs := #[.int .i64 0, .string (⟨#[]⟩ : ByteArray), .int .i64 0]) ?_ 0 _ rfl; (with_reducible repeat (first | refine blk_drewN ?_ _ | refine blk_drew ?_ | refine blk_alloc ?_ _)); exact BK298.out) hb); have n1_ := Aside0.mk (below_step (by repeat (first | (with_reducible first | exact HB.out | apply below_alloc | apply pw_below_drewN | apply below_drew1 | refine below_set ?_ GE298.out) | exact HB.out)) hb); clear BK298; clear HB; have BK298 := n0_; have HB := n1_; clear n0_ n1_; (try clear hb); (try clear hb2); (try clear hk); (try clear hi)))
              go_roundg k1
              case measure => have := HK1.out; omega
              case rel => exact ⟨(wrap64 (x8_1 + 1)), (by first | rfl | (simp; done) | (simp [*]; done) | (simp [show ∀ l : List UInt8, (l != []) = !l.isEmpty from fun l => by cases l <;> rfl]; done)), H', ⟨by have := HK1.out; omega⟩, ⟨by repeat (first | (with_reducible first | exact HB.out | apply below_alloc | apply pw_below_drewN | apply below_drew1 | refine below_set ?_ GE298.out) | exact HB.out)⟩⟩
            · rw [if_neg c6] at H
              have c6b0 : (t299 == 0) = false := beq_eq_false_iff_ne.mpr c6
              have c6b1 : (t299 != 0) = true := bne_iff_ne.mpr c6
              obtain rfl := Option.some.inj H
              have p297 : 0 ≤ (x8_1 : Int) := of_decide_eq_true (by first | (with_reducible assumption) | assumption)
              have q297 : x8_1 < (l0.length : Int) := of_decide_eq_true (by first | (with_reducible assumption) | assumption)
              obtain ⟨ad297, e297, hx297_0, hx297_1, hx297_2⟩ := at_T35 HR0.out x8_1 p297 q297
              cases e297
              replace hx297_0 := (HB.out.cell (World.block_lt_of_cell? w _ hx297_0)).trans hx297_0
              replace hx297_1 := (HB.out.cell (World.block_lt_of_cell? w _ hx297_1)).trans hx297_1
              replace hx297_2 := (HB.out.cell (World.block_lt_of_cell? w _ hx297_2)).trans hx297_2
              replace p297 := eq_true p297
              replace q297 := eq_true q297
              go_wp2_with (first | ((with_reducible refine gate_dst (N := 4) rfl ?_); refine box_event ?hg (N := 4) ?hd (cs := #[.int .i64 0, .string (⟨#[]⟩ : ByteArray), .int .i64 0]) (t := 35) ?hr ?_; (case hd => rfl); (case hg => rfl); (case hr => first | (go_simp; done) | (go_simp; rfl)); intro gb298 hg w10 hbox hb; have n0_ := Aside0.mk (below_step (by repeat (first | (with_reducible first | exact HB.out | apply below_alloc | apply pw_below_drewN | apply below_drew1) | exact HB.out)) hb); have n1_ := Aside0.mk (hbox); have n2_ := Aside0.mk ((by rw [hg]; exact (below_size (by repeat (first | (with_reducible first | exact HB.out | apply below_alloc | apply pw_below_drewN | apply below_drew1) | exact HB.out))) : w.heap.size ≤ gb298)); have n3_ := Aside0.mk ((by rw [hg]; exact (below_size (by repeat (first | (with_reducible first | exact HB.out | apply below_alloc | apply pw_below_drewN | apply below_drew1) | exact HB.out))) : w.heap.size ≤ gb298)); clear HB; have HB := n0_; have BK298 := n1_; have GW298 := n2_; have GE298 := n3_; clear n0_ n1_ n2_ n3_; clear hb hbox hg; have hcz11_0 : w10.cell? ⟨gb298, 0, none⟩ = some (.int .i64 0) := (blk_cell BK298.out 0).trans rfl; have hcz11_1 : w10.cell? ⟨gb298, 1, none⟩ = some (.string (⟨#[]⟩ : ByteArray)) := (blk_cell BK298.out 1).trans rfl; have hcz11_2 : w10.cell? ⟨gb298, 2, none⟩ = some (.int .i64 0) := (blk_cell BK298.out 2).trans rfl; have hfz11_0 := blk_frozen BK298.out 0; have hfz11_1 := blk_frozen BK298.out 1; have hfz11_2 := blk_frozen BK298.out 2) | ((with_reducible refine gate_callee (f := 16) rfl ?_); refine goesL_ (some 13) rfl rfl Tryz.func16 (by kernel_rfl) rfl #[.agg #[.int .i64 ((rd_T35 l0 x8_1).f0), .string ((rd_T35 l0 x8_1).f1), .int .i64 ((rd_T35 l0 x8_1).f2)]] rfl (by (try simp only [List.map_toArray, List.map_cons, List.map_nil]); first | done | rfl | (simp only [List.length_drop, List.length_take]; rfl)) ?_; (with_reducible refine (TkC.Check.calls ((rd_T35 l0 x8_1).f0) ((rd_T35 l0 x8_1).f1) ((rd_T35 l0 x8_1).f2) t299 _ ?side1 A5.out).mono ?_); (case side1 => first | exact hEnv | exact EnvW.below hEnv (by repeat (first | (with_reducible first | exact HB.out | apply below_alloc | apply pw_below_drewN | apply below_drew1 | refine below_set ?_ GE298.out) | exact HB.out)) | exact hEnv.drewN _); rintro e w12 ⟨rfl, hb⟩; refine ⟨_, rfl, ?_⟩; have n0_ := Aside0.mk (blk_below (g := gb298) (o := .cells #[.int .i64 ((rd_T35 l0 x8_1).f0), .string ((rd_T35 l0 x8_1).f1), .int .i64 ((rd_T35 l0 x8_1).f2)] 35 (0, 0)) (by (with_reducible repeat (first | refine blk_drewN ?_ _ | refine blk_drew ?_ | refine blk_alloc ?_ _)); refine blk_put (cs := #[.int .i64 ((rd_T35 l0 x8_1).f0), .string ((rd_T35 l0 x8_1).f1), .int .i64 0]) ?_ 2 _ rfl; (with_reducible repeat (first | refine blk_drewN ?_ _ | refine blk_drew ?_ | refine blk_alloc ?_ _)); refine blk_put (cs := #[.int .i64 ((rd_T35 l0 x8_1).f0), .string (⟨#[]⟩ : ByteArray), .int .i64 0]) ?_ 1 _ rfl; (with_reducible repeat (first | refine blk_drewN ?_ _ | refine blk_drew ?_ | refine blk_alloc ?_ _)); refine blk_put (cs := #[.int .i64 0, .string (⟨#[]⟩ : ByteArray), .int .i64 0]) ?_ 0 _ rfl; (with_reducible repeat (first | refine blk_drewN ?_ _ | refine blk_drew ?_ | refine blk_alloc ?_ _)); exact BK298.out) hb); have n1_ := Aside0.mk (below_step (by repeat (first | (with_reducible first | exact HB.out | apply below_alloc | apply pw_below_drewN | apply below_drew1 | refine below_set ?_ GE298.out) | exact HB.out)) hb); clear BK298; clear HB; have BK298 := n0_; have HB := n1_; clear n0_ n1_; (try clear hb); (try clear hb2); (try clear hk); (try clear hi)))
              go_ret
              exact ⟨by first | rfl | (simp [errW_none, errW_some] <;> rfl) | (simp [*, errW_none, errW_some] <;> rfl), by repeat (first | (with_reducible first | exact HB.out | apply below_alloc | apply pw_below_drewN | apply below_drew1 | refine below_set ?_ GE298.out) | exact HB.out)⟩
          · rw [if_neg c4] at H
            exact absurd H (by simp)
        · rw [if_neg c3] at H
          exact absurd H (by simp)
      · rw [if_neg c2] at H
        have c2b0 : decide (x8_1 < (l0.length : Int)) = false := decide_eq_false c2
        clear c2
        obtain rfl := Option.some.inj H
        go_wp2
        go_ret
        exact ⟨by first | rfl | (simp [errW_none, errW_some] <;> rfl) | (simp [*, errW_none, errW_some] <;> rfl), by repeat (first | (with_reducible first | exact HB.out | apply below_alloc | apply pw_below_drewN | apply below_drew1) | exact HB.out)⟩
end Go.Proofs.YtgeonilideojnaaGreatDoor.Pr
namespace Go.Proofs.YtgeonilideojnaaGreatDoor.Pr
open Go.RowKit Go.Proofs.YtgeonilideojnaaGreatDoorW.PrintWords Go.Proofs.YtgeonilideojnaaGreatDoorW.PrintLast Go.Proofs.YtgeonilideojnaaGreatDoorW.PrintMore
attribute [local go_sem] max2_int min2_int max_two min_two max_three min_three max_four min_four   -- for this text's walks alone
set_option linter.unusedVariables false
set_option linter.unusedSimpArgs false
/-! ### tokens_state: function 27 -/
def tokens_state.f (a0_0 : Int) (a0_1 : ByteArray) (a0_2 : Int) : Option (Bool) := if a0_0 = 1 then (if a0_1.toList = ([33, 46] : List UInt8) then (some true) else (some (a0_1.toList == ([33, 58] : List UInt8)))) else (some false)
set_option maxHeartbeats 8000000 in
set_option maxRecDepth 100000 in
theorem tokens_state.calls (a0_0 : Int) (a0_1 : ByteArray) (a0_2 : Int) (r : Bool) (w : World) (h : tokens_state.f a0_0 a0_1 a0_2 = some r) :
    Calls Tryz.prog 27 #[.agg #[.int .i64 a0_0, .string a0_1, .int .i64 a0_2]] w fun e w' => e = .returned (.bool r) ∧ Below w.heap.size w w' := by
  have hu35 := Tryz.underlying35
  have HB := Aside0.mk (Below.refl w.heap.size w)
  have H : (if a0_0 = 1 then (if a0_1.toList = ([33, 46] : List UInt8) then (some true) else (some (a0_1.toList == ([33, 58] : List UInt8)))) else (some false)) = some r := h
  clear h
  by_cases c2 : a0_0 = 1
  · rw [if_pos c2] at H
    have c2b0 : (a0_0 == 1) = true := beq_iff_eq.mpr c2
    have c2b1 : (a0_0 != 1) = false := bne_eq_false_iff_eq.mpr c2
    clear c2
    by_cases c3 : a0_1.toList = ([33, 46] : List UInt8)
    · rw [if_pos c3] at H
      have c3b0 : (a0_1.toList == ([33, 46] : List UInt8)) = true := beq_iff_eq.mpr c3
      have c3b1 : (a0_1.toList != ([33, 46] : List UInt8)) = false := bne_eq_false_iff_eq.mpr c3
      clear c3
      obtain rfl := Option.some.inj H
      go_enter Tryz.func27, Tryz.ntmps27
      go_wp2_with (first | ((with_reducible refine gate_dst (N := 1) rfl ?_); refine box_event ?hg (N := 1) ?hd (cs := #[.int .i64 a0_0, .string a0_1, .int .i64 a0_2]) (t := 35) ?hr ?_; (case hd => rfl); (case hg => rfl); (case hr => first | (go_simp; done) | (go_simp; rfl)); intro gb304 hg w4 hbox hb; have n0_ := Aside0.mk (below_step (by repeat (first | (with_reducible first | exact HB.out | apply below_alloc | apply pw_below_drewN | apply below_drew1) | exact HB.out)) hb); have n1_ := Aside0.mk (hbox); have n2_ := Aside0.mk ((by rw [hg]; exact (below_size (by repeat (first | (with_reducible first | exact HB.out | apply below_alloc | apply pw_below_drewN | apply below_drew1) | exact HB.out))) : w.heap.size ≤ gb304)); have n3_ := Aside0.mk ((by rw [hg]; exact (below_size (by repeat (first | (with_reducible first | exact HB.out | apply below_alloc | apply pw_below_drewN | apply below_drew1) | exact HB.out))) : w.heap.size ≤ gb304)); clear HB; have HB := n0_; have BK304 := n1_; have GW304 := n2_; have GE304 := n3_; clear n0_ n1_ n2_ n3_; clear hb hbox hg; have hcz5_0 : w4.cell? ⟨gb304, 0, none⟩ = some (.int .i64 a0_0) := (blk_cell BK304.out 0).trans rfl; have hcz5_1 : w4.cell? ⟨gb304, 1, none⟩ = some (.string a0_1) := (blk_cell BK304.out 1).trans rfl; have hcz5_2 : w4.cell? ⟨gb304, 2, none⟩ = some (.int .i64 a0_2) := (blk_cell BK304.out 2).trans rfl; have hfz5_0 := blk_frozen BK304.out 0; have hfz5_1 := blk_frozen BK304.out 1; have hfz5_2 := blk_frozen BK304.out 2))
      go_ret
      exact ⟨by first | rfl | (simp [errW_none, errW_some] <;> rfl) | (simp [*, errW_none, errW_some] <;> rfl), by repeat (first | (with_reducible first | exact HB.out | apply below_alloc | apply pw_below_drewN | apply below_drew1 | refine below_set ?_ GE304.out) | exact HB.out)⟩
    · rw [if_neg c3] at H
      have c3b0 : (a0_1.toList == ([33, 46] : List UInt8)) = false := beq_eq_false_iff_ne.mpr c3
      have c3b1 : (a0_1.toList != ([33, 46] : List UInt8)) = true := bne_iff_ne.mpr c3
      obtain rfl := Option.some.inj H
      go_enter Tryz.func27, Tryz.ntmps27
      go_wp2_with (first | ((with_reducible refine gate_dst (N := 1) rfl ?_); refine box_event ?hg (N := 1) ?hd (cs := #[.int .i64 a0_0, .string a0_1, .int .i64 a0_2]) (t := 35) ?hr ?_; (case hd => rfl); (case hg => rfl); (case hr => first | (go_simp; done) | (go_simp; rfl)); intro gb304 hg w6 hbox hb; have n0_ := Aside0.mk (below_step (by repeat (first | (with_reducible first | exact HB.out | apply below_alloc | apply pw_below_drewN | apply below_drew1) | exact HB.out)) hb); have n1_ := Aside0.mk (hbox); have n2_ := Aside0.mk ((by rw [hg]; exact (below_size (by repeat (first | (with_reducible first | exact HB.out | apply below_alloc | apply pw_below_drewN | apply below_drew1) | exact HB.out))) : w.heap.size ≤ gb304)); have n3_ := Aside0.mk ((by rw [hg]; exact (below_size (by repeat (first | (with_reducible first | exact HB.out | apply below_alloc | apply pw_below_drewN | apply below_drew1) | exact HB.out))) : w.heap.size ≤ gb304)); clear HB; have HB := n0_; have BK304 := n1_; have GW304 := n2_; have GE304 := n3_; clear n0_ n1_ n2_ n3_; clear hb hbox hg; have hcz7_0 : w6.cell? ⟨gb304, 0, none⟩ = some (.int .i64 a0_0) := (blk_cell BK304.out 0).trans rfl; have hcz7_1 : w6.cell? ⟨gb304, 1, none⟩ = some (.string a0_1) := (blk_cell BK304.out 1).trans rfl; have hcz7_2 : w6.cell? ⟨gb304, 2, none⟩ = some (.int .i64 a0_2) := (blk_cell BK304.out 2).trans rfl; have hfz7_0 := blk_frozen BK304.out 0; have hfz7_1 := blk_frozen BK304.out 1; have hfz7_2 := blk_frozen BK304.out 2))
      go_ret
      exact ⟨by first | rfl | (simp [errW_none, errW_some] <;> rfl) | (simp [*, errW_none, errW_some] <;> rfl), by repeat (first | (with_reducible first | exact HB.out | apply below_alloc | apply pw_below_drewN | apply below_drew1 | refine below_set ?_ GE304.out) | exact HB.out)⟩
  · rw [if_neg c2] at H
    have c2b0 : (a0_0 == 1) = false := beq_eq_false_iff_ne.mpr c2
    have c2b1 : (a0_0 != 1) = true := bne_iff_ne.mpr c2
    obtain rfl := Option.some.inj H
    go_enter Tryz.func27, Tryz.ntmps27
    go_wp2_with (first | ((with_reducible refine gate_dst (N := 1) rfl ?_); refine box_event ?hg (N := 1) ?hd (cs := #[.int .i64 a0_0, .string a0_1, .int .i64 a0_2]) (t := 35) ?hr ?_; (case hd => rfl); (case hg => rfl); (case hr => first | (go_simp; done) | (go_simp; rfl)); intro gb304 hg w8 hbox hb; have n0_ := Aside0.mk (below_step (by repeat (first | (with_reducible first | exact HB.out | apply below_alloc | apply pw_below_drewN | apply below_drew1) | exact HB.out)) hb); have n1_ := Aside0.mk (hbox); have n2_ := Aside0.mk ((by rw [hg]; exact (below_size (by repeat (first | (with_reducible first | exact HB.out | apply below_alloc | apply pw_below_drewN | apply below_drew1) | exact HB.out))) : w.heap.size ≤ gb304)); have n3_ := Aside0.mk ((by rw [hg]; exact (below_size (by repeat (first | (with_reducible first | exact HB.out | apply below_alloc | apply pw_below_drewN | apply below_drew1) | exact HB.out))) : w.heap.size ≤ gb304)); clear HB; have HB := n0_; have BK304 := n1_; have GW304 := n2_; have GE304 := n3_; clear n0_ n1_ n2_ n3_; clear hb hbox hg; have hcz9_0 : w8.cell? ⟨gb304, 0, none⟩ = some (.int .i64 a0_0) := (blk_cell BK304.out 0).trans rfl; have hcz9_1 : w8.cell? ⟨gb304, 1, none⟩ = some (.string a0_1) := (blk_cell BK304.out 1).trans rfl; have hcz9_2 : w8.cell? ⟨gb304, 2, none⟩ = some (.int .i64 a0_2) := (blk_cell BK304.out 2).trans rfl; have hfz9_0 := blk_frozen BK304.out 0; have hfz9_1 := blk_frozen BK304.out 1; have hfz9_2 := blk_frozen BK304.out 2))
    go_ret
    exact ⟨by first | rfl | (simp [errW_none, errW_some] <;> rfl) | (simp [*, errW_none, errW_some] <;> rfl), by repeat (first | (with_reducible first | exact HB.out | apply below_alloc | apply pw_below_drewN | apply below_drew1 | refine below_set ?_ GE304.out) | exact HB.out)⟩
end Go.Proofs.YtgeonilideojnaaGreatDoor.Pr
/- escaped, Name, written. -/
namespace Go.Proofs.YtgeonilideojnaaGreatDoor.Tk
open Go Go.RowKit
set_option linter.unusedVariables false
set_option linter.unusedSimpArgs false
def esc1 (marks : Bs) (c : UInt8) : Bs :=
  if c = 10 && marks.contains 110 then [92, 110] else if c = 9 && marks.contains 110 then [92, 116]
  else if c ≠ 110 && marks.contains c then [92, c] else [c]
theorem escapedS_cons (marks : Bs) (c : UInt8) (t : Bs) : escapedS marks (c :: t) = esc1 marks c ++ escapedS marks t := rfl
theorem escapedS_snoc (marks : Bs) (c : UInt8) : ∀ t : Bs, escapedS marks (t ++ [c]) = escapedS marks t ++ esc1 marks c
  | [] => by rw [List.nil_append, escapedS_cons]; simp [escapedS]
  | d :: t => by rw [List.cons_append, escapedS_cons, escapedS_cons, escapedS_snoc marks c t, List.append_assoc]
theorem esc1_len (marks : Bs) (c : UInt8) : (esc1 marks c).length ≤ 2 := by
  unfold esc1
  repeat' split
  all_goals simp
theorem escapedS_len (marks : Bs) : ∀ s : Bs, (escapedS marks s).length ≤ 2 * s.length
  | [] => by simp [escapedS]
  | c :: t => by
    have := escapedS_len marks t
    have := esc1_len marks c
    rw [escapedS_cons, List.length_append, List.length_cons]
    omega
theorem escapedS_take (marks s : Bs) {k : Nat} (hk : k < s.length) : escapedS marks (s.take (k + 1)) = escapedS marks (s.take k) ++ esc1 marks s[k] := by
  rw [List.take_add_one, List.getElem?_eq_getElem hk]
  exact escapedS_snoc marks _ _
/-- What escaped has in hand: its builder's block b, the bytes of s in the block behind. -/
structure EsSt (w W : World) (b : Nat) (s l : Bs) : Prop where
  bld : Bld W b (b + 2) l
  row : ∀ j (h : j < s.length), W.cell? ⟨b + 1, j, none⟩ = some (.int .u8 (s[j].toNat : Int))
  g : Below b w W
  sz : b + 2 ≤ W.heap.size
theorem EsSt.step {w W W1 : World} {b : Nat} {s l l1 : Bs} (h : EsSt w W b s l) (hb : Bld W1 b (b + 2) l1) (hk : ∀ k, k < b + 2 → k ≠ b → W1.heap[k]? = W.heap[k]?) (h1 : W1.os = W.os) (h2 : W1.tape = W.tape) (h3 : W1.output = W.output) (h4 : W.heap.size ≤ W1.heap.size) : EsSt w W1 b s l1 := by
  refine ⟨hb, fun j hj => ?_, ⟨h1.trans h.g.os, h2.trans h.g.tape, h3.trans h.g.output, Nat.le_trans h.g.size h4, fun k hkb => (hk k (by omega) (by omega)).trans (h.g.block k hkb)⟩, Nat.le_trans h.sz h4⟩
  rw [← h.row j hj]
  exact World.cell?_of_block (w := W) (hk (b + 1) (by omega) (by omega))
theorem EsSt.kept {w W W1 : World} {b : Nat} {s l : Bs} (h : EsSt w W b s l) (hg : W.grownBy W1 none) : EsSt w W1 b s l := by
  obtain ⟨p, v, hp, hb, ho, hbB⟩ := h.bld
  exact h.step ⟨p, v, hp, hb.kept hg, ho.same hg, hbB⟩ (fun k hk _ => hg.block k (by have := h.sz; omega) (by simp)) hg.os hg.tape hg.output hg.size
theorem EsSt.init (w : World) (s : Bs) : EsSt w (Lib.bytesWorld (w.alloc (.cells #[.pointer none, .slice none 0 0] 55)) 5 (B s)) w.heap.size s [] := by
  have e1 : (w.alloc (.cells #[.pointer none, .slice none 0 0] 55)).heap.size = w.heap.size + 1 := Array.size_push ..
  have hg := bytes_gb s (w.alloc (.cells #[.pointer none, .slice none 0 0] 55))
  refine ⟨⟨_, _, .inl rfl, (Blk.new w _ _).kept hg, OwnB.nil _ _, by omega⟩, fun j hj => ?_, gb_below (gb_trans (gb_alloc (gb_refl w none) _) hg), ?_⟩
  · have := bytes_cell s (w.alloc (.cells #[.pointer none, .slice none 0 0] 55)) hj
    rwa [e1] at this
  · rw [Lib.bytesWorld_size, e1]
    omega
section
set_option maxHeartbeats 2000000
set_option maxRecDepth 100000
theorem escaped_calls (s marks : Bs) (w : World) (hs : s.length ≤ 65536) : Calls Tryz.prog 45 #[.string (B s), .string (B marks)] w fun e w' => e = .returned (.string (B (escapedS marks s))) ∧ w.grownBy w' none := by
  have hz := size_B s
  have hcv := bytes_conv s
  go_enter Tryz.func45, Tryz.ntmps45
  go_wp2_with fail
  refine code_forget (fun W => EsSt w W w.heap.size s []) (EsSt.init w s) ?_
  generalize hb : w.heap.size = b
  generalize grownCap (w.alloc (.cells #[.pointer none, .slice none 0 0] 55)) s.length 0 5 = cap
  clear hcv
  intro W HS
  replace HS := hide HS
  go_loopw [11] (fun v wr => ∃ k : Nat, k ≤ s.length ∧ v = .int .i64 (k : Int) ∧ EsSt w wr b s (escapedS marks (s.take k))) (fun v _ => s.length - (intOf v).toNat)
  case atStart => exact ⟨0, Nat.zero_le _, rfl, HS.out⟩
  case round =>
    clear HS
    obtain ⟨k, hk, rfl, HS⟩ := hrel
    by_cases hlt : k < s.length
    · have hrow := HS.row k hlt
      have htk := escapedS_take marks s hlt
      have hlen := escapedS_len marks (s.take k)
      have hl2 : (s.take k).length ≤ s.length := by simp; omega
      replace HS := hide HS
      generalize s[k] = c at hrow htk
      replace htk := hide htk
      have hcn0 := fun W => Contains_calls marks 110 W
      obtain ⟨ix, hix0⟩ : ∃ ix, ix = Lib.indexByte marks c := ⟨_, rfl⟩
      have hci := index_has marks c
      rw [← hix0] at hci
      have hix : ∀ W, Calls Tryz.prog 59 #[.string (B marks), .int .u8 (c.toNat : Int)] W fun e w' => e = .returned (.int .i64 ix) ∧ W = w' := by
        intro W
        rw [hix0]
        exact IndexByte_calls marks c W
      clear hix0
      replace hix := hide hix
      cases cn : marks.contains 110 with
      | true =>
        have hcn := hide (cn ▸ hcn0)
        clear hcn0
        by_cases e10 : c = 10
        · have t10 := is_yes (n := 10) (d := 10) rfl e10
          have e9 : ¬ c = 9 := by rw [e10]; decide
          have e110 : ¬ c = 110 := by rw [e10]; decide
          have t9 := is_no (n := 9) (d := 9) rfl e9
          have t110 := isnt_yes (n := 110) (d := 110) rfl e110
          have hone := hide (show esc1 marks c = [92, 110] by unfold esc1; simp only [cn]; simp [e10])
          clear e10 e9 e110
          go_wp2_with (first | (go_at_call 57; refine (hcn.out _).mono ?_; rintro e w1 ⟨rfl, rfl⟩) | (go_at_call 59; refine (hix.out _).mono ?_; rintro e w1 ⟨rfl, rfl⟩) | (go_at_call 29; refine (writeString_own b (b + 2) _ [92, 110] _ (by exact HS.out.bld) (by simp; omega) (by exact HS.out.sz)).mono ?_; rintro e w2 ⟨rfl, hb2, hk2, ho2, ht2, hp2, hs2⟩; have HS2 := hide (HS.out.step hb2 hk2 ho2 ht2 hp2 hs2)))
          go_roundw
          case rel => exact ⟨k + 1, by omega, by go_num, by rw [htk.out, hone.out]; exact HS2.out⟩
          case measure => simp [intOf]; omega
        · have t10 := is_no (n := 10) (d := 10) rfl e10
          by_cases e9 : c = 9
          · have t9 := is_yes (n := 9) (d := 9) rfl e9
            have e110 : ¬ c = 110 := by rw [e9]; decide
            have t110 := isnt_yes (n := 110) (d := 110) rfl e110
            have hone := hide (show esc1 marks c = [92, 116] by unfold esc1; simp only [cn]; simp [e10, e9])
            clear e10 e9 e110
            go_wp2_with (first | (go_at_call 57; refine (hcn.out _).mono ?_; rintro e w1 ⟨rfl, rfl⟩) | (go_at_call 59; refine (hix.out _).mono ?_; rintro e w1 ⟨rfl, rfl⟩) | (go_at_call 29; refine (writeString_own b (b + 2) _ [92, 116] _ (by exact HS.out.bld) (by simp; omega) (by exact HS.out.sz)).mono ?_; rintro e w2 ⟨rfl, hb2, hk2, ho2, ht2, hp2, hs2⟩; have HS2 := hide (HS.out.step hb2 hk2 ho2 ht2 hp2 hs2)))
            go_roundw
            case rel => exact ⟨k + 1, by omega, by go_num, by rw [htk.out, hone.out]; exact HS2.out⟩
            case measure => simp [intOf]; omega
          · have t9 := is_no (n := 9) (d := 9) rfl e9
            by_cases e110 : c = 110
            · have t110 := isnt_no (n := 110) (d := 110) rfl e110
              have hone := hide (show esc1 marks c = [c] by unfold esc1; simp [e10, e9, e110])
              clear e10 e9 e110
              go_wp2_with (first | (go_at_call 57; refine (hcn.out _).mono ?_; rintro e w1 ⟨rfl, rfl⟩) | (go_at_call 59; refine (hix.out _).mono ?_; rintro e w1 ⟨rfl, rfl⟩) | (go_at_call 28; refine (writeByte_own b (b + 2) _ c _ (by exact HS.out.bld) (by omega) (by exact HS.out.sz)).mono ?_; rintro e w2 ⟨rfl, hb2, hk2, ho2, ht2, hp2, hs2⟩; have HS2 := hide (HS.out.step hb2 hk2 ho2 ht2 hp2 hs2)))
              go_roundw
              case rel => exact ⟨k + 1, by omega, by go_num, by rw [htk.out, hone.out]; exact HS2.out⟩
              case measure => simp [intOf]; omega
            · have t110 := isnt_yes (n := 110) (d := 110) rfl e110
              cases ci : marks.contains c with
              | true =>
                rw [ci] at hci
                have hone := hide (show esc1 marks c = [92, c] by unfold esc1; simp only [ci]; simp [e10, e9, e110])
                clear e10 e9 e110
                have hcv := conv1 c
                have hsA : ∀ W, (Op.stringOp .add ⟨#[92]⟩ (B [c])).run Tryz.prog W = .ok (.string (B [92, c])) W := fun W => run_string_add_lists W [92] [c] (by simp) (by simp)
                have HSa := hide (HS.out.kept (World.grownBy_alloc _ (.cells #[.int .u8 (c.toNat : Int)] 5) none))
                go_wp2_with (first | (go_at_call 57; refine (hcn.out _).mono ?_; rintro e w1 ⟨rfl, rfl⟩) | (go_at_call 59; refine (hix.out _).mono ?_; rintro e w1 ⟨rfl, rfl⟩) | (go_at_call 29; refine (writeString_own b (b + 2) _ [92, c] _ (by exact (HSa.out).bld) (by simp; omega) (by exact (HSa.out).sz)).mono ?_; rintro e w2 ⟨rfl, hb2, hk2, ho2, ht2, hp2, hs2⟩; have HS2 := hide ((HSa.out).step hb2 hk2 ho2 ht2 hp2 hs2)))
                go_roundw
                case rel => exact ⟨k + 1, by omega, by go_num, by rw [htk.out, hone.out]; exact HS2.out⟩
                case measure => simp [intOf]; omega
              | false =>
                rw [ci] at hci
                have hone := hide (show esc1 marks c = [c] by unfold esc1; simp only [ci]; simp [e10, e9, e110])
                clear e10 e9 e110
                go_wp2_with (first | (go_at_call 57; refine (hcn.out _).mono ?_; rintro e w1 ⟨rfl, rfl⟩) | (go_at_call 59; refine (hix.out _).mono ?_; rintro e w1 ⟨rfl, rfl⟩) | (go_at_call 28; refine (writeByte_own b (b + 2) _ c _ (by exact HS.out.bld) (by omega) (by exact HS.out.sz)).mono ?_; rintro e w2 ⟨rfl, hb2, hk2, ho2, ht2, hp2, hs2⟩; have HS2 := hide (HS.out.step hb2 hk2 ho2 ht2 hp2 hs2)))
                go_roundw
                case rel => exact ⟨k + 1, by omega, by go_num, by rw [htk.out, hone.out]; exact HS2.out⟩
                case measure => simp [intOf]; omega
      | false =>
        have hcn := hide (cn ▸ hcn0)
        clear hcn0
        by_cases e10 : c = 10
        · have t10 := is_yes (n := 10) (d := 10) rfl e10
          have e9 : ¬ c = 9 := by rw [e10]; decide
          have e110 : ¬ c = 110 := by rw [e10]; decide
          have t9 := is_no (n := 9) (d := 9) rfl e9
          have t110 := isnt_yes (n := 110) (d := 110) rfl e110
          cases ci : marks.contains c with
          | true =>
            rw [ci] at hci
            have hone := hide (show esc1 marks c = [92, c] by unfold esc1; simp only [cn, ci]; simp [e9, e110])
            clear e10 e9 e110
            have hcv := conv1 c
            have hsA : ∀ W, (Op.stringOp .add ⟨#[92]⟩ (B [c])).run Tryz.prog W = .ok (.string (B [92, c])) W := fun W => run_string_add_lists W [92] [c] (by simp) (by simp)
            have HSa := hide (HS.out.kept (World.grownBy_alloc _ (.cells #[.int .u8 (c.toNat : Int)] 5) none))
            go_wp2_with (first | (go_at_call 57; refine (hcn.out _).mono ?_; rintro e w1 ⟨rfl, rfl⟩) | (go_at_call 59; refine (hix.out _).mono ?_; rintro e w1 ⟨rfl, rfl⟩) | (go_at_call 29; refine (writeString_own b (b + 2) _ [92, c] _ (by exact (HSa.out).bld) (by simp; omega) (by exact (HSa.out).sz)).mono ?_; rintro e w2 ⟨rfl, hb2, hk2, ho2, ht2, hp2, hs2⟩; have HS2 := hide ((HSa.out).step hb2 hk2 ho2 ht2 hp2 hs2)))
            go_roundw
            case rel => exact ⟨k + 1, by omega, by go_num, by rw [htk.out, hone.out]; exact HS2.out⟩
            case measure => simp [intOf]; omega
          | false =>
            rw [ci] at hci
            have hone := hide (show esc1 marks c = [c] by unfold esc1; simp only [cn, ci]; simp [e9, e110])
            clear e10 e9 e110
            go_wp2_with (first | (go_at_call 57; refine (hcn.out _).mono ?_; rintro e w1 ⟨rfl, rfl⟩) | (go_at_call 59; refine (hix.out _).mono ?_; rintro e w1 ⟨rfl, rfl⟩) | (go_at_call 28; refine (writeByte_own b (b + 2) _ c _ (by exact HS.out.bld) (by omega) (by exact HS.out.sz)).mono ?_; rintro e w2 ⟨rfl, hb2, hk2, ho2, ht2, hp2, hs2⟩; have HS2 := hide (HS.out.step hb2 hk2 ho2 ht2 hp2 hs2)))
            go_roundw
            case rel => exact ⟨k + 1, by omega, by go_num, by rw [htk.out, hone.out]; exact HS2.out⟩
            case measure => simp [intOf]; omega
        · have t10 := is_no (n := 10) (d := 10) rfl e10
          by_cases e9 : c = 9
          · have t9 := is_yes (n := 9) (d := 9) rfl e9
            have e110 : ¬ c = 110 := by rw [e9]; decide
            have t110 := isnt_yes (n := 110) (d := 110) rfl e110
            cases ci : marks.contains c with
            | true =>
              rw [ci] at hci
              have hone := hide (show esc1 marks c = [92, c] by unfold esc1; simp only [cn, ci]; simp [e10, e110])
              clear e10 e9 e110
              have hcv := conv1 c
              have hsA : ∀ W, (Op.stringOp .add ⟨#[92]⟩ (B [c])).run Tryz.prog W = .ok (.string (B [92, c])) W := fun W => run_string_add_lists W [92] [c] (by simp) (by simp)
              have HSa := hide (HS.out.kept (World.grownBy_alloc _ (.cells #[.int .u8 (c.toNat : Int)] 5) none))
              go_wp2_with (first | (go_at_call 57; refine (hcn.out _).mono ?_; rintro e w1 ⟨rfl, rfl⟩) | (go_at_call 59; refine (hix.out _).mono ?_; rintro e w1 ⟨rfl, rfl⟩) | (go_at_call 29; refine (writeString_own b (b + 2) _ [92, c] _ (by exact (HSa.out).bld) (by simp; omega) (by exact (HSa.out).sz)).mono ?_; rintro e w2 ⟨rfl, hb2, hk2, ho2, ht2, hp2, hs2⟩; have HS2 := hide ((HSa.out).step hb2 hk2 ho2 ht2 hp2 hs2)))
              go_roundw
              case rel => exact ⟨k + 1, by omega, by go_num, by rw [htk.out, hone.out]; exact HS2.out⟩
              case measure => simp [intOf]; omega
            | false =>
              rw [ci] at hci
              have hone := hide (show esc1 marks c = [c] by unfold esc1; simp only [cn, ci]; simp [e10, e110])
              clear e10 e9 e110
              go_wp2_with (first | (go_at_call 57; refine (hcn.out _).mono ?_; rintro e w1 ⟨rfl, rfl⟩) | (go_at_call 59; refine (hix.out _).mono ?_; rintro e w1 ⟨rfl, rfl⟩) | (go_at_call 28; refine (writeByte_own b (b + 2) _ c _ (by exact HS.out.bld) (by omega) (by exact HS.out.sz)).mono ?_; rintro e w2 ⟨rfl, hb2, hk2, ho2, ht2, hp2, hs2⟩; have HS2 := hide (HS.out.step hb2 hk2 ho2 ht2 hp2 hs2)))
              go_roundw
              case rel => exact ⟨k + 1, by omega, by go_num, by rw [htk.out, hone.out]; exact HS2.out⟩
              case measure => simp [intOf]; omega
          · have t9 := is_no (n := 9) (d := 9) rfl e9
            by_cases e110 : c = 110
            · have t110 := isnt_no (n := 110) (d := 110) rfl e110
              have hone := hide (show esc1 marks c = [c] by unfold esc1; simp [e10, e9, e110])
              clear e10 e9 e110
              go_wp2_with (first | (go_at_call 57; refine (hcn.out _).mono ?_; rintro e w1 ⟨rfl, rfl⟩) | (go_at_call 59; refine (hix.out _).mono ?_; rintro e w1 ⟨rfl, rfl⟩) | (go_at_call 28; refine (writeByte_own b (b + 2) _ c _ (by exact HS.out.bld) (by omega) (by exact HS.out.sz)).mono ?_; rintro e w2 ⟨rfl, hb2, hk2, ho2, ht2, hp2, hs2⟩; have HS2 := hide (HS.out.step hb2 hk2 ho2 ht2 hp2 hs2)))
              go_roundw
              case rel => exact ⟨k + 1, by omega, by go_num, by rw [htk.out, hone.out]; exact HS2.out⟩
              case measure => simp [intOf]; omega
            · have t110 := isnt_yes (n := 110) (d := 110) rfl e110
              cases ci : marks.contains c with
              | true =>
                rw [ci] at hci
                have hone := hide (show esc1 marks c = [92, c] by unfold esc1; simp only [ci]; simp [e10, e9, e110])
                clear e10 e9 e110
                have hcv := conv1 c
                have hsA : ∀ W, (Op.stringOp .add ⟨#[92]⟩ (B [c])).run Tryz.prog W = .ok (.string (B [92, c])) W := fun W => run_string_add_lists W [92] [c] (by simp) (by simp)
                have HSa := hide (HS.out.kept (World.grownBy_alloc _ (.cells #[.int .u8 (c.toNat : Int)] 5) none))
                go_wp2_with (first | (go_at_call 57; refine (hcn.out _).mono ?_; rintro e w1 ⟨rfl, rfl⟩) | (go_at_call 59; refine (hix.out _).mono ?_; rintro e w1 ⟨rfl, rfl⟩) | (go_at_call 29; refine (writeString_own b (b + 2) _ [92, c] _ (by exact (HSa.out).bld) (by simp; omega) (by exact (HSa.out).sz)).mono ?_; rintro e w2 ⟨rfl, hb2, hk2, ho2, ht2, hp2, hs2⟩; have HS2 := hide ((HSa.out).step hb2 hk2 ho2 ht2 hp2 hs2)))
                go_roundw
                case rel => exact ⟨k + 1, by omega, by go_num, by rw [htk.out, hone.out]; exact HS2.out⟩
                case measure => simp [intOf]; omega
              | false =>
                rw [ci] at hci
                have hone := hide (show esc1 marks c = [c] by unfold esc1; simp only [ci]; simp [e10, e9, e110])
                clear e10 e9 e110
                go_wp2_with (first | (go_at_call 57; refine (hcn.out _).mono ?_; rintro e w1 ⟨rfl, rfl⟩) | (go_at_call 59; refine (hix.out _).mono ?_; rintro e w1 ⟨rfl, rfl⟩) | (go_at_call 28; refine (writeByte_own b (b + 2) _ c _ (by exact HS.out.bld) (by omega) (by exact HS.out.sz)).mono ?_; rintro e w2 ⟨rfl, hb2, hk2, ho2, ht2, hp2, hs2⟩; have HS2 := hide (HS.out.step hb2 hk2 ho2 ht2 hp2 hs2)))
                go_roundw
                case rel => exact ⟨k + 1, by omega, by go_num, by rw [htk.out, hone.out]; exact HS2.out⟩
                case measure => simp [intOf]; omega
    · have hkk : k = s.length := by omega
      subst hkk
      replace HS := hide HS
      go_wp2_with (first | (go_at_call 32; refine (string_own b (b + 2) _ _ (by exact HS.out.bld)).mono ?_; rintro e w2 ⟨rfl, hg2⟩))
      go_ret
      refine ⟨rfl, ?_⟩
      subst hb
      exact below_gb (HS.out.g.trans hg2) none
end
end Go.Proofs.YtgeonilideojnaaGreatDoor.Tk
/- The contract of escaped of the package tokens, in the form that the printed texts ask for. -/
namespace Go.Proofs.YtgeonilideojnaaGreatDoor.TkC
set_option linter.unusedVariables false
set_option linter.unusedSimpArgs false
open Go Go.RowKit Tk
def escaped.f (s marks : ByteArray) : Option ByteArray := if s.size ≤ 65536 then some (B (escapedS marks.data.toList s.data.toList)) else none
theorem escaped.calls (s marks : ByteArray) (r : ByteArray) (w : World) (h : escaped.f s marks = some r) :
    Calls Tryz.prog 45 #[.string s, .string marks] w fun e w' => e = .returned (.string r) ∧ Below w.heap.size w w' := by
  unfold escaped.f at h
  split at h
  · rename_i hc
    injection h with h
    subst h
    have := escaped_calls s.data.toList marks.data.toList w hc
    rw [B_of, B_of] at this
    exact this.mono fun _ _ ⟨h1, h2⟩ => ⟨h1, gb_below h2⟩
  · cases h
end Go.Proofs.YtgeonilideojnaaGreatDoor.TkC
