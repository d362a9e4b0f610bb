/- Part of the road to ClPrintCard: ClSeq, ClEach, ClReadL, ClRead, ClRef, ClRef2, ClRPrint, ClClear, ClAlive. -/
import Derived.RangeFuncNested
import Derived.Laws.EntriesVeiled
import Derived.LoopIn
import Derived.TacticsInMore
import Derived.Lib.SlBytesConst
import Derived.Test.YtlkeegmpjjoicaaDoorPrt02
set_option linter.all false
set_option linter.unusedSimpArgs false
set_option linter.unusedVariables false
set_option linter.unusedSectionVars false
section
/- A range over an iterator that writes a box of its own (X), made before the loop. The body owns some blocks (Dm) and never leaves the loop. -/
namespace Go.Proofs.YtlkeegmpjjoicaaDoor
open Go.RowKit Go.Shelf

/-- of the blocks that were there only the body's own (and block l) have changed; what the body owns now it owned before, or it is new -/
structure Turn (Dm : World → Nat → Prop) (l : Nat) (W W' : World) : Prop where
  os : W'.os = W.os
  tape : W'.tape = W.tape
  output : W'.output = W.output
  size : W.heap.size ≤ W'.heap.size
  block : ∀ k, k < W.heap.size → k ≠ l → ¬ Dm W k → W'.heap[k]? = W.heap[k]?
  own : ∀ k, k < W.heap.size → Dm W' k → Dm W k
theorem Turn.trans {Dm : World → Nat → Prop} {l : Nat} {A B C : World} (h : Turn Dm l A B) (k : Turn Dm l B C) : Turn Dm l A C :=
  ⟨k.os.trans h.os, k.tape.trans h.tape, k.output.trans h.output, Nat.le_trans h.size k.size,
   fun i hi hl hn => (k.block i (Nat.lt_of_lt_of_le hi h.size) hl fun hd => hn (h.own i hi hd)).trans (h.block i hi hl hn), fun i hi hd => h.own i hi (k.own i (Nat.lt_of_lt_of_le hi h.size) hd)⟩

/-- the iterator may change blocks that are new since the loop began, and block X, and none of the body's -/
def Bears {β : Type} (X B : Nat) (Dm : World → Nat → Prop) (J : β → World → Prop) : Prop :=
  ∀ s A C row, J s A → A.grownBy C row → (∀ r, row = some r → (B ≤ r ∨ r = X) ∧ ¬ Dm A r) → J s C ∧ ∀ k, Dm C k → Dm A k

def SeqD {α : Type} (X : Nat) (F : Fence) (n : Nat) (P : Program) (g : Nat) (lb : Array Value) (encs : α → Array Value) (Fr : Nat → Prop) (Link : List α → World → Prop) (S : List α → Prop) (Gx : α → Prop) (N : Nat) (w : World) : Prop :=
  ∀ (l : Nat) (J : List α → World → Prop) (Dm : World → Nat → Prop) (W : World), Below w.heap.size w W → w.heap.size ≤ l → l < W.heap.size → Bears X W.heap.size Dm J → (∀ pre A k, J pre A → Dm A k → k < A.heap.size ∧ ¬ Fr k) → (∀ pre W1, J pre W1 → Link pre W1) →
    (∀ pre x W1, J pre W1 → Gx x → pre.length < N → YieldAt F (n - 1) P l (encs x) W1 fun e W' => e = .returned (.bool true) ∧ J (pre ++ [x]) W' ∧ Turn Dm l W1 W') →
    J [] W → CallsIn F n P g (#[.func (.yield l) #[] #[]] ++ lb) W fun e W' => (∃ v, e = .returned v) ∧ ∃ xs, S xs ∧ J xs W'

set_option maxHeartbeats 400000 in
theorem rangeFunc_dm {F : Fence} {n : Nat} {P : Program} {α : Type} {g : Operand} {ps : Array Tmp} {assign body : Code} {Q : Exit → Act → World → Prop} {a : Act} {w : World}
    (hro : F.round = none) (h1 : 1 ≤ n) {gf : Nat} {lb : Array Value} (hg : a.eval g = .func (.func gf) #[] lb) (hFg : F.fn gf) (eg : ∀ args w, (callFunc gf args).run P w = .ok (.enter gf args) w)
    {encs : α → Array Value} {Fr : Nat → Prop} {Link : List α → World → Prop} {S : List α → Prop} {Gx : α → Prop} {N : Nat} {w0 : World} {X : Nat} (hX : X < w.heap.size) (hseq : SeqD X F (n - 1) P gf lb encs Fr Link S Gx N w0)
    (hb0 : Below w0.heap.size w0 w) (hps : ∀ x, (encs x).size = ps.size)
    (I : List α → World → Prop) (Dm : World → Nat → Prop) (hI : Bears X w.heap.size Dm I) (hD : ∀ pre A k, I pre A → Dm A k → k < A.heap.size ∧ ¬ Fr k ∧ (k < w.heap.size ∨ ∃ o : Obj, A.heap[k]? = some o ∧ o.isCells = true))
    (hL : ∀ pre W, I pre W → Link pre W) (h0 : I [] w) (Ax : α → Act → World → Prop) (hAx : ∀ x a', OwnFrom w.heap.size (fun (_ : Unit) W => Ax x a' W))
    (hassign : ∀ (l : Nat) (pre : List α) (x : α) (W : World) (K : Act → World → Prop), I pre W → (∀ a' W', W.grownBy W' none → Ax x a' W' → K a' W') →
      assign.wpIn (F.inRound l) (n - 1 - 1) P (Exit.then K (fun _ _ _ => False)) { tmps := (ps.zip (encs x)).foldl (fun t (p, v) => t.setIfInBounds p v) a.tmps, defers := [] } W)
    (hbody : ∀ (l : Nat) (pre : List α) (x : α) (a' : Act) (W : World), I pre W → Ax x a' W → Gx x → pre.length < N → body.wpIn (F.inRound l) (n - 1 - 1) P (fun e _ W' => e = .normal ∧ Mods (Dm W) W W' ∧ (∀ k, k < W.heap.size → Dm W' k → Dm W k) ∧ I (pre ++ [x]) W') a' W)
    (hdone : ∀ (D : Nat) (xs : List α) (W : World), w.heap.size ≤ D → S xs → I xs W → W.heap[D]? = some (.deferred (some [])) → Q .normal { a with defers := { target := .collected D, args := #[] } :: a.defers } W) :
    (Code.rangeFunc g ps assign body).wpIn F n P Q a w := by
  refine wpIn_rangeFunc ?_
  intro fn hfn
  rw [hro]
  -- the loop lays two blocks: the deferred calls' and, behind it, its own record
  obtain ⟨mk, hmk⟩ : ∃ mk : LoopState → Loop, mk = fun st => { state := st, pending := none, fn := fn, tmps := a.tmps, params := ps, assign := assign, body := body, defers := w.heap.size } := ⟨_, rfl⟩
  have henter := run_enterLoop_outer (P := P) (w := w) fn a.tmps ps assign body
  have hmr : mk .ready = { state := .ready, pending := none, fn := fn, tmps := a.tmps, params := ps, assign := assign, body := body, defers := w.heap.size } := by rw [hmk]
  rw [← hmr] at henter
  obtain ⟨V, hV⟩ : ∃ V, V = (w.alloc (.deferred (some []))).alloc (.loop (mk .ready)) := ⟨_, rfl⟩
  rw [← hV] at henter
  have sV : V.heap.size = w.heap.size + 2 := by rw [hV]; simp
  have recV : V.heap[w.heap.size + 1]? = some (.loop (mk .ready)) := by
    have := heap_alloc_new (w.alloc (.deferred (some []))) (.loop (mk .ready))
    rw [World.size_alloc] at this
    rw [hV]; exact this
  have defV : V.heap[w.heap.size]? = some (.deferred (some [])) := by
    rw [hV, Below.heap_alloc _ _ _ (by simp)]; exact heap_alloc_new w _
  have iAl : ∀ pre A (o : Obj), I pre A → I pre (A.alloc o) ∧ ∀ k, Dm (A.alloc o) k → Dm A k := fun pre A o h => hI pre A _ none h (World.grownBy_alloc A o none) (fun r e => by cases e)
  have iV : I [] V := by rw [hV]; exact (iAl _ _ _ (iAl _ _ _ h0).1).1
  have bV : Below w0.heap.size w0 V := by
    have hs := hb0.size
    rw [hV]; exact (hb0.alloc hs _).alloc (by simp; omega) _
  -- a block that is no cells, new since the loop, is none of the body's
  have nd : ∀ pre A k (o : Obj), I pre A → w.heap.size ≤ k → A.heap[k]? = some o → o.isCells = false → ¬ Dm A k := fun pre A k o hi hk ho hc hd => by
    rcases (hD pre A k hi hd).2.2 with h | ⟨o', h2, h3⟩
    · omega
    · rw [ho] at h2; cases h2; rw [hc] at h3; cases h3
  -- what holds between the rounds
  obtain ⟨J, hJ⟩ : ∃ J : List α → World → Prop, J = fun pre W => I pre W ∧ W.heap[w.heap.size + 1]? = some (.loop (mk .ready)) ∧ W.heap[w.heap.size]? = some (.deferred (some [])) := ⟨_, rfl⟩
  have jA : Bears X V.heap.size Dm J := by
    intro s A B row hs hgr hrow
    rw [hJ] at hs ⊢
    have keep : ∀ k o, A.heap[k]? = some o → k < V.heap.size → w.heap.size ≤ k → B.heap[k]? = some o := fun k o hk hlt hwk => by
      rw [hgr.block k (Array.getElem?_eq_some_iff.1 hk).1 (fun e => by have := (hrow k e.symm).1; omega)]; exact hk
    have hi := hI s A B row hs.1 hgr (fun r e => ⟨(hrow r e).1.imp (fun h => by omega) id, (hrow r e).2⟩)
    exact ⟨⟨hi.1, keep _ _ hs.2.1 (by omega) (by omega), keep _ _ hs.2.2 (by omega) (by omega)⟩, hi.2⟩
  have call := hseq (w.heap.size + 1) J Dm V bV (by have := hb0.size; omega) (by omega) jA (fun pre A k h hd => by rw [hJ] at h; have := hD pre A k h.1 hd; exact ⟨this.1, this.2.1⟩) (fun pre W1 h => by rw [hJ] at h; exact hL pre W1 h.1) ?round (by rw [hJ]; exact ⟨iV, recV, defV⟩)
  case round =>
    intro pre x W hj hgx hlen
    rw [hJ] at hj
    obtain ⟨hi, hrec, hdef⟩ := hj
    have hrl := (Array.getElem?_eq_some_iff.1 hrec).1
    have hy := run_yield (P := P) (args := encs x) hrec (by rw [hmk]; exact hps x)
    obtain ⟨busy, hbusy⟩ : ∃ r : Loop, r = { mk .ready with state := .busy } := ⟨_, rfl⟩
    have hy2 : (Instr.yield (w.heap.size + 1) (encs x)).run P W = .ok (.round (w.heap.size + 1) fn ((ps.zip (encs x)).foldl (fun t (p, v) => t.setIfInBounds p v) a.tmps) assign body) W := by rw [hy, hmk]
    refine ⟨fn, _, assign, body, hy2, roundIn_of_wpIn hfn (hassign _ pre x W _ hi fun a' Wa hga hax => ?_)⟩
    have hia := hI pre W Wa none hi hga (fun r e => by cases e)
    have hrec1 : Wa.heap[w.heap.size + 1]? = some (.loop (mk .ready)) := (hga.block _ hrl (by simp)).trans hrec
    have hdef1 : Wa.heap[w.heap.size]? = some (.deferred (some [])) := (hga.block _ (Array.getElem?_eq_some_iff.1 hdef).1 (by simp)).trans hdef
    have hrl1 := (Array.getElem?_eq_some_iff.1 hrec1).1
    have hbegin := run_beginRound (P := P) hrec1 (by rw [hmk])
    rw [← hbusy] at hbegin
    refine ⟨_, hbegin, ?_⟩
    have rec2 : (Wa.putObj (w.heap.size + 1) (.loop busy)).heap[w.heap.size + 1]? = some (.loop busy) := World.putObj_heap_same hrl1
    have def2 : (Wa.putObj (w.heap.size + 1) (.loop busy)).heap[w.heap.size]? = some (.deferred (some [])) := (World.putObj_heap_other (by omega)).trans hdef1
    have hi2 := hI pre Wa _ (some (w.heap.size + 1)) hia.1 (grownBy_putObj' Wa (w.heap.size + 1) (.loop busy)) (fun r e => by cases e; exact ⟨.inl (by omega), nd pre Wa _ _ hia.1 (by omega) hrec1 rfl⟩)
    have ax2 : Ax x a' (Wa.putObj (w.heap.size + 1) (.loop busy)) := (hAx x a').putObj (s := ()) _ hax (by omega) hrec1 rfl
    have t2 : Turn Dm (w.heap.size + 1) W (Wa.putObj (w.heap.size + 1) (.loop busy)) := ⟨hga.os, hga.tape, hga.output, Nat.le_trans hga.size (grownBy_putObj' Wa (w.heap.size + 1) (.loop busy)).size, fun k hk hl hn => (World.putObj_heap_other hl).trans (hga.block k hk (by simp)), fun k hk hd => hia.2 k (hi2.2 k hd)⟩
    refine wpIn_mono (hbody _ pre x a' _ hi2.1 ax2 hgx hlen) ?_
    rintro e a3 W3 ⟨rfl, hm3, ho3, hi3⟩
    have rec3 : W3.heap[w.heap.size + 1]? = some (.loop busy) := (hm3.block _ (Array.getElem?_eq_some_iff.1 rec2).1 (nd pre _ _ _ hi2.1 (by omega) rec2 rfl)).trans rec2
    have def3 : W3.heap[w.heap.size]? = some (.deferred (some [])) := (hm3.block _ (Array.getElem?_eq_some_iff.1 def2).1 (nd pre _ _ _ hi2.1 (by omega) def2 rfl)).trans def2
    have hend := run_endRound (P := P) none rec3
    have hst : ({ busy with state := .ready, pending := none } : Loop) = mk .ready := by rw [hbusy, hmk]
    simp only [Option.isNone_none, if_true, hst] at hend
    have hi4 := hI _ W3 _ (some (w.heap.size + 1)) hi3 (grownBy_putObj' W3 (w.heap.size + 1) (.loop (mk .ready))) (fun r e => by cases e; exact ⟨.inl (by omega), nd _ W3 _ _ hi3 (by omega) rec3 rfl⟩)
    have t3 : Turn Dm (w.heap.size + 1) (Wa.putObj (w.heap.size + 1) (.loop busy)) W3 := ⟨hm3.os, hm3.tape, hm3.output, hm3.size, fun k hk _ hn => hm3.block k hk hn, ho3⟩
    have t4 : Turn Dm (w.heap.size + 1) W3 (W3.putObj (w.heap.size + 1) (.loop (mk .ready))) := ⟨rfl, rfl, rfl, (grownBy_putObj' W3 (w.heap.size + 1) (.loop (mk .ready))).size, fun k _ hl _ => World.putObj_heap_other hl, fun k _ hd => hi4.2 k hd⟩
    refine ⟨_, _, hend, rfl, ?_, (t2.trans t3).trans t4⟩
    rw [hJ]
    exact ⟨hi4.1, World.putObj_heap_same (Array.getElem?_eq_some_iff.1 rec3).1, (World.putObj_heap_other (by omega)).trans def3⟩
  refine ⟨w.heap.size + 1, [{ target := .collected w.heap.size, args := #[] }], V, { target := .fn (.func gf) lb, args := #[.func (.yield (w.heap.size + 1)) #[] #[]] }, V, gf, #[.func (.yield (w.heap.size + 1)) #[] #[]] ++ lb, V, henter, ?_, ?_, ?_, fun _ => h1, ?_⟩
  · simp only [resolve, hg]
    simp [go_sem]
  · intro f' hf'
    simp [Target.leads] at hf'
    subst hf'; exact hFg
  · simp [invoke, go_sem, eg]
  · refine call.mono ?_
    rintro e W2 ⟨⟨v, rfl⟩, xs, hS, hj⟩
    rw [hJ] at hj
    obtain ⟨hi, hrec, hdef⟩ := hj
    have hend := run_endLoop (P := P) hrec (by rw [hmk]; simp)
    rw [show (mk .ready).pending = none by rw [hmk]] at hend
    have hfin := hdone w.heap.size xs (W2.putObj (w.heap.size + 1) (.loop { mk .ready with state := .exhausted, pending := none })) (Nat.le_refl _) hS (hI _ W2 _ (some (w.heap.size + 1)) hi (grownBy_putObj' W2 _ _) (fun r e => by cases e; exact ⟨.inl (by omega), nd _ W2 _ _ hi (by omega) hrec rfl⟩)).1 ((World.putObj_heap_other (by omega)).trans hdef)
    refine ⟨none, _, hend, ?_⟩
    exact hfin
end Go.Proofs.YtlkeegmpjjoicaaDoor
end

section
/- The words of a line, gone over: each. -/
namespace Go.Proofs.YtlkeegmpjjoicaaDoor
open Go.RowKit Go.Shelf
attribute [local go_sem] Oper.semAt_some

theorem each_c (s : ByteArray) (w : World) : Calls Tryd.prog 24 #[.string s] w fun e w' => e = .returned (.func (.func 32) #[] #[.pointer (some ⟨w.heap.size, 0, none⟩)]) ∧ w' = w.alloc (.cells #[.string s] 9) := by
  go_enter Tryd.func24, Tryd.ntmps24
  go_wp2
  go_ret
  exact ⟨rfl, rfl⟩

/-- a cell that the body may not touch -/
def Mine (Dm : World → Nat → Prop) (b : Nat) (xs : List Value) (t : TypeId) (W : World) : Prop := Blk t W b xs ∧ ¬ Dm W b
theorem Mine.turn {Dm : World → Nat → Prop} {b l : Nat} {xs : List Value} {t : TypeId} {W W' : World} (h : Mine Dm b xs t W) (ht : Turn Dm l W W') (hl : b ≠ l) : Mine Dm b xs t W' :=
  ⟨(ht.block b h.1.lt hl h.2).trans h.1, fun hd => h.2 (ht.own b h.1.lt hd)⟩
/-- the variable of the library's: a number stands there, and the body may not touch it -/
def Glo (Dm : World → Nat → Prop) (W : World) : Prop := (∃ m, W.cell? ⟨1, 0, none⟩ = some (.int .i64 m)) ∧ ¬ Dm W 1
theorem Glo.turn {Dm : World → Nat → Prop} {l : Nat} {W W' : World} (h : Glo Dm W) (ht : Turn Dm l W W') (hl : 1 ≠ l) : Glo Dm W' := by
  obtain ⟨⟨m, hm⟩, hd⟩ := h
  exact ⟨⟨m, by rw [World.cell?_of_block (w := W) (ht.block 1 (lt_of_cell hm) hl hd)]; exact hm⟩, fun h => hd (ht.own 1 (lt_of_cell hm) h)⟩
theorem Glo.grown {Dm : World → Nat → Prop} {W W' : World} {row : Option Nat} (h : Glo Dm W) (hg : W.grownBy W' row) (hr : row ≠ some 1) (hd : ∀ k, Dm W' k → Dm W k) : Glo Dm W' := by
  obtain ⟨⟨m, hm⟩, h2⟩ := h
  exact ⟨⟨m, by rw [World.cell?_of_block (w := W) (hg.block 1 (lt_of_cell hm) (fun e => hr e.symm))]; exact hm⟩, fun h => h2 (hd _ h)⟩
theorem grownBy_drewN (w : World) (n : Nat) : w.grownBy (w.drewN n) none := ⟨rfl, rfl, rfl, Nat.le_refl _, fun _ _ _ => rfl⟩
theorem grown_set (w : World) (B o : Nat) (v : Value) : w.grownBy (w.setCell ⟨B, o, none⟩ v) (some B) := ⟨rfl, rfl, rfl, by simp [World.setCell], fun k hk hne => Below.heap_setCell _ _ _ _ (fun e => hne (by rw [e]))⟩
theorem wide_round {n m : Nat} {P : Program} {l f : Nat} {tmps : Array Value} {assign body : Code} {w : World} {R : Ending → World → Prop} (h : RoundIn Fence.wide n P l f tmps assign body w R) : RoundIn Fence.wide m P l f tmps assign body w R :=
  ⟨h.1, fun c cs _ => h.2 c cs (room_wide _)⟩

def lineB (P : List ByteArray) : ByteArray := baL (Lib.join (P.map (·.data.toList)) [32])
theorem cut_c (x : ByteArray) (P : List ByteArray) (hx : noBlank x.data.toList) (hl : (lineB (x :: P)).size ≤ 3000000) (w : World) (hm : ∃ m, w.cell? ⟨1, 0, none⟩ = some (.int .i64 m)) :
    Calls Tryd.prog 33 #[.string (lineB (x :: P)), .string ⟨#[32]⟩] w fun e w' => e = .returned (.tuple #[.string x, .string (lineB P), .bool (decide (P ≠ []))]) ∧ ∃ n, w' = w.drewN n := by
  obtain ⟨m, hm⟩ := hm
  have h := Tryd.strings_Cut (lineB (x :: P)) ⟨#[32]⟩ m w (by omega) hm
  have e1 : (lineB (x :: P)).data.toList = Lib.join (x.data.toList :: P.map (·.data.toList)) [32] := baL_toList _
  have e2 : (⟨#[32]⟩ : ByteArray).data.toList = [32] := rfl
  rw [e1, e2, cut_join _ _ hx] at h
  have e3 : (⟨x.data.toList.toArray⟩ : ByteArray) = x := mk_toList x
  have e4 : decide (P.map (fun x : ByteArray => x.data.toList) ≠ []) = decide (P ≠ []) := by cases P <;> simp
  simp only [e3] at h
  rw [e4] at h
  exact h
theorem lineB_drop (P : List ByteArray) (hl : (lineB P).size ≤ 3000000) (k : Nat) : (lineB (P.drop k)).size ≤ 3000000 := by
  induction k generalizing P with
  | zero => simpa using hl
  | succ k ih =>
    cases P with
    | nil => simpa using hl
    | cons x P =>
      rw [List.drop_succ_cons]
      refine ih P ?_
      have e : (lineB (x :: P)).size = (Lib.join (x.data.toList :: P.map (·.data.toList)) [32]).length := by rw [← sz]; exact congrArg List.length (baL_toList _)
      have e2 : (lineB P).size = (Lib.join (P.map (·.data.toList)) [32]).length := by rw [← sz]; exact congrArg List.length (baL_toList _)
      cases P with
      | nil => rw [e2]; simp [Lib.join]
      | cons y P =>
        rw [e, List.map_cons, join_cons2, List.length_append, List.length_cons] at hl
        rw [e2]; simp only [List.map_cons] at hl ⊢; omega

def measX (X : Nat) (v : Value) (w : World) : Nat := (match w.cell? ⟨X, 0, none⟩ with | some (.string s) => s.size | _ => 0) + (match v with | .bool true => 1 | _ => 0)
theorem measX_of {X : Nat} {s : ByteArray} {b : Bool} {w : World} (h : w.cell? ⟨X, 0, none⟩ = some (.string s)) : measX X (.bool b) w = s.size + (if b then 1 else 0) := by
  unfold measX; rw [h]; cases b <;> rfl
theorem lineB_size (P : List ByteArray) : (lineB P).size = (Lib.join (P.map (·.data.toList)) [32]).length := by rw [← sz]; exact congrArg List.length (baL_toList _)
theorem line_less {P : List ByteArray} {k : Nat} (h : k < P.length) : (lineB (P.drop (k + 1))).size + (if decide (k + 1 < P.length) then 1 else 0) < (lineB (P.drop k)).size + (if decide (k < P.length) then 1 else 0) := by
  rw [decide_eq_true h, lineB_size, lineB_size, ← List.getElem_cons_drop (h := h)]
  cases hd : P.drop (k + 1) with
  | nil =>
    have : P.length ≤ k + 1 := List.drop_eq_nil_iff.1 hd
    rw [decide_eq_false (by omega)]
    simp [Lib.join]
  | cons y Q =>
    have : k + 1 < P.length := by
      have := congrArg List.length hd
      rw [List.length_drop, List.length_cons] at this; omega
    rw [decide_eq_true this, List.map_cons, List.map_cons, List.map_cons, join_cons2, List.length_append, List.length_cons]
    simp only [if_true]; omega
theorem drop_dec {P : List ByteArray} {k : Nat} : decide (P.drop (k + 1) ≠ []) = decide (k + 1 < P.length) := by
  by_cases h : k + 1 < P.length
  · rw [decide_eq_true h, decide_eq_true]; intro e; have := List.drop_eq_nil_iff.1 e; omega
  · rw [decide_eq_false h, decide_eq_false]; simp; omega
set_option maxRecDepth 100000 in
set_option maxHeartbeats 4000000 in
theorem each_seq (n : Nat) (hn : 3 ≤ n) (P : List ByteArray) (hne : P ≠ []) (hnb : ∀ x ∈ P, noBlank x.data.toList) (hl : (lineB P).size ≤ 3000000) (X : Nat) (hX1 : X ≠ 1) (w : World) (hX : Blk 9 w X [.string (lineB P)]) (hg : ∃ m, w.cell? ⟨1, 0, none⟩ = some (.int .i64 m)) :
    SeqD X Fence.wide n Tryd.prog 32 #[.pointer (some ⟨X, 0, none⟩)] (fun x : ByteArray => #[.string x]) (fun k => k = X ∨ k = 1) (fun _ _ => True) (fun xs => xs = P) (fun _ => True) P.length w := by
  intro l J Dm W hW hl1 hl2 hB hDlt hLink hY h0
  have hXl := hX.lt
  have h1l : 1 < w.heap.size := by obtain ⟨m, hm⟩ := hg; exact lt_of_cell hm
  have mX : Mine Dm X [.string (lineB P)] 9 W := ⟨(hW.block _ hXl).trans hX, fun hd => (hDlt _ _ _ h0 hd).2 (.inl rfl)⟩
  have mG : Glo Dm W := ⟨by obtain ⟨m, hm⟩ := hg; exact ⟨m, by rw [hW.cell (p := ⟨1, 0, none⟩) h1l]; exact hm⟩, fun hd => (hDlt _ _ _ h0 hd).2 (.inr rfl)⟩
  refine callsIn_of_wp Tryd.func32 rfl trivial ?_ rfl
  simp only [Tryd.ntmps32, List.size_toArray, List.length_cons, List.length_nil, Nat.reduceAdd, Nat.reduceSub, Array.replicate_succ, Array.replicate_zero, List.push_toArray, List.append_toArray, List.nil_append, List.cons_append]
  gi_wp2
  gi_loopw [3] (fun v3 wr => ∃ k : Nat, k ≤ P.length ∧ v3 = .bool (decide (k < P.length)) ∧ Hid (J (P.take k) wr) ∧ Hid (Mine Dm X [.string (lineB (P.drop k))] 9 wr) ∧ Hid (Glo Dm wr)) (fun v3 wr => measX X v3 wr)
  case atStart =>
    have hp : 0 < P.length := List.length_pos_iff.2 hne
    exact ⟨0, Nat.zero_le _, by rw [decide_eq_true hp], Lib.hid h0, Lib.hid mX, Lib.hid mG⟩
  case round =>
    obtain ⟨k, hk, rfl, HJ, HM, HG⟩ := hrel
    have hXr := HM.out.1.lt
    have hcell := HM.out.1.cell 0
    have hfr := HM.out.1.frozen 0
    simp only [List.getElem?_cons_zero] at hcell
    by_cases hlt : k < P.length
    · have hdr : P.drop k = P[k] :: P.drop (k + 1) := (List.getElem_cons_drop (h := hlt)).symm
      have hls := lineB_drop P hl k
      have hcut := cut_c P[k] (P.drop (k + 1)) (hnb _ (List.getElem_mem hlt)) (by rw [← hdr]; exact hls) wr HG.out.1
      have hless := line_less hlt
      have hm0 := measX_of (b := decide (k < P.length)) hcell
      rw [← hdr] at hcut
      have HLS := Lib.hid hless; have HM0 := Lib.hid hm0; have HC := Lib.hid hcut; have HD := Lib.hid hdr
      clear hless hm0 hcut hls hdr
      have td : decide (k < P.length) = true := by simp [hlt]
      gi_wp2
      refine ⟨trivial, fun _ => (by omega), (callsIn_wide.2 HC.out).mono ?_⟩
      rintro e w2 ⟨rfl, m, rfl⟩
      obtain ⟨J2, d2⟩ := hB _ wr _ none HJ.out (grownBy_drewN wr m) (fun r e => by cases e)
      have m2 : Mine Dm X [.string (lineB (P.drop k))] 9 (wr.drewN m) := ⟨HM.out.1, fun hd => HM.out.2 (d2 _ hd)⟩
      have g2 := HG.out.grown (grownBy_drewN wr m) (by simp) d2
      obtain ⟨J3, d3⟩ := hB _ _ _ _ J2 (grown_set (wr.drewN m) X 0 (.string (lineB (P.drop (k + 1))))) (fun r e => by cases e; exact ⟨.inr rfl, m2.2⟩)
      have m3 : Mine Dm X [.string (lineB (P.drop (k + 1)))] 9 _ := ⟨m2.1.set 0 _, fun hd => m2.2 (d3 _ hd)⟩
      have g3 := g2.grown (grown_set (wr.drewN m) X 0 (.string (lineB (P.drop (k + 1))))) (fun e => hX1 (Option.some.inj e)) d3
      obtain ⟨fn, tmps, assign, body, hy, hR⟩ := hY _ P[k] _ J3 trivial (by rw [List.length_take]; omega)
      have HR := Lib.hid hR
      have M3 := Lib.hid m3; have G3 := Lib.hid g3
      clear J2 d2 m2 g2 J3 d3 m3 g3 hR
      gi_wp2
      refine ⟨fun _ => (by omega), HR.out.mono ?_⟩
      rintro e W4 ⟨rfl, J4, t4⟩
      have M4 := Lib.hid (M3.out.turn t4 (by omega)); have G4 := Lib.hid (G3.out.turn t4 (by omega))
      have hJ4 : J (P.take (k + 1)) W4 := by rw [List.take_add_one, List.getElem?_eq_getElem hlt]; exact J4
      have HJ4 := Lib.hid hJ4
      clear J4 t4 hy hJ4
      gi_wp2
      go_roundw
      case rel => exact ⟨k + 1, by omega, (by first | rfl | rw [drop_dec]), HJ4, M4, G4⟩
      case measure =>
        rw [HM0.out]
        (try rw [drop_dec])
        have h4 := M4.out.1.cell 0
        simp only [List.getElem?_cons_zero] at h4
        rw [measX_of h4]
        exact HLS.out
    · obtain rfl : k = P.length := by omega
      have hJ5 := HJ.out
      rw [List.take_length] at hJ5
      have HJ5 := Lib.hid hJ5
      clear hJ5
      have td : decide (P.length < P.length) = false := by simp
      gi_wp2
      refine bodyPost_end (results_none rfl _ _ _) rfl ?_
      exact ⟨⟨_, rfl⟩, P, rfl, HJ5.out⟩
end Go.Proofs.YtlkeegmpjjoicaaDoor
end

section
/- What Read leans on. -/
namespace Go.Proofs.YtlkeegmpjjoicaaDoor
open Go.RowKit Go.Shelf

theorem fields_0 (b : Nat) (a : Option Addr) (lcap : Nat) (w : World) :
    Calls Tryd.prog 25 #[.pointer (some ⟨b, 0, none⟩), .string ⟨#[]⟩, .slice a 0 lcap] w fun e w' => e = .returned (.bool true) ∧ Below w.heap.size w w' := by
  go_enter Tryd.func25, Tryd.ntmps25
  go_wp2
  go_loopw [7, 8, 9] (fun v7 _ _ wr => v7 = .bool true ∧ Hid (wr.heap[w.heap.size]? = some (.stringIter ⟨#[]⟩ 0)) ∧ Hid (Below w.heap.size w wr)) (fun _ _ _ _ => 0)
  case atStart => exact ⟨rfl, Lib.hid (World.iter_heap w _ 0), Lib.hid ((Below.refl _ _).alloc (Nat.le_refl _) _)⟩
  case round =>
    obtain ⟨rfl, HI, HB⟩ := hrel
    have hnx := Lib.run_next_end_at (P := Tryd.prog) wr w.heap.size ⟨#[]⟩ 0 0 HI.out (by decide)
    go_wp2
    go_ret
    exact ⟨rfl, HB.out⟩

theorem known_cases {k : Int} (h : known k = true) : k = 1 ∨ k = 2 ∨ k = 3 ∨ k = 4 ∨ k = 5 ∨ k = 6 ∨ k = 7 ∨ k = 8 ∨ k = 9 ∨ k = 10 ∨ k = 11 ∨ k = 12 ∨ k = 13 := by
  simp only [known, Bool.and_eq_true, decide_eq_true_eq] at h; omega
theorem clear_kind (c : CV) (h : known c.kind = true) : (clearV c).kind = c.kind := by
  obtain ⟨k, p, t, o, n, d⟩ := c
  rcases known_cases h with h | h | h | h | h | h | h | h | h | h | h | h | h <;> (simp only at h; subst h; rfl)
theorem clear_print (c : CV) (h : known c.kind = true) : printL (clearV c) = printL c := by
  obtain ⟨k, p, t, o, n, d⟩ := c
  rcases known_cases h with h | h | h | h | h | h | h | h | h | h | h | h | h <;> (simp only at h; subst h; rfl)
theorem setF_sized {o c : CV} (ho : Sized o) (hc : Sized c) (f : UInt8) : Sized (setF o c f) := by
  unfold setF
  split
  · exact ⟨hc.p, ho.t, ho.o0, ho.o1, ho.n0, ho.n1, ho.d⟩
  · split
    · exact ⟨ho.p, hc.t, ho.o0, ho.o1, ho.n0, ho.n1, ho.d⟩
    · split
      · exact ⟨ho.p, ho.t, hc.o0, hc.o1, ho.n0, ho.n1, ho.d⟩
      · split
        · exact ⟨ho.p, ho.t, ho.o0, ho.o1, hc.n0, hc.n1, ho.d⟩
        · exact ⟨ho.p, ho.t, ho.o0, ho.o1, ho.n0, ho.n1, hc.d⟩
theorem fold_sized {c : CV} (hc : Sized c) : ∀ (l : List UInt8) (o : CV), Sized o → Sized (l.foldl (fun o f => setF o c f) o)
  | [], _, h => h
  | f :: l, o, h => fold_sized hc l _ (setF_sized h hc f)
theorem clear_sized (c : CV) (hc : Sized c) : Sized (clearV c) := fold_sized hc _ _ ⟨by show (⟨#[]⟩ : ByteArray).size ≤ _; decide, by show (⟨#[]⟩ : ByteArray).size ≤ _; decide, by show _ ≤ (0 : Int); omega, by show (0 : Int) ≤ _; omega, by show _ ≤ (0 : Int); omega, by show (0 : Int) ≤ _; omega, by show 0 ≤ _; omega⟩
theorem wd_inj {j k : Int} (hj : known j = true) (hk : known k = true) (h : (wd j.toNat).data.toList = (wd k.toNat).data.toList) : j = k := by
  simp only [known, Bool.and_eq_true, decide_eq_true_eq] at hj hk
  have := wd_fin ⟨j.toNat, by omega⟩ ⟨k.toNat, by omega⟩ (by show 1 ≤ j.toNat; omega) (by show 1 ≤ k.toNat; omega) h
  have h2 : j.toNat = k.toNat := congrArg Fin.val this
  omega
theorem wd_ne' {j : Int} (hj : known j = true) : (wd j.toNat).data.toList ≠ [] := by
  simp only [known, Bool.and_eq_true, decide_eq_true_eq] at hj
  exact wd_ne ⟨j.toNat, by omega⟩ (by show 1 ≤ j.toNat; omega)
/-- the words that a line has -/
def lineP (c : CV) : List ByteArray := if known c.kind then piecesB c else [⟨#[]⟩]
theorem lineP_line (c : CV) : lineB (lineP c) = baL (printL c) := by
  unfold lineB lineP printL
  cases h : known c.kind with
  | true => simp only [if_true, piecesB_toList]
  | false => rfl
theorem lineP_ne (c : CV) : lineP c ≠ [] := by unfold lineP piecesB; cases known c.kind <;> simp
theorem lineP_nb (c : CV) : ∀ x ∈ lineP c, noBlank x.data.toList := by
  intro x hx
  unfold lineP at hx
  cases h : known c.kind with
  | true =>
    rw [h, if_pos rfl] at hx
    have : x.data.toList ∈ piecesL c := by rw [← piecesB_toList]; exact List.mem_map.2 ⟨x, hx, rfl⟩
    exact noBlank_of_word (pieces_word c h _ this)
  | false => rw [h] at hx; simp at hx; subst hx; intro b hb; cases hb
theorem lineP_len (c : CV) : (lineP c).length ≤ 4 := by
  unfold lineP
  cases h : known c.kind with
  | true =>
    simp only [if_true, piecesB, List.length_cons, List.length_map, sz]
    simp only [known, Bool.and_eq_true, decide_eq_true_eq] at h
    have := (wd_len ⟨c.kind.toNat, by omega⟩).2
    simp only at this; omega
  | false => simp
theorem lineP_size (c : CV) (hc : Sized c) : (lineB (lineP c)).size ≤ 3000000 := by
  rw [lineP_line, ← sz, baL_toList]
  unfold printL
  cases h : known c.kind with
  | true => have := join_len c hc h; simp only [if_true]; omega
  | false => simp
/-! ### the list of the words as it grows: block LB holds it -/
def DmL (LB : Nat) (W : World) (k : Nat) : Prop := k = LB ∨ ∃ n cap, W.cell? ⟨LB, 0, none⟩ = some (.slice (some ⟨k, 0, none⟩) n cap)
def zeroCall : List Value := [.int .i64 0, .string ⟨#[]⟩, .string ⟨#[]⟩, .int .i64 0, .int .i64 0, .slice none 0 0]
structure IL (w0 : World) (LB : Nat) (pre : List ByteArray) (W : World) : Prop where
  ex : ∃ v, Blk 34 W LB [v] ∧ W.ownsRow (LB + 2) 9 1 v pre.length (strs pre)
  bel : Below w0.heap.size w0 W
  res : Blk 24 W w0.heap.size zeroCall
theorem own_cases {W : World} {base e n : Nat} {v : Value} {xs : List Value} (h : W.ownsRow base e 1 v n xs) : v = .slice none 0 0 ∨ ∃ g cap cur, v = .slice (some ⟨g, 0, none⟩) n cap ∧ base ≤ g ∧ W.heap[g]? = some (.cells cur e (0, 0)) := by
  obtain ⟨_, ⟨h, _⟩ | ⟨g, cap, cur, h1, h2, h3, _⟩⟩ := h
  · exact .inl h
  · exact .inr ⟨g, cap, cur, h1, h2, h3⟩
theorem IL.dm {w0 : World} {LB : Nat} {pre : List ByteArray} {W : World} (h : IL w0 LB pre W) {k : Nat} (hk : DmL LB W k) : LB ≤ k ∧ ∃ o : Obj, W.heap[k]? = some o ∧ o.isCells = true := by
  obtain ⟨v, hb, ho⟩ := h.ex
  rcases hk with rfl | ⟨n, cap, hc⟩
  · exact ⟨Nat.le_refl _, _, hb, rfl⟩
  · rw [hb.cell 0] at hc
    simp only [List.getElem?_cons_zero, Option.some.injEq] at hc
    subst hc
    rcases own_cases ho with h | ⟨g, cap, cur, h1, h2, h3⟩
    · cases h
    · cases h1; exact ⟨by omega, _, h3, rfl⟩
theorem IL.ne {w0 : World} {LB : Nat} {pre : List ByteArray} {W : World} (h : IL w0 LB pre W) {k : Nat} (hk : DmL LB W k) : k ≠ LB + 1 := by
  obtain ⟨v, hb, ho⟩ := h.ex
  rcases hk with rfl | ⟨n, cap, hc⟩
  · omega
  · rw [hb.cell 0] at hc
    simp only [List.getElem?_cons_zero, Option.some.injEq] at hc
    subst hc
    have := (ho.lt k rfl).1; omega
theorem IL.bears {w0 : World} {LB X B : Nat} (h0 : w0.heap.size ≤ LB) (hX : w0.heap.size < X) (hB : w0.heap.size < B) : Bears X B (DmL LB) (IL w0 LB) := by
  intro pre A C row hA hg hr
  have hA' := hA
  obtain ⟨⟨v, hb, ho⟩, hbel, hres⟩ := hA
  have hnb : row ≠ some LB := fun e => (hr LB e).2 (.inl rfl)
  have hb2 : Blk 34 C LB [v] := (hg.block LB hb.lt (fun e => hnb e.symm)).trans hb
  have hc : C.cell? ⟨LB, 0, none⟩ = A.cell? ⟨LB, 0, none⟩ := by rw [hb2.cell, hb.cell]
  refine ⟨⟨⟨v, hb2, ?_⟩, hbel.grown hg (Nat.le_trans (by have := hbel.size; omega) (Nat.le_refl _)) (fun k e => by rcases (hr k e).1 with h | h <;> omega), (hg.block _ hres.lt (fun e => by rcases (hr _ e.symm).1 with h | h <;> omega)).trans hres⟩, ?_⟩
  · refine ho.kept hg ?_
    rcases own_cases ho with rfl | ⟨g, cap, cur, rfl, h2, h3⟩
    · exact .inl rfl
    · right; intro e; exact (hr g e.symm).2 (.inr ⟨_, _, by rw [hb.cell]; rfl⟩)
  · rintro k (rfl | ⟨n, cap, h⟩)
    · exact .inl rfl
    · exact .inr ⟨n, cap, by rw [← hc]; exact h⟩
end Go.Proofs.YtlkeegmpjjoicaaDoor
end

section
/- A line read: Read. -/
namespace Go.Proofs.YtlkeegmpjjoicaaDoor
open Go.RowKit
open Go.Shelf
attribute [local go_sem] Oper.semAt_some

theorem cells_new1 (w : World) (B : Nat) (x : Value) (t : TypeId) (hB : w.heap.size = B) : ∀ j u, [x][j]? = some u → (w.alloc (.cells #[x] t)).cell? ((⟨B, 0, none⟩ : Addr).add j) = some u := by
  subst hB
  intro j u h
  have hb := Blk.new (e := t) w [x]
  have := hb.cell j
  rw [h] at this
  simpa [Addr.add_lit] using this
theorem below_none {B : Nat} {a b : World} (h : a.grownBy b none) (hB : B ≤ a.heap.size) : Below B a b := ⟨h.os, h.tape, h.output, h.size, fun k hk => h.block k (by omega) (by simp)⟩
theorem wordsG_known {x : Int} (h : (wordsG x).isSome = true) : known x = true := by
  unfold wordsG at h
  cases hk : known x with
  | true => rfl
  | false => rw [hk] at h; cases h
theorem inv_int (key : Value) (kl : Lit) (h : keyOf Tryd.prog 3 key = some kl) : ∃ x, key = .int .i64 x := by
  obtain ⟨x, rfl, _⟩ := Maps.keyOf_int_inv Tryd.underlying3 h
  exact ⟨x, rfl⟩
theorem inv_two (v : Value) (y : DU × List MemPlace) (h : twoR v = some y) : ∃ c : ByteArray × ByteArray, v = .agg #[.string c.1, .string c.2] := by
  obtain ⟨a, b, rfl, _⟩ := twoR_inv h
  exact ⟨(a, b), rfl⟩
theorem key_is {x x2 : Int} {kl : Lit} (h : keyOf Tryd.prog 3 (.int .i64 x) = some kl) (h2 : kl = intK x2) : x = x2 ∧ intOk x := by
  obtain ⟨x', e, rfl, hw⟩ := Maps.keyOf_int_inv Tryd.underlying3 h
  cases e
  simp only [intK, Lit.int.injEq, true_and] at h2
  refine ⟨h2, ?_⟩
  have e : IntKind.i64.min = -9223372036854775808 := by decide
  have e2 : IntKind.i64.max = 9223372036854775807 := by decide
  simp [Lit.wf, e, e2] at hw
  exact hw
theorem entry_is {D : DU} {x : Int} {kl : Lit} {A B : ByteArray} {y1 : DU} {y2 : List MemPlace} (hD : ∀ x, intOk x → Maps.has D (intK x) = (wordsG x).isSome ∧ ∀ z, D.atKey (intK x) z = (wordsG x).getD z) (hk : known x = true) (hx : intOk x) (hkl : kl = intK x)
    (hat : ∀ zd, D.atKey kl zd = y1) (hv : twoR (.agg #[.string A, .string B]) = some (y1, y2)) : A = wd x.toNat ∧ B = fd x.toNat := by
  have h1 := hat (twoD ⟨#[]⟩ ⟨#[]⟩)
  rw [hkl, (hD x hx).2] at h1
  unfold wordsG at h1
  rw [hk] at h1
  simp only [if_true, Option.getD_some] at h1
  subst h1
  have := twoR_eq hv
  simp only [Value.agg.injEq] at this
  have h3 := congrArg Array.toList this
  simp only [List.cons.injEq, Value.string.injEq, and_true] at h3
  exact h3
theorem fin_call {w W9 : World} {b D : Nat} {xs : List Value} (hb : Blk 24 W9 b xs) (hbe : Below w.heap.size w W9) (hd : W9.heap[D]? = some (.deferred (some []))) (hD : w.heap.size ≤ D) : Blk 24 (W9.putObj D (.deferred none)) b xs ∧ Below w.heap.size w (W9.putObj D (.deferred none)) := by
  refine ⟨(World.putObj_heap_other ?_).trans hb, hbe.trans (belowK_b (w := w) (Nat.le_refl _) W9 D _ _ hD hd rfl rfl)⟩
  intro e; subst e; rw [show W9.heap[b]? = _ from hb] at hd; cases hd
theorem zero_again {wr : World} {b : Nat} (h : Blk 24 wr b zeroCall) : Blk 24 ((((((wr.setCell ⟨b, 0, none⟩ (.int .i64 0)).setCell ⟨b, 1, none⟩ (.string ⟨#[]⟩)).setCell ⟨b, 2, none⟩ (.string ⟨#[]⟩)).setCell ⟨b, 3, none⟩ (.int .i64 0)).setCell ⟨b, 4, none⟩ (.int .i64 0)).setCell ⟨b, 5, none⟩ (.slice none 0 0)) b zeroCall := by
  have := (((((h.set 0 (.int .i64 0)).set 1 (.string ⟨#[]⟩)).set 2 (.string ⟨#[]⟩)).set 3 (.int .i64 0)).set 4 (.int .i64 0)).set 5 (.slice none 0 0)
  exact this
theorem mods_six (wr : World) (b : Nat) (v0 v1 v2 v3 v4 v5 : Value) : Mods (fun k => k = b) wr ((((((wr.setCell ⟨b, 0, none⟩ v0).setCell ⟨b, 1, none⟩ v1).setCell ⟨b, 2, none⟩ v2).setCell ⟨b, 3, none⟩ v3).setCell ⟨b, 4, none⟩ v4).setCell ⟨b, 5, none⟩ v5) := by
  have h : ∀ (a c : World) (o : Nat) (v : Value), Mods (fun k => k = b) a c → Mods (fun k => k = b) a (c.setCell ⟨b, o, none⟩ v) := fun a c o v h => h.setCell ⟨b, o, none⟩ (fun _ => rfl) v
  exact h _ _ _ _ (h _ _ _ _ (h _ _ _ _ (h _ _ _ _ (h _ _ _ _ (h _ _ _ _ (Mods.refl _ wr))))))
theorem first_word {P : List ByteArray} {c : CV} {P0 : ByteArray} (h : P = lineP c) (h0 : P[0]? = some P0) : P0 = if known c.kind then wd c.kind.toNat else ⟨#[]⟩ := by
  subst h
  unfold lineP piecesB at h0
  cases hk : known c.kind with
  | true => rw [hk] at h0; simpa using h0.symm
  | false => rw [hk] at h0; simpa using h0.symm
theorem word_ne {x : Int} {c : CV} (hx : known x = true) (hm : ¬ (known c.kind = true ∧ x = c.kind)) : ((wd x.toNat).toList == (if known c.kind then wd c.kind.toNat else (⟨#[]⟩ : ByteArray)).toList) = false := by
  rw [beq_eq_false_iff_ne, ByteArray.toList_eq, ByteArray.toList_eq]
  intro e
  cases hk : known c.kind with
  | true => rw [hk] at e; exact hm ⟨hk, wd_inj hx hk e⟩
  | false => rw [hk] at e; exact wd_ne' hx e
theorem not_same {x y : Int} (h : x ≠ y) (hy : intOk y) : (!(intK y).sameKey (intK x)) = true := by
  cases hs : (intK y).sameKey (intK x) with
  | false => rfl
  | true => exact absurd (intWay.inj _ _ hy (by have := WideAt.sameKey_eq hs; simp [intK] at this; subst this; exact hy) (WideAt.sameKey_eq hs)) (fun e => h e.symm)
def Calm (Q : Exit → Act → World → Prop) : Exit → Act → World → Prop
  | .normal, a, w => Q .normal a w
  | _, _, _ => False
theorem calm_of {Q : Exit → Act → World → Prop} {a : Act} {w : World} (h : Q .normal a w) : Calm Q .normal a w := h
theorem wp_calm {P : Program} {s : Code} {Q : Exit → Act → World → Prop} {a : Act} {w : World} (h : s.wp P (Calm Q) a w) : s.wp P Q a w :=
  wp_mono h fun e a' w' h => by cases e <;> first | exact h | exact h.elim
theorem six_again {wr : World} {b : Nat} (h : Blk 24 wr b zeroCall) (v0 v1 v2 v3 v4 v5 : Value) : Blk 24 ((((((wr.setCell ⟨b, 0, none⟩ v0).setCell ⟨b, 1, none⟩ v1).setCell ⟨b, 2, none⟩ v2).setCell ⟨b, 3, none⟩ v3).setCell ⟨b, 4, none⟩ v4).setCell ⟨b, 5, none⟩ v5) b [v0, v1, v2, v3, v4, v5] := by
  have := (((((h.set 0 v0).set 1 v1).set 2 v2).set 3 v3).set 4 v4).set 5 v5
  exact this
theorem slb_res {w U : World} {b : Nat} {v : Value} {l : List UInt8} (h : SlB w v l) (hb : Blk 24 w b zeroCall) (hm : Mods (fun k => k = b) w U) : SlB U v l := by
  obtain ⟨a, cap, rfl, h⟩ := h
  refine ⟨a, cap, rfl, h.imp id ?_⟩
  rintro ⟨g, o, rfl, h2⟩
  refine ⟨g, o, rfl, fun j x hj => ?_⟩
  have h1 := h2 j x hj
  rw [hm.cell (lt_of_cell h1) ?_]; exact h1
  intro e
  subst e
  rw [hb.cell] at h1
  match o + j, h1 with
  | 0, h | 1, h | 2, h | 3, h | 4, h | 5, h => simp [zeroCall] at h
  | n + 6, h => simp [zeroCall] at h
theorem slb_put {U : World} {D : Nat} {v : Value} {l : List UInt8} (h : SlB U v l) (hd : U.heap[D]? = some (.deferred (some []))) : SlB (U.putObj D (.deferred none)) v l := by
  obtain ⟨a, cap, rfl, h⟩ := h
  refine ⟨a, cap, rfl, h.imp id ?_⟩
  rintro ⟨g, o, rfl, h2⟩
  refine ⟨g, o, rfl, fun j x hj => ?_⟩
  have h1 := h2 j x hj
  rw [World.cell?_of_block (w := U) (World.putObj_heap_other ?_)]; exact h1
  intro e
  simp only at e
  subst e
  unfold World.cell? at h1
  simp [hd] at h1
theorem cell_ne {a b : World} {X g o : Nat} (h : Mods (fun k => k = X) a b) (hg : g < a.heap.size) (hn : g ≠ X) : b.cell? ⟨g, o, none⟩ = a.cell? ⟨g, o, none⟩ := h.cell hg hn
theorem mods_below8 {W W7 w8 : World} {X : Nat} (h : Mods (fun k => k = X) W7 w8) (hX : W.heap.size ≤ X) (h7 : W.heap.size ≤ W7.heap.size) : Below W.heap.size W7 w8 := h.below (fun k e => by omega) h7
theorem rds_tail {W : World} {g : Nat} {P : List ByteArray} (h : RdS W g 0 P) : RdS W g 1 P.tail := fun j x hj => by
  have := h (j + 1) x (by rw [← hj]; cases P <;> simp)
  rwa [show 0 + (j + 1) = 1 + j by omega] at this
theorem fields_r (c : CV) (hc : Sized c) (hk : known c.kind = true) (B : ByteArray) (hB : B = fd c.kind.toNat) (n : Nat) (hn : n = B.size + 1) (P : List ByteArray) (hP : P = piecesB c) (m : Nat) (hm : m = n - 1) (g o cap : Nat) (ho : n = 1 ∨ o = 1) (b : Nat) (w : World)
    (hcall : IsCall w b (bareV c.kind)) (hl : RdS w g 1 P.tail) (hgb : g ≠ b) (hg : g < w.heap.size) :
    Calls Tryd.prog 25 #[.pointer (some ⟨b, 0, none⟩), .string B, .slice (some ⟨g, o, none⟩) m cap] w fun e w' => e = .returned (.bool true) ∧ IsCall w' b (clearV c) ∧ Mods (fun k => k = b) w w' := by
  subst hm
  have hl2 := letter_fd c.kind hk
  have h3 : B.size ≤ 3 := by
    have hk' := hk
    simp only [known, Bool.and_eq_true, decide_eq_true_eq] at hk'
    rw [hB]; exact (wd_len ⟨c.kind.toNat, by omega⟩).2
  by_cases h1 : n = 1
  · have hB0 : B = ⟨#[]⟩ := ba_inj (by
      have h0 : B.size = 0 := by omega
      show _ = []
      exact List.length_eq_zero_iff.1 (by rw [sz]; exact h0))
    subst h1
    rw [hB0]
    refine (fields_0 b (some ⟨g, o, none⟩) cap w).mono ?_
    rintro e w' ⟨rfl, hb⟩
    refine ⟨rfl, ?_, (Mods.of_below hb).mono (fun i hi h => by omega)⟩
    have hcl : clearV c = bareV c.kind := by unfold clearV; rw [← hB, hB0]; rfl
    rw [hcl]
    exact hcall.mods (Mods.of_below hb) (fun k hk h => by omega)
  · obtain rfl : o = 1 := by omega
    have hPt : P.tail.map (·.data.toList) = B.data.toList.map (fieldL c) := by
      rw [hP, hB]; simp [piecesB, baL]
    have hlen : P.tail.length = n - 1 := by
      have := congrArg List.length hPt
      simp only [List.length_map, sz] at this; omega
    have := fields_c c hc B (by rw [hB]; exact hl2) h3 P.tail hPt b g 1 cap (bareV c.kind) w hcall hl hgb hg
    rw [hlen] at this
    refine this.mono ?_
    rintro e w' ⟨rfl, h5, h6⟩
    exact ⟨rfl, by unfold clearV; rw [← hB]; exact h5, h6⟩
theorem own_succ {W : World} {base e n : Nat} {v : Value} {xs : List Value} (h : W.ownsRow base e 1 v (n + 1) xs) : ∃ g cap, v = .slice (some ⟨g, 0, none⟩) (n + 1) cap := by
  obtain ⟨_, ⟨_, h⟩ | ⟨g, cap, cur, h1, _⟩⟩ := h
  · omega
  · exact ⟨g, cap, h1⟩
structure BodyStep (w : World) (LB : Nat) (pre : List ByteArray) (x : ByteArray) (W w2 : World) (v v' : Value) : Prop where
  c2 : w2.cell? ⟨LB, 0, none⟩ = some v
  f2 : w2.frozen? ⟨LB, 0, none⟩ = false
  l2 : LB < w2.heap.size
  fin : Exit.normal = Exit.normal ∧ Mods (DmL LB W) W (w2.setCell ⟨LB, 0, none⟩ v') ∧ (∀ k, k < W.heap.size → DmL LB (w2.setCell ⟨LB, 0, none⟩ v') k → DmL LB W k) ∧ IL w LB (pre ++ [x]) (w2.setCell ⟨LB, 0, none⟩ v')
theorem body_step {w : World} {LB : Nat} {pre : List ByteArray} {x : ByteArray} {W w2 : World} {v v' : Value} {o : Obj} (hb : Blk 34 W LB [v]) (ho : W.ownsRow (LB + 2) 9 1 v pre.length (strs pre)) (hbe : Below w.heap.size w W) (hLB : w.heap.size < LB) (hres : Blk 24 W w.heap.size zeroCall)
    (ho2 : w2.ownsRow (LB + 2) 9 1 v' (pre.length + 1) (strs pre ++ [.string x])) (hg : (W.alloc o).grownBy w2 v.ownBlock) (hat : v'.ownBlock = v.ownBlock ∨ v'.ownBlock = some (W.alloc o).heap.size) : BodyStep w LB pre x W w2 v v' := by
  have hne : ∀ k, v.ownBlock = some k → k ≠ LB := fun k e h => by have := (ho.lt k e).1; omega
  have hb2 : Blk 34 w2 LB [v] := (hg.block LB (by simp; have := hb.lt; omega) (fun e => hne LB e.symm rfl)).trans ((Below.heap_alloc _ _ _ hb.lt).trans hb)
  have hdm : ∀ k, v.ownBlock = some k → DmL LB W k := fun k e => by
    rcases own_cases ho with rfl | ⟨g, cap, cur, rfl, _, _⟩
    · cases e
    · cases e; exact .inr ⟨_, _, by rw [hb.cell]; rfl⟩
  have hm : Mods (DmL LB W) W w2 := Mods.grown ((Mods.refl _ W).alloc o) hg (fun k e _ => hdm k e)
  have hm2 : Mods (DmL LB W) W (w2.setCell ⟨LB, 0, none⟩ v') := hm.setCell _ (fun _ => .inl rfl) _
  have hb3 : Blk 34 (w2.setCell ⟨LB, 0, none⟩ v') LB [v'] := hb2.set 0 v'
  have ho3 : (w2.setCell ⟨LB, 0, none⟩ v').ownsRow (LB + 2) 9 1 v' (pre.length + 1) (strs pre ++ [.string x]) :=
    own_mods ho2 ((Mods.refl (fun k => k = LB) w2).setCell ⟨LB, 0, none⟩ (fun _ => rfl) _) (fun g e1 e2 => by have := (ho2.lt g e1).1; omega)
  have hbe2 : Below w.heap.size w (w2.setCell ⟨LB, 0, none⟩ v') := by
    refine hbe.trans (hm2.below (fun k hk => ?_) hbe.size)
    rcases hk with rfl | ⟨n, cap, hk⟩
    · omega
    · rw [hb.cell] at hk
      simp only [List.getElem?_cons_zero, Option.some.injEq] at hk
      subst hk
      have := (ho.lt k rfl).1; omega
  refine ⟨by rw [hb2.cell]; rfl, hb2.frozen 0, hb2.lt, rfl, hm2, fun k hk h => ?_, ⟨⟨v', hb3, ?_⟩, hbe2, ?_⟩⟩
  · rcases h with rfl | ⟨n, cap, h⟩
    · exact .inl rfl
    · rw [hb3.cell] at h
      simp only [List.getElem?_cons_zero, Option.some.injEq] at h
      subst h
      rcases hat with e | e
      · exact hdm k (e.symm.trans rfl)
      · cases e; simp at hk; omega
  · rw [List.length_append]
    simpa [strs] using ho3
  · refine hres.mods hm2 (fun hd => ?_)
    rcases hd with h | ⟨n, cap, hk⟩
    · omega
    · rw [hb.cell] at hk
      simp only [List.getElem?_cons_zero, Option.some.injEq] at hk
      subst hk
      have := (ho.lt w.heap.size rfl).1; omega
set_option maxRecDepth 100000 in
set_option maxHeartbeats 4000000 in
theorem read_c (c : CV) (hc : Sized c) (hkd : intOk c.kind) (w : World) (hG : Gl w) :
    Calls Tryd.prog 9 #[.string (baL (printL c))] w fun e w' => (known c.kind = true → ∃ v, e = .returned (.tuple #[.agg (callL (clearV c) v).toArray, .int .i64 0]) ∧ SlB w' v (clearV c).dat) ∧ (known c.kind = false → e = .returned (.tuple #[.agg zeroCall.toArray, .int .i64 2])) ∧ Below w.heap.size w w' := by
  obtain ⟨P, hP⟩ : ∃ P, P = lineP c := ⟨_, rfl⟩
  have hS : baL (printL c) = lineB P := by rw [hP, lineP_line]
  rw [hS]
  have h1 : P ≠ [] := by rw [hP]; exact lineP_ne c
  have h2 : ∀ x ∈ P, noBlank x.data.toList := by rw [hP]; exact lineP_nb c
  have h3 : P.length ≤ 4 := by rw [hP]; exact lineP_len c
  have h4 : (lineB P).size ≤ 3000000 := by rw [hP]; exact lineP_size c hc
  have HP := Lib.hid hP; have HSL := Lib.hid hS; have HG := Lib.hid hG; have H1 := Lib.hid h1; have H2 := Lib.hid h2
  obtain ⟨jS, hjS, hj0, hj1, hj2⟩ := info_parts infoS
  clear hP hS hG h1 h2
  refine (callsIn_wide (n := 9)).1 ?_
  refine callsIn_of_wp_marks Tryd.func9 rfl trivial ?_ rfl
  simp only [Tryd.ntmps9, List.size_toArray, List.length_cons, List.length_nil, Nat.reduceAdd, Nat.reduceSub, Array.replicate_succ, Array.replicate_zero, List.push_toArray, List.append_toArray, List.nil_append, List.cons_append]
  refine wpIn_wide.2 ?_
  go_wp2_with ((go_at_call 24; refine (each_c _ _).mono ?_; rintro e w' ⟨rfl, rfl⟩))
  obtain ⟨w3, hw3⟩ : ∃ w3, w3 = ((w.alloc (.cells #[.int .i64 0, .string ⟨#[]⟩, .string ⟨#[]⟩, .int .i64 0, .int .i64 0, .slice none 0 0] 24)).alloc (.cells #[.slice none 0 0] 34)).alloc (.cells #[.string (lineB P)] 9) := ⟨_, rfl⟩
  have s3 : w3.heap.size = w.heap.size + 3 := by rw [hw3]; simp
  have b3 : Below w.heap.size w w3 := by rw [hw3]; exact (((Below.refl _ w).alloc (Nat.le_refl _) _).alloc (by simp) _).alloc (by simp; omega) _
  have kR : Blk 24 w3 w.heap.size zeroCall := by rw [hw3]; exact ((Blk.new w zeroCall).alloc _).alloc _
  have kL : Blk 34 w3 (w.heap.size + 1) [.slice none 0 0] := by rw [hw3]; exact (Blk.snd _ _).alloc _
  have kX : Blk 9 w3 (w.heap.size + 1 + 1) [.string (lineB P)] := by
    have := Blk.newL (e := 9) (w := (w.alloc (.cells #[.int .i64 0, .string ⟨#[]⟩, .string ⟨#[]⟩, .int .i64 0, .int .i64 0, .slice none 0 0] 24)).alloc (.cells #[.slice none 0 0] 34)) [.string (lineB P)]
    rw [hw3]; simpa using this
  rw [← hw3]
  have i0 : IL w (w.heap.size + 1) [] w3 := ⟨⟨_, kL, World.ownsRow_nil _ _ _ _⟩, b3, kR⟩
  have g3 := HG.out.below b3
  refine (wpIn_wide (n := 9)).1 ?_
  refine rangeFunc_dm (F := Fence.wide) rfl (by decide) (gf := 32) (lb := #[.pointer (some ⟨w.heap.size + 1 + 1, 0, none⟩)]) rfl trivial (enters_of Tryd.func32 (by kernel_rfl) rfl)
    (X := w.heap.size + 1 + 1) (by omega) (each_seq 8 (by omega) P H1.out H2.out h4 (w.heap.size + 1 + 1) (by have := lt_of_cell g3.mx.choose_spec; obtain ⟨m, hm⟩ := HG.out.mx; have := lt_of_cell hm; omega) w3 kX g3.mx) (Below.refl _ _) (fun _ => rfl)
    (IL w (w.heap.size + 1)) (DmL (w.heap.size + 1)) (IL.bears (by omega) (by omega) (by omega)) (fun pre A k hA hk => ?hD) (fun _ _ _ => trivial) i0
    (fun x a' _ => a' = { tmps := #[.string (lineB P), undef, .pointer (some ⟨w.heap.size, 0, none⟩), .int .i64 0, .pointer (some ⟨w.heap.size + 1, 0, none⟩), .string x, undef, undef, undef, .string (lineB P), .func (.func 32) #[] #[.pointer (some ⟨w.heap.size + 1 + 1, 0, none⟩)], .string x, undef, undef, undef, undef, undef, undef, undef, undef, undef, undef, undef, undef, undef, undef, undef, undef, undef, undef, undef, undef, undef, undef, undef, undef, undef, undef, undef, undef, undef, undef, undef, undef, undef, undef], defers := [] }) (fun x a' u W W' row h _ _ => h) ?assign ?body ?done
  case hD =>
    obtain ⟨q1, o, q2, q3⟩ := hA.dm hk
    obtain ⟨m, hm⟩ := HG.out.mx
    have := lt_of_cell hm
    refine ⟨(Array.getElem?_eq_some_iff.1 q2).1, ?_, .inr ⟨o, q2, q3⟩⟩
    have hX := hA.ne hk
    omega
  case assign =>
    intro l pre x W K hI hK
    gi_wp2
    exact hK _ _ ⟨rfl, rfl, rfl, Nat.le_refl _, fun _ _ _ => rfl⟩ rfl
  case body =>
    rintro l pre x a' W hI rfl _ hlen
    obtain ⟨⟨v, hb, ho⟩, hbel, hres⟩ := hI
    have hc1 := hb.cell 0
    simp only [List.getElem?_cons_zero] at hc1
    have hlb := hb.lt
    have hpl : pre.length ≤ 4 := by omega
    have HO := Lib.hid ho; have HBL := Lib.hid hb; have HBE := Lib.hid hbel; have HRS := Lib.hid hres
    clear ho hb hbel hres
    gi_wp2_with (first
      | (gi_at_builtin; refine wpListIn_append_own_at _ rfl _ _ 34 rfl (w.heap.size + 1 + 2) 9 jS (.string ⟨#[]⟩) 1 16 Tryd.underlying34 hjS hj0 hj1 hj2 rfl (by decide) _ _ _ rfl (HO.out.alloc _) ⟨_, 0, none⟩ 1 1 [.string x] rfl rfl (cells_new1 _ _ _ _ rfl) (by simp [Value.oneCell']) (by unfold maxLen; omega) (by omega) (by simp; omega) ?_; intro v' w2 hown' hgrow hnil hat; clear hnil; obtain ⟨g', cap', rfl⟩ := own_succ hown'; have HS2 := Lib.hid (body_step HBL.out HO.out HBE.out (by omega) HRS.out hown' hgrow hat); have hc2 := HS2.out.c2; have hf2 := HS2.out.f2; have hl2 := HS2.out.l2; clear hown' hgrow hat))
    exact HS2.out.fin.2
  case done =>
    intro D xs W hD hxs hI hdef
    rw [hxs] at hI
    clear hxs
    obtain ⟨⟨v, hb, ho⟩, hbel, hres⟩ := hI
    have hp0 : 0 < P.length := List.length_pos_iff.2 H1.out
    obtain ⟨g, cap, rfl, hgb, hcap, hcells⟩ := own_strs ho hp0
    obtain ⟨n, hn⟩ : ∃ n, n = P.length := ⟨_, rfl⟩
    rw [← hn] at h3 hp0 hcap hb
    obtain ⟨P0, hP0⟩ : ∃ P0, P[0]? = some P0 := ⟨P[0]'(by rw [← hn]; exact hp0), List.getElem?_eq_getElem _⟩
    have hgc := hcells 0 P0 hP0
    have HP0 := Lib.hid hP0
    rw [Nat.add_zero] at hgc
    have hLc := hb.cell 0
    simp only [List.getElem?_cons_zero] at hLc
    have hgl := lt_of_cell hgc
    have hLl := hb.lt
    have hDl := (Array.getElem?_eq_some_iff.1 hdef).1
    have HDF := Lib.hid hdef; have HBE := Lib.hid hbel; have HRS := Lib.hid hres; have HCS := Lib.hid hcells; have HN := Lib.hid hn; have HGC := Lib.hid hgc; have HLC := Lib.hid hLc
    clear hdef hbel hres hcells hn hgc hLc ho hb hP0 i0 g3 kR kL kX b3 hw3
    go_wp2_with (first
      | (go_at_call 16; refine (words_c _).mono ?_; rintro e w4 ⟨bm, rfl, hbs, hWM, hb4⟩; obtain ⟨Dd, hown, hD2, hD3⟩ := hWM; have HB4 := Lib.hid hb4; have HD2 := Lib.hid hD2; have HD3 := Lib.hid hD3; have HOW := Lib.hid hown; clear hb4 hD2 hD3 hown)
      | (at_range; refine wpList_range_own _ rfl _ 44 rfl 3 42 intKeyed Tryd.underlying44 twoR bm 13 Dd rfl HOW.out ?_; intro w5 hrg hg5 hs5; have HRG := Lib.hid hrg; have HB5 := Lib.hid (HB4.out.trans (below_none hg5 HB4.out.size)); have hs5' : W.heap.size ≤ w4.heap.size := HB4.out.size; clear hrg hg5 hs5))
    go_frame
    go_loopw [18] (fun _ wr => ∃ left cnt, Hid (wr.ranges Tryd.prog 3 twoR bm w4.heap.size 13 Dd left cnt) ∧ Hid (∀ kl, left kl = true → ∃ x, kl = intK x ∧ known x = true) ∧ Hid (known c.kind = true → left (intK c.kind) = true) ∧ Hid (Below W.heap.size W wr)) (fun _ wr => wr.rangeLeft bm w4.heap.size)
    case atStart =>
      refine ⟨_, _, HRG, Lib.hid (fun kl h => ?_), Lib.hid (fun h => ?_), HB5⟩
      · obtain ⟨x, hx, rfl⟩ := HD3.out kl h
        have := (HD2.out x hx).1
        rw [h] at this
        exact ⟨x, rfl, wordsG_known this.symm⟩
      · rw [(HD2.out _ hkd).1]; unfold wordsG; rw [h]; rfl
    case round =>
      obtain ⟨left, cnt, HR, HK, HT, HBr⟩ := hrel
      go_wp2_with (first
        | (at_next; refine wpList_next_ranges _ rfl _ rfl 3 intKeyed twoR (Value.int .i64) (fun p : ByteArray × ByteArray => .agg #[.string p.1, .string p.2]) inv_int inv_two bm w4.heap.size 13 Dd left cnt rfl HR.out ?_ ?_))
      · intro hc0 hl0
        have hkn : known c.kind = false := by
          cases h : known c.kind with
          | true => have := HT.out h; rw [hl0] at this; cases this
          | false => rfl
        have HKN := Lib.hid hkn
        have HRSr := Lib.hid (HRS.out.below HBr.out (by omega))
        have hRl := HRSr.out.lt
        have e0 := HRSr.out.cell 0; have e1 := HRSr.out.cell 1; have e2 := HRSr.out.cell 2; have e3 := HRSr.out.cell 3; have e4 := HRSr.out.cell 4; have e5 := HRSr.out.cell 5
        have f0 := HRSr.out.frozen 0; have f1 := HRSr.out.frozen 1; have f2 := HRSr.out.frozen 2; have f3 := HRSr.out.frozen 3; have f4 := HRSr.out.frozen 4; have f5 := HRSr.out.frozen 5
        simp only [zeroCall, List.getElem?_cons_zero, List.getElem?_cons_succ] at e0 e1 e2 e3 e4 e5
        clear hc0 hl0 hkn
        go_wp2
        obtain ⟨W9, hW9⟩ : ∃ W9, W9 = ((((((wr.setCell ⟨w.heap.size, 0, none⟩ (.int .i64 0)).setCell ⟨w.heap.size, 1, none⟩ (.string ⟨#[]⟩)).setCell ⟨w.heap.size, 2, none⟩ (.string ⟨#[]⟩)).setCell ⟨w.heap.size, 3, none⟩ (.int .i64 0)).setCell ⟨w.heap.size, 4, none⟩ (.int .i64 0)).setCell ⟨w.heap.size, 5, none⟩ (.slice none 0 0)) := ⟨_, rfl⟩
        have hb9 : Blk 24 W9 w.heap.size zeroCall := by rw [hW9]; exact zero_again HRSr.out
        have hm9 : Mods (fun k => k = w.heap.size) wr W9 := by rw [hW9]; exact mods_six _ _ _ _ _ _ _ _
        rw [← hW9]
        have hd9 : W9.heap[D]? = some (.deferred (some [])) := (hm9.block D (Nat.lt_of_lt_of_le hDl HBr.out.size) (by omega)).trans ((HBr.out.block D hDl).trans HDF.out)
        have hbe9 : Below w.heap.size w W9 := (HBE.out.trans (HBr.out.mono (HBE.out.size))).trans (hm9.below (fun k e => by omega) (by have := HBr.out.size; have := HBE.out.size; omega))
        refine ⟨by simp, .inl ⟨_, _, rfl, run_takeDeferred hd9, ?_⟩⟩
        obtain ⟨hf1, hf2⟩ := fin_call hb9 hbe9 hd9 (by omega)
        refine ⟨.tuple #[.agg zeroCall.toArray, .int .i64 2], ?_, fun h => ?_, fun _ => rfl, hf2⟩
        · have c0 := hf1.cell 0; have c1 := hf1.cell 1; have c2 := hf1.cell 2; have c3 := hf1.cell 3; have c4 := hf1.cell 4; have c5 := hf1.cell 5
          simp only [zeroCall, List.getElem?_cons_zero, List.getElem?_cons_succ] at c0 c1 c2 c3 c4 c5
          simp [results, Tryd.results9, go_sem, c0, c1, c2, c3, c4, c5, zeroCall]
        · rw [HKN.out] at h; cases h
      · intro x A B kl y1 y2 w6 cnt1 hkey hlk hv hat hrg1 hlt hg6 hs6 hen
        obtain ⟨x2, hkl, hkx⟩ := HK.out kl hlk
        obtain ⟨hx2, hxo⟩ := key_is hkey hkl
        subst hx2
        have hAB := entry_is HD2.out hkx hxo hkl hat hv
        obtain ⟨hA, hB⟩ := hAB
        have hP0 := first_word HP.out HP0.out
        have hb6 : Below W.heap.size W w6 := HBr.out.grown hg6 HBr.out.size (fun k e => by cases e; exact hs5')
        have hLl6 : w.heap.size + 1 < w6.heap.size := Nat.lt_of_lt_of_le hLl hb6.size
        have hSl6 : w.heap.size < w6.heap.size := by omega
        have hgl7 : g < w6.heap.size + 1 := by have := Nat.lt_of_lt_of_le hgl hb6.size; omega
        have hgl6 : g < w6.heap.size := Nat.lt_of_lt_of_le hgl hb6.size
        have L6 := (hb6.cell (p := ⟨w.heap.size + 1, 0, none⟩) hLl).trans HLC.out
        have G6 := (hb6.cell (p := ⟨g, 0, none⟩) hgl).trans HGC.out
        have HRG1 := Lib.hid hrg1; have HB6 := Lib.hid hb6; have HKL := Lib.hid hkl; have HKX := Lib.hid hkx; have HA := Lib.hid hA; have HB := Lib.hid hB; have HP0E := Lib.hid hP0; have HLT := Lib.hid hlt; have HXO := Lib.hid hxo
        clear hkey hlk hv hat hrg1 hlt hg6 hs6 hb6 hkl hkx hA hB hP0 hxo
        by_cases hm : known c.kind = true ∧ x = c.kind
        · obtain ⟨hk, rfl⟩ := hm
          have hPc : P = piecesB c := by rw [HP.out]; unfold lineP; rw [hk]; rfl
          have hA0 : A = P0 := by rw [HA.out, HP0E.out, hk]; rfl
          have hnB : n = B.size + 1 := by rw [HN.out, hPc, HB.out]; simp only [piecesB, List.length_cons, List.length_map, sz]
          have HK := Lib.hid hk; have HPC := Lib.hid hPc; have HNB := Lib.hid hnB
          subst hA0
          clear hk hPc hnB
          go_wp2
          obtain ⟨W7, hW7⟩ : ∃ W7, W7 = (w6.alloc (.cells #[.string A, .string B] 42)).alloc (.cells #[.int .i64 c.kind, .string ⟨#[]⟩, .string ⟨#[]⟩, .int .i64 0, .int .i64 0, .slice none 0 0] 24) := ⟨_, rfl⟩
          have x7 : Blk 42 W7 w6.heap.size [.string A, .string B] := by rw [hW7]; exact Blk.fst _ _
          have x8 : Blk 24 W7 (w6.heap.size + 1) (callL (bareV c.kind) (.slice none 0 0)) := by rw [hW7]; exact Blk.snd _ _
          have hb7 : Below W.heap.size W W7 := by rw [hW7]; exact (HB6.out.alloc HB6.out.size _).alloc (by have := HB6.out.size; simp; omega) _
          have s7 : W7.heap.size = w6.heap.size + 2 := by rw [hW7]; simp
          rw [← hW7]
          have HW7 := Lib.hid hW7; have S7 := Lib.hid s7; have HB7 := Lib.hid hb7
          have w7l : w6.heap.size + 1 < W7.heap.size := by omega
          clear hW7 s7
          have a0 := x7.cell 0; have a1 := x7.cell 1
          simp only [List.getElem?_cons_zero, List.getElem?_cons_succ] at a0 a1
          have L7 := (hb7.cell (p := ⟨w.heap.size + 1, 0, none⟩) hLl).trans HLC.out
          have G7 := (hb7.cell (p := ⟨g, 0, none⟩) hgl).trans HGC.out
          have hcb : n ≤ cap := hcap
          have hs6 := HB6.out.size
          have hs67 := hb7.size
          have hq0 : (fun (w' : World) => w'.cell? ⟨w6.heap.size, 0, none⟩ = some (.string A) ∧ w'.cell? ⟨w6.heap.size, 1, none⟩ = some (.string B) ∧ w'.cell? ⟨w.heap.size + 1, 0, none⟩ = some (.slice (some ⟨g, 0, none⟩) n cap) ∧ w'.cell? ⟨g, 0, none⟩ = some (.string A)) W7.drew := ⟨a0, a1, L7, G7⟩
          have hcall7 : IsCall W7.drew (w6.heap.size + 1) (bareV c.kind) := ⟨⟨.slice none 0 0, x8.drew, ⟨none, 0, rfl, .inl ⟨rfl, rfl⟩⟩, by simp [Value.ownBlock]⟩⟩
          have hg7 : g < W7.drew.heap.size := by show g < W7.heap.size; omega
          have hrs7 : RdS W7.drew g 1 P.tail := rds_tail (HCS.out.mods (Mods.of_below (B := W.heap.size) hb7.drew) (fun h => absurd (show W.heap.size ≤ g from h) (by omega)))
          have hn1i : (1 : Int) ≤ (n : Int) := by omega
          by_cases hcap1 : cap = 1
          · obtain rfl := hcap1
            refine wp_calm ?_
            refine wp_region_held_drew (S := (fun (w' : World) => w'.cell? ⟨w6.heap.size, 0, none⟩ = some (.string A) ∧ w'.cell? ⟨w6.heap.size, 1, none⟩ = some (.string B) ∧ w'.cell? ⟨w.heap.size + 1, 0, none⟩ = some (.slice (some ⟨g, 0, none⟩) n 1) ∧ w'.cell? ⟨g, 0, none⟩ = some (.string A))) (by kernel_rfl) hq0 (fun hHeld => ?_)
            refine wpAnyH_take (i := 0) (oi := ⟨_, _, _, _, _, _⟩) (v := ?_) rfl (by kernel_rfl) (by kernel_rfl) (by kernel_rfl) (fun _ _ _ h => h) (Or.inl ⟨by kernel_rfl, ?_⟩) (by assumption) ?_
            rotate_left
            · (intro w hSw; (try dsimp only at hSw); go_simp; first | done | with_reducible rfl)
            simp only [Act.put, List.setIfInBounds_toArray, List.set_cons_zero, List.set_cons_succ]
            refine wpAnyH_take (i := 1) (oi := ⟨_, _, _, _, _, _⟩) (v := ?_) rfl (by kernel_rfl) (by kernel_rfl) (by kernel_rfl) (fun _ _ _ h => h) (Or.inl ⟨by kernel_rfl, ?_⟩) (by assumption) ?_
            rotate_left
            · (intro w hSw; (try dsimp only at hSw); go_simp; first | done | with_reducible rfl)
            simp only [Act.put, List.setIfInBounds_toArray, List.set_cons_zero, List.set_cons_succ]
            refine wpAnyH_take (i := 2) (oi := ⟨_, _, _, _, _, _⟩) (v := ?_) rfl (by kernel_rfl) (by kernel_rfl) (by kernel_rfl) (fun _ _ _ h => h) (Or.inl ⟨by kernel_rfl, ?_⟩) (by assumption) ?_
            rotate_left
            · (intro w hSw; (try dsimp only at hSw); go_simp; first | done | with_reducible rfl)
            simp only [Act.put, List.setIfInBounds_toArray, List.set_cons_zero, List.set_cons_succ]
            refine wpAnyH_take (i := 3) (oi := ⟨_, _, _, _, _, _⟩) (v := ?_) rfl (by kernel_rfl) (by kernel_rfl) (by kernel_rfl) (fun _ _ _ h => h) (Or.inl ⟨by kernel_rfl, ?_⟩) (by assumption) ?_
            rotate_left
            · (intro w hSw; (try dsimp only at hSw); go_simp; first | done | with_reducible rfl)
            simp only [Act.put, List.setIfInBounds_toArray, List.set_cons_zero, List.set_cons_succ]
            refine wpAnyH_take (i := 4) (oi := ⟨_, _, _, _, _, _⟩) (v := ?_) rfl (by kernel_rfl) (by kernel_rfl) (by kernel_rfl) (fun _ _ _ h => h) (Or.inl ⟨by kernel_rfl, ?_⟩) (by assumption) ?_
            rotate_left
            · (intro w hSw; (try dsimp only at hSw); go_simp; first | done | with_reducible rfl)
            simp only [Act.put, List.setIfInBounds_toArray, List.set_cons_zero, List.set_cons_succ]
            refine wpAnyH_take (i := 5) (oi := ⟨_, _, _, _, _, _⟩) (v := ?_) rfl (by kernel_rfl) (by kernel_rfl) (by kernel_rfl) (fun _ _ _ h => h) (Or.inl ⟨by kernel_rfl, ?_⟩) (by assumption) ?_
            rotate_left
            · (intro w hSw; (try dsimp only at hSw); go_simp; first | done | with_reducible rfl)
            simp only [Act.put, List.setIfInBounds_toArray, List.set_cons_zero, List.set_cons_succ]
            refine wpAnyH_take (i := 6) (oi := ⟨_, _, _, _, _, _⟩) (v := ?_) rfl (by kernel_rfl) (by kernel_rfl) (by kernel_rfl) (fun _ _ _ h => h) (Or.inl ⟨by kernel_rfl, ?_⟩) (by assumption) ?_
            rotate_left
            · (intro w hSw; (try dsimp only at hSw); go_simp; first | done | with_reducible rfl)
            simp only [Act.put, List.setIfInBounds_toArray, List.set_cons_zero, List.set_cons_succ]
            refine wpAnyH_take (i := 7) (oi := ⟨_, _, _, _, _, _⟩) (v := ?_) rfl (by kernel_rfl) (by kernel_rfl) (by kernel_rfl) (fun _ _ _ h => h) (Or.inl ⟨by kernel_rfl, ?_⟩) (by assumption) ?_
            rotate_left
            · (intro w hSw; (try dsimp only at hSw); go_simp; first | done | with_reducible rfl)
            simp only [Act.put, List.setIfInBounds_toArray, List.set_cons_zero, List.set_cons_succ]
            refine wpAnyH_take (i := 8) (oi := ⟨_, _, _, _, _, _⟩) (v := ?_) rfl (by kernel_rfl) (by kernel_rfl) (by kernel_rfl) (fun _ _ _ h => h) (Or.inl ⟨by kernel_rfl, ?_⟩) (by assumption) ?_
            rotate_left
            · (intro w hSw; (try dsimp only at hSw); go_simp; first | done | with_reducible rfl)
            simp only [Act.put, List.setIfInBounds_toArray, List.set_cons_zero, List.set_cons_succ]
            refine wpAnyH_take (i := 9) (oi := ⟨_, _, _, _, _, _⟩) (v := ?_) rfl (by kernel_rfl) (by kernel_rfl) (by kernel_rfl) (fun _ _ _ h => h) (Or.inl ⟨by kernel_rfl, ?_⟩) (by assumption) ?_
            rotate_left
            · (intro w hSw; (try dsimp only at hSw); go_simp; first | done | with_reducible rfl)
            simp only [Act.put, List.setIfInBounds_toArray, List.set_cons_zero, List.set_cons_succ]
            refine wpAnyH_take (i := 10) (oi := ⟨_, _, _, _, _, _⟩) (v := ?_) rfl (by kernel_rfl) (by kernel_rfl) (by kernel_rfl) (fun _ _ _ h => h) (Or.inl ⟨by kernel_rfl, ?_⟩) (by assumption) ?_
            rotate_left
            · (intro w hSw; (try dsimp only at hSw); go_simp; first | done | with_reducible rfl)
            simp only [Act.put, List.setIfInBounds_toArray, List.set_cons_zero, List.set_cons_succ]
            refine wpAnyH_ready (rs := [11]) (by kernel_rfl) (by simp) ?_
            refine AllReadyH.cons rfl (fun K hK => ?_) AllReadyH.nil
            go_simp
            refine (fields_r c hc HK.out B HB.out n HNB.out P HPC.out (0) (by omega) g 0 (0) (.inl (by omega)) (w6.heap.size + 1) W7.drew hcall7 hrs7 (by omega) hg7).mono ?_
            rintro e w8 ⟨rfl, hcall8, hm8'⟩
            have hm8 := mods_undrew hm8'
            obtain ⟨v, hv1, hv2, hv3⟩ := hcall8.ex
            obtain ⟨va, vc, rfl, -⟩ := id hv2
            have hq8 : (fun (w' : World) => w'.cell? ⟨w6.heap.size, 0, none⟩ = some (.string A) ∧ w'.cell? ⟨w6.heap.size, 1, none⟩ = some (.string B) ∧ w'.cell? ⟨w.heap.size + 1, 0, none⟩ = some (.slice (some ⟨g, 0, none⟩) n 1) ∧ w'.cell? ⟨g, 0, none⟩ = some (.string A)) w8 := ⟨(cell_ne hm8 (by omega) (by omega)).trans a0, (cell_ne hm8 (by omega) (by omega)).trans a1, (cell_ne hm8 (by omega) (by omega)).trans L7, (cell_ne hm8 (by omega) (by omega)).trans G7⟩
            refine hK.out _ _ ?_ (fun hHeld => ?_)
            · exact hq8
            clear hK K
            have y0 := hv1.cell 0; have y1 := hv1.cell 1; have y2 := hv1.cell 2; have y3 := hv1.cell 3; have y4 := hv1.cell 4; have y5 := hv1.cell 5
            simp only [callL, List.getElem?_cons_zero, List.getElem?_cons_succ] at y0 y1 y2 y3 y4 y5
            refine anyH_mono (fun (w' : World) => w'.cell? ⟨w6.heap.size, 0, none⟩ = some (.string A) ∧ w'.cell? ⟨w6.heap.size, 1, none⟩ = some (.string B) ∧ w'.cell? ⟨w.heap.size + 1, 0, none⟩ = some (.slice (some ⟨g, 0, none⟩) n 1) ∧ w'.cell? ⟨g, 0, none⟩ = some (.string A) ∧ w'.cell? ⟨w6.heap.size + 1, 0, none⟩ = some (.int .i64 (clearV c).kind) ∧ w'.cell? ⟨w6.heap.size + 1, 1, none⟩ = some (.string (clearV c).path) ∧ w'.cell? ⟨w6.heap.size + 1, 2, none⟩ = some (.string (clearV c).to) ∧ w'.cell? ⟨w6.heap.size + 1, 3, none⟩ = some (.int .i64 (clearV c).off) ∧ w'.cell? ⟨w6.heap.size + 1, 4, none⟩ = some (.int .i64 (clearV c).n) ∧ w'.cell? ⟨w6.heap.size + 1, 5, none⟩ = some (.slice va (clearV c).dat.length vc)) (fun _ h => ⟨h.1, h.2.1, h.2.2.1, h.2.2.2.1⟩) _ _ _ _ ?_
            have hH8 : (fun (w' : World) => w'.cell? ⟨w6.heap.size, 0, none⟩ = some (.string A) ∧ w'.cell? ⟨w6.heap.size, 1, none⟩ = some (.string B) ∧ w'.cell? ⟨w.heap.size + 1, 0, none⟩ = some (.slice (some ⟨g, 0, none⟩) n 1) ∧ w'.cell? ⟨g, 0, none⟩ = some (.string A) ∧ w'.cell? ⟨w6.heap.size + 1, 0, none⟩ = some (.int .i64 (clearV c).kind) ∧ w'.cell? ⟨w6.heap.size + 1, 1, none⟩ = some (.string (clearV c).path) ∧ w'.cell? ⟨w6.heap.size + 1, 2, none⟩ = some (.string (clearV c).to) ∧ w'.cell? ⟨w6.heap.size + 1, 3, none⟩ = some (.int .i64 (clearV c).off) ∧ w'.cell? ⟨w6.heap.size + 1, 4, none⟩ = some (.int .i64 (clearV c).n) ∧ w'.cell? ⟨w6.heap.size + 1, 5, none⟩ = some (.slice va (clearV c).dat.length vc)) w8 := ⟨hq8.1, hq8.2.1, hq8.2.2.1, hq8.2.2.2, y0, y1, y2, y3, y4, y5⟩
            refine wpAnyH_take (i := 12) (oi := ⟨_, _, _, _, _, _⟩) (v := ?_) rfl (by kernel_rfl) (by kernel_rfl) (by kernel_rfl) (fun _ _ _ h => h) (Or.inl ⟨by kernel_rfl, ?_⟩) (by assumption) ?_
            rotate_left
            · (intro w hSw; (try dsimp only at hSw); go_simp; first | done | with_reducible rfl)
            simp only [Act.put, List.setIfInBounds_toArray, List.set_cons_zero, List.set_cons_succ]
            refine wpAnyH_take (i := 13) (oi := ⟨_, _, _, _, _, _⟩) (v := ?_) rfl (by kernel_rfl) (by kernel_rfl) (by kernel_rfl) (fun _ _ _ h => h) (Or.inl ⟨by kernel_rfl, ?_⟩) (by assumption) ?_
            rotate_left
            · (intro w hSw; (try dsimp only at hSw); go_simp; first | done | with_reducible rfl)
            simp only [Act.put, List.setIfInBounds_toArray, List.set_cons_zero, List.set_cons_succ]
            refine wpAnyH_take (i := 14) (oi := ⟨_, _, _, _, _, _⟩) (v := ?_) rfl (by kernel_rfl) (by kernel_rfl) (by kernel_rfl) (fun _ _ _ h => h) (Or.inl ⟨by kernel_rfl, ?_⟩) (by assumption) ?_
            rotate_left
            · (intro w hSw; (try dsimp only at hSw); go_simp; first | done | with_reducible rfl)
            simp only [Act.put, List.setIfInBounds_toArray, List.set_cons_zero, List.set_cons_succ]
            refine wpAnyH_take (i := 16) (oi := ⟨_, _, _, _, _, _⟩) (v := ?_) rfl (by kernel_rfl) (by kernel_rfl) (by kernel_rfl) (fun _ _ _ h => h) (Or.inl ⟨by kernel_rfl, ?_⟩) (by assumption) ?_
            rotate_left
            · (intro w hSw; (try dsimp only at hSw); go_simp; first | done | with_reducible rfl)
            simp only [Act.put, List.setIfInBounds_toArray, List.set_cons_zero, List.set_cons_succ]
            refine wpAnyH_ready (rs := [15]) (by kernel_rfl) (by simp) ?_
            refine AllReadyH.cons rfl (fun K hK => ?_) AllReadyH.nil
            go_simp
            have hbg8 : Below w.heap.size w w8 := HBE.out.trans ((hb7.trans (mods_below8 hm8 (by omega) (by omega))).mono HBE.out.size)
            refine (print_c (clearV c) (clear_sized c hc) (by rw [clear_kind c HK.out]; exact hkd) (.slice va (clearV c).dat.length vc) w8 (HG.out.below hbg8) hv2).mono ?_
            rintro e w9 ⟨rfl, hb9⟩
            have hpe : baL (printL (clearV c)) = lineB P := by rw [clear_print c HK.out]; exact HSL.out
            rw [hpe]
            clear hpe
            have hc9 : ∀ b o, b < w8.heap.size → w9.cell? ⟨b, o, none⟩ = w8.cell? ⟨b, o, none⟩ := fun b o h => hb9.cell (p := ⟨b, o, none⟩) h
            have hs8 := hm8.size
            have hH9 : (fun (w' : World) => w'.cell? ⟨w6.heap.size, 0, none⟩ = some (.string A) ∧ w'.cell? ⟨w6.heap.size, 1, none⟩ = some (.string B) ∧ w'.cell? ⟨w.heap.size + 1, 0, none⟩ = some (.slice (some ⟨g, 0, none⟩) n 1) ∧ w'.cell? ⟨g, 0, none⟩ = some (.string A) ∧ w'.cell? ⟨w6.heap.size + 1, 0, none⟩ = some (.int .i64 (clearV c).kind) ∧ w'.cell? ⟨w6.heap.size + 1, 1, none⟩ = some (.string (clearV c).path) ∧ w'.cell? ⟨w6.heap.size + 1, 2, none⟩ = some (.string (clearV c).to) ∧ w'.cell? ⟨w6.heap.size + 1, 3, none⟩ = some (.int .i64 (clearV c).off) ∧ w'.cell? ⟨w6.heap.size + 1, 4, none⟩ = some (.int .i64 (clearV c).n) ∧ w'.cell? ⟨w6.heap.size + 1, 5, none⟩ = some (.slice va (clearV c).dat.length vc)) w9 := ⟨(hc9 _ _ (by omega)).trans hq8.1, (hc9 _ _ (by omega)).trans hq8.2.1, (hc9 _ _ (by omega)).trans hq8.2.2.1, (hc9 _ _ (by omega)).trans hq8.2.2.2, (hc9 _ _ (by omega)).trans y0, (hc9 _ _ (by omega)).trans y1, (hc9 _ _ (by omega)).trans y2, (hc9 _ _ (by omega)).trans y3, (hc9 _ _ (by omega)).trans y4, (hc9 _ _ (by omega)).trans y5⟩
            clear hc9
            refine hK.out _ _ ?_ (fun hHeld => ?_)
            · exact hH9
            clear hK K
            refine wpAnyH_take (i := 17) (oi := ⟨_, _, _, _, _, _⟩) (v := ?_) rfl (by kernel_rfl) (by kernel_rfl) (by kernel_rfl) (fun _ _ _ h => h) (Or.inl ⟨by kernel_rfl, ?_⟩) (by assumption) ?_
            rotate_left
            · (intro w hSw; (try dsimp only at hSw); go_simp; first | done | with_reducible rfl)
            simp only [Act.put, List.setIfInBounds_toArray, List.set_cons_zero, List.set_cons_succ]
            refine wpAnyH_take (i := 18) (oi := ⟨_, _, _, _, _, _⟩) (v := ?_) rfl (by kernel_rfl) (by kernel_rfl) (by kernel_rfl) (fun _ _ _ h => h) (Or.inl ⟨by kernel_rfl, ?_⟩) (by assumption) ?_
            rotate_left
            · (intro w hSw; (try dsimp only at hSw); go_simp; first | done | with_reducible rfl)
            simp only [Act.put, List.setIfInBounds_toArray, List.set_cons_zero, List.set_cons_succ]
            refine wpAnyH_done (by kernel_rfl) ?_ _
            have X9 := Lib.hid (hv1.below hb9 (by omega)); have V9 := Lib.hid (hv2.below hb9)
            have R9 := HRS.out.below ((hb7.trans (mods_below8 hm8 (by omega) (by omega))).trans (hb9.mono (by omega))) (by omega)
            have B9 := Lib.hid ((hb7.trans (mods_below8 hm8 (by omega) (by omega))).trans (hb9.mono (by omega)))
            refine calm_of ?_
            have hl9 : w.heap.size < w9.heap.size := R9.lt
            have hx9 := X9.out.lt
            have z0 := X9.out.cell 0; have z1 := X9.out.cell 1; have z2 := X9.out.cell 2; have z3 := X9.out.cell 3; have z4 := X9.out.cell 4; have z5 := X9.out.cell 5
            simp only [callL, List.getElem?_cons_zero, List.getElem?_cons_succ] at z0 z1 z2 z3 z4 z5
            have e0 := R9.cell 0; have e1 := R9.cell 1; have e2 := R9.cell 2; have e3 := R9.cell 3; have e4 := R9.cell 4; have e5 := R9.cell 5
            have f0 := R9.frozen 0; have f1 := R9.frozen 1; have f2 := R9.frozen 2; have f3 := R9.frozen 3; have f4 := R9.frozen 4; have f5 := R9.frozen 5
            simp only [zeroCall, List.getElem?_cons_zero, List.getElem?_cons_succ] at e0 e1 e2 e3 e4 e5
            have HR9 := Lib.hid R9
            have hd9 := Lib.hid ((B9.out.block D hDl).trans HDF.out)
            clear R9 y0 y1 y2 y3 y4 y5 hH9 hq8 hH8 hHeld hv1 hv2 hv3 hcall8 hm8 hm8' a0 a1 L7 G7 x7 x8 hb9 hq0 hb7 hrs7 hcall7 hg7
            go_wp2
            obtain ⟨U, hU⟩ : ∃ U, U = ((((((w9.setCell ⟨w.heap.size, 0, none⟩ (.int .i64 (clearV c).kind)).setCell ⟨w.heap.size, 1, none⟩ (.string (clearV c).path)).setCell ⟨w.heap.size, 2, none⟩ (.string (clearV c).to)).setCell ⟨w.heap.size, 3, none⟩ (.int .i64 (clearV c).off)).setCell ⟨w.heap.size, 4, none⟩ (.int .i64 (clearV c).n)).setCell ⟨w.heap.size, 5, none⟩ (Value.slice va (clearV c).dat.length vc)) := ⟨_, rfl⟩
            have hbU : Blk 24 U w.heap.size (callL (clearV c) (Value.slice va (clearV c).dat.length vc)) := by rw [hU]; exact six_again HR9.out _ _ _ _ _ _
            have hmU : Mods (fun k => k = w.heap.size) w9 U := by rw [hU]; exact mods_six _ _ _ _ _ _ _ _
            rw [← hU]
            have hdU : U.heap[D]? = some (.deferred (some [])) := (hmU.block D (Nat.lt_of_lt_of_le hDl B9.out.size) (by omega)).trans hd9.out
            have hbeU : Below w.heap.size w U := (HBE.out.trans (B9.out.mono (HBE.out.size))).trans (hmU.below (fun k e => by omega) (by omega))
            refine ⟨by simp, .inl ⟨_, _, rfl, run_takeDeferred hdU, ?_⟩⟩
            obtain ⟨hf1, hf2⟩ := fin_call hbU hbeU hdU (by omega)
            have hvU : SlB U (Value.slice va (clearV c).dat.length vc) (clearV c).dat := slb_res V9.out HR9.out hmU
            refine ⟨.tuple #[.agg (callL (clearV c) (Value.slice va (clearV c).dat.length vc)).toArray, .int .i64 0], ?_, fun _ => ⟨_, rfl, slb_put hvU hdU⟩, fun h => ?_, hf2⟩
            · have c0 := hf1.cell 0; have c1 := hf1.cell 1; have c2 := hf1.cell 2; have c3 := hf1.cell 3; have c4 := hf1.cell 4; have c5 := hf1.cell 5
              simp only [callL, List.getElem?_cons_zero, List.getElem?_cons_succ] at c0 c1 c2 c3 c4 c5
              simp [results, Tryd.results9, go_sem, c0, c1, c2, c3, c4, c5, callL]
            · rw [HK.out] at h; cases h
          · refine wp_calm ?_
            refine wp_region_held_drew (S := (fun (w' : World) => w'.cell? ⟨w6.heap.size, 0, none⟩ = some (.string A) ∧ w'.cell? ⟨w6.heap.size, 1, none⟩ = some (.string B) ∧ w'.cell? ⟨w.heap.size + 1, 0, none⟩ = some (.slice (some ⟨g, 0, none⟩) n cap) ∧ w'.cell? ⟨g, 0, none⟩ = some (.string A))) (by kernel_rfl) hq0 (fun hHeld => ?_)
            refine wpAnyH_take (i := 0) (oi := ⟨_, _, _, _, _, _⟩) (v := ?_) rfl (by kernel_rfl) (by kernel_rfl) (by kernel_rfl) (fun _ _ _ h => h) (Or.inl ⟨by kernel_rfl, ?_⟩) (by assumption) ?_
            rotate_left
            · (intro w hSw; (try dsimp only at hSw); go_simp; first | done | with_reducible rfl)
            simp only [Act.put, List.setIfInBounds_toArray, List.set_cons_zero, List.set_cons_succ]
            refine wpAnyH_take (i := 1) (oi := ⟨_, _, _, _, _, _⟩) (v := ?_) rfl (by kernel_rfl) (by kernel_rfl) (by kernel_rfl) (fun _ _ _ h => h) (Or.inl ⟨by kernel_rfl, ?_⟩) (by assumption) ?_
            rotate_left
            · (intro w hSw; (try dsimp only at hSw); go_simp; first | done | with_reducible rfl)
            simp only [Act.put, List.setIfInBounds_toArray, List.set_cons_zero, List.set_cons_succ]
            refine wpAnyH_take (i := 2) (oi := ⟨_, _, _, _, _, _⟩) (v := ?_) rfl (by kernel_rfl) (by kernel_rfl) (by kernel_rfl) (fun _ _ _ h => h) (Or.inl ⟨by kernel_rfl, ?_⟩) (by assumption) ?_
            rotate_left
            · (intro w hSw; (try dsimp only at hSw); go_simp; first | done | with_reducible rfl)
            simp only [Act.put, List.setIfInBounds_toArray, List.set_cons_zero, List.set_cons_succ]
            refine wpAnyH_take (i := 3) (oi := ⟨_, _, _, _, _, _⟩) (v := ?_) rfl (by kernel_rfl) (by kernel_rfl) (by kernel_rfl) (fun _ _ _ h => h) (Or.inl ⟨by kernel_rfl, ?_⟩) (by assumption) ?_
            rotate_left
            · (intro w hSw; (try dsimp only at hSw); go_simp; first | done | with_reducible rfl)
            simp only [Act.put, List.setIfInBounds_toArray, List.set_cons_zero, List.set_cons_succ]
            refine wpAnyH_take (i := 4) (oi := ⟨_, _, _, _, _, _⟩) (v := ?_) rfl (by kernel_rfl) (by kernel_rfl) (by kernel_rfl) (fun _ _ _ h => h) (Or.inl ⟨by kernel_rfl, ?_⟩) (by assumption) ?_
            rotate_left
            · (intro w hSw; (try dsimp only at hSw); go_simp; first | done | with_reducible rfl)
            simp only [Act.put, List.setIfInBounds_toArray, List.set_cons_zero, List.set_cons_succ]
            refine wpAnyH_take (i := 5) (oi := ⟨_, _, _, _, _, _⟩) (v := ?_) rfl (by kernel_rfl) (by kernel_rfl) (by kernel_rfl) (fun _ _ _ h => h) (Or.inl ⟨by kernel_rfl, ?_⟩) (by assumption) ?_
            rotate_left
            · (intro w hSw; (try dsimp only at hSw); go_simp; first | done | with_reducible rfl)
            simp only [Act.put, List.setIfInBounds_toArray, List.set_cons_zero, List.set_cons_succ]
            refine wpAnyH_take (i := 6) (oi := ⟨_, _, _, _, _, _⟩) (v := ?_) rfl (by kernel_rfl) (by kernel_rfl) (by kernel_rfl) (fun _ _ _ h => h) (Or.inl ⟨by kernel_rfl, ?_⟩) (by assumption) ?_
            rotate_left
            · (intro w hSw; (try dsimp only at hSw); go_simp; first | done | with_reducible rfl)
            simp only [Act.put, List.setIfInBounds_toArray, List.set_cons_zero, List.set_cons_succ]
            refine wpAnyH_take (i := 7) (oi := ⟨_, _, _, _, _, _⟩) (v := ?_) rfl (by kernel_rfl) (by kernel_rfl) (by kernel_rfl) (fun _ _ _ h => h) (Or.inl ⟨by kernel_rfl, ?_⟩) (by assumption) ?_
            rotate_left
            · (intro w hSw; (try dsimp only at hSw); go_simp; first | done | with_reducible rfl)
            simp only [Act.put, List.setIfInBounds_toArray, List.set_cons_zero, List.set_cons_succ]
            refine wpAnyH_take (i := 8) (oi := ⟨_, _, _, _, _, _⟩) (v := ?_) rfl (by kernel_rfl) (by kernel_rfl) (by kernel_rfl) (fun _ _ _ h => h) (Or.inl ⟨by kernel_rfl, ?_⟩) (by assumption) ?_
            rotate_left
            · (intro w hSw; (try dsimp only at hSw); go_simp; first | done | with_reducible rfl)
            simp only [Act.put, List.setIfInBounds_toArray, List.set_cons_zero, List.set_cons_succ]
            refine wpAnyH_take (i := 9) (oi := ⟨_, _, _, _, _, _⟩) (v := ?_) rfl (by kernel_rfl) (by kernel_rfl) (by kernel_rfl) (fun _ _ _ h => h) (Or.inl ⟨by kernel_rfl, ?_⟩) (by assumption) ?_
            rotate_left
            · (intro w hSw; (try dsimp only at hSw); go_simp; first | done | with_reducible rfl)
            simp only [Act.put, List.setIfInBounds_toArray, List.set_cons_zero, List.set_cons_succ]
            refine wpAnyH_take (i := 10) (oi := ⟨_, _, _, _, _, _⟩) (v := ?_) rfl (by kernel_rfl) (by kernel_rfl) (by kernel_rfl) (fun _ _ _ h => h) (Or.inl ⟨by kernel_rfl, ?_⟩) (by assumption) ?_
            rotate_left
            · (intro w hSw; (try dsimp only at hSw); go_simp; first | done | with_reducible rfl)
            simp only [Act.put, List.setIfInBounds_toArray, List.set_cons_zero, List.set_cons_succ]
            refine wpAnyH_ready (rs := [11]) (by kernel_rfl) (by simp) ?_
            refine AllReadyH.cons rfl (fun K hK => ?_) AllReadyH.nil
            go_simp
            refine (fields_r c hc HK.out B HB.out n HNB.out P HPC.out (n - 1) (by omega) g 1 (cap - 1) (.inr rfl) (w6.heap.size + 1) W7.drew hcall7 hrs7 (by omega) hg7).mono ?_
            rintro e w8 ⟨rfl, hcall8, hm8'⟩
            have hm8 := mods_undrew hm8'
            obtain ⟨v, hv1, hv2, hv3⟩ := hcall8.ex
            obtain ⟨va, vc, rfl, -⟩ := id hv2
            have hq8 : (fun (w' : World) => w'.cell? ⟨w6.heap.size, 0, none⟩ = some (.string A) ∧ w'.cell? ⟨w6.heap.size, 1, none⟩ = some (.string B) ∧ w'.cell? ⟨w.heap.size + 1, 0, none⟩ = some (.slice (some ⟨g, 0, none⟩) n cap) ∧ w'.cell? ⟨g, 0, none⟩ = some (.string A)) w8 := ⟨(cell_ne hm8 (by omega) (by omega)).trans a0, (cell_ne hm8 (by omega) (by omega)).trans a1, (cell_ne hm8 (by omega) (by omega)).trans L7, (cell_ne hm8 (by omega) (by omega)).trans G7⟩
            refine hK.out _ _ ?_ (fun hHeld => ?_)
            · exact hq8
            clear hK K
            have y0 := hv1.cell 0; have y1 := hv1.cell 1; have y2 := hv1.cell 2; have y3 := hv1.cell 3; have y4 := hv1.cell 4; have y5 := hv1.cell 5
            simp only [callL, List.getElem?_cons_zero, List.getElem?_cons_succ] at y0 y1 y2 y3 y4 y5
            refine anyH_mono (fun (w' : World) => w'.cell? ⟨w6.heap.size, 0, none⟩ = some (.string A) ∧ w'.cell? ⟨w6.heap.size, 1, none⟩ = some (.string B) ∧ w'.cell? ⟨w.heap.size + 1, 0, none⟩ = some (.slice (some ⟨g, 0, none⟩) n cap) ∧ w'.cell? ⟨g, 0, none⟩ = some (.string A) ∧ w'.cell? ⟨w6.heap.size + 1, 0, none⟩ = some (.int .i64 (clearV c).kind) ∧ w'.cell? ⟨w6.heap.size + 1, 1, none⟩ = some (.string (clearV c).path) ∧ w'.cell? ⟨w6.heap.size + 1, 2, none⟩ = some (.string (clearV c).to) ∧ w'.cell? ⟨w6.heap.size + 1, 3, none⟩ = some (.int .i64 (clearV c).off) ∧ w'.cell? ⟨w6.heap.size + 1, 4, none⟩ = some (.int .i64 (clearV c).n) ∧ w'.cell? ⟨w6.heap.size + 1, 5, none⟩ = some (.slice va (clearV c).dat.length vc)) (fun _ h => ⟨h.1, h.2.1, h.2.2.1, h.2.2.2.1⟩) _ _ _ _ ?_
            have hH8 : (fun (w' : World) => w'.cell? ⟨w6.heap.size, 0, none⟩ = some (.string A) ∧ w'.cell? ⟨w6.heap.size, 1, none⟩ = some (.string B) ∧ w'.cell? ⟨w.heap.size + 1, 0, none⟩ = some (.slice (some ⟨g, 0, none⟩) n cap) ∧ w'.cell? ⟨g, 0, none⟩ = some (.string A) ∧ w'.cell? ⟨w6.heap.size + 1, 0, none⟩ = some (.int .i64 (clearV c).kind) ∧ w'.cell? ⟨w6.heap.size + 1, 1, none⟩ = some (.string (clearV c).path) ∧ w'.cell? ⟨w6.heap.size + 1, 2, none⟩ = some (.string (clearV c).to) ∧ w'.cell? ⟨w6.heap.size + 1, 3, none⟩ = some (.int .i64 (clearV c).off) ∧ w'.cell? ⟨w6.heap.size + 1, 4, none⟩ = some (.int .i64 (clearV c).n) ∧ w'.cell? ⟨w6.heap.size + 1, 5, none⟩ = some (.slice va (clearV c).dat.length vc)) w8 := ⟨hq8.1, hq8.2.1, hq8.2.2.1, hq8.2.2.2, y0, y1, y2, y3, y4, y5⟩
            refine wpAnyH_take (i := 12) (oi := ⟨_, _, _, _, _, _⟩) (v := ?_) rfl (by kernel_rfl) (by kernel_rfl) (by kernel_rfl) (fun _ _ _ h => h) (Or.inl ⟨by kernel_rfl, ?_⟩) (by assumption) ?_
            rotate_left
            · (intro w hSw; (try dsimp only at hSw); go_simp; first | done | with_reducible rfl)
            simp only [Act.put, List.setIfInBounds_toArray, List.set_cons_zero, List.set_cons_succ]
            refine wpAnyH_take (i := 13) (oi := ⟨_, _, _, _, _, _⟩) (v := ?_) rfl (by kernel_rfl) (by kernel_rfl) (by kernel_rfl) (fun _ _ _ h => h) (Or.inl ⟨by kernel_rfl, ?_⟩) (by assumption) ?_
            rotate_left
            · (intro w hSw; (try dsimp only at hSw); go_simp; first | done | with_reducible rfl)
            simp only [Act.put, List.setIfInBounds_toArray, List.set_cons_zero, List.set_cons_succ]
            refine wpAnyH_take (i := 14) (oi := ⟨_, _, _, _, _, _⟩) (v := ?_) rfl (by kernel_rfl) (by kernel_rfl) (by kernel_rfl) (fun _ _ _ h => h) (Or.inl ⟨by kernel_rfl, ?_⟩) (by assumption) ?_
            rotate_left
            · (intro w hSw; (try dsimp only at hSw); go_simp; first | done | with_reducible rfl)
            simp only [Act.put, List.setIfInBounds_toArray, List.set_cons_zero, List.set_cons_succ]
            refine wpAnyH_take (i := 16) (oi := ⟨_, _, _, _, _, _⟩) (v := ?_) rfl (by kernel_rfl) (by kernel_rfl) (by kernel_rfl) (fun _ _ _ h => h) (Or.inl ⟨by kernel_rfl, ?_⟩) (by assumption) ?_
            rotate_left
            · (intro w hSw; (try dsimp only at hSw); go_simp; first | done | with_reducible rfl)
            simp only [Act.put, List.setIfInBounds_toArray, List.set_cons_zero, List.set_cons_succ]
            refine wpAnyH_ready (rs := [15]) (by kernel_rfl) (by simp) ?_
            refine AllReadyH.cons rfl (fun K hK => ?_) AllReadyH.nil
            go_simp
            have hbg8 : Below w.heap.size w w8 := HBE.out.trans ((hb7.trans (mods_below8 hm8 (by omega) (by omega))).mono HBE.out.size)
            refine (print_c (clearV c) (clear_sized c hc) (by rw [clear_kind c HK.out]; exact hkd) (.slice va (clearV c).dat.length vc) w8 (HG.out.below hbg8) hv2).mono ?_
            rintro e w9 ⟨rfl, hb9⟩
            have hpe : baL (printL (clearV c)) = lineB P := by rw [clear_print c HK.out]; exact HSL.out
            rw [hpe]
            clear hpe
            have hc9 : ∀ b o, b < w8.heap.size → w9.cell? ⟨b, o, none⟩ = w8.cell? ⟨b, o, none⟩ := fun b o h => hb9.cell (p := ⟨b, o, none⟩) h
            have hs8 := hm8.size
            have hH9 : (fun (w' : World) => w'.cell? ⟨w6.heap.size, 0, none⟩ = some (.string A) ∧ w'.cell? ⟨w6.heap.size, 1, none⟩ = some (.string B) ∧ w'.cell? ⟨w.heap.size + 1, 0, none⟩ = some (.slice (some ⟨g, 0, none⟩) n cap) ∧ w'.cell? ⟨g, 0, none⟩ = some (.string A) ∧ w'.cell? ⟨w6.heap.size + 1, 0, none⟩ = some (.int .i64 (clearV c).kind) ∧ w'.cell? ⟨w6.heap.size + 1, 1, none⟩ = some (.string (clearV c).path) ∧ w'.cell? ⟨w6.heap.size + 1, 2, none⟩ = some (.string (clearV c).to) ∧ w'.cell? ⟨w6.heap.size + 1, 3, none⟩ = some (.int .i64 (clearV c).off) ∧ w'.cell? ⟨w6.heap.size + 1, 4, none⟩ = some (.int .i64 (clearV c).n) ∧ w'.cell? ⟨w6.heap.size + 1, 5, none⟩ = some (.slice va (clearV c).dat.length vc)) w9 := ⟨(hc9 _ _ (by omega)).trans hq8.1, (hc9 _ _ (by omega)).trans hq8.2.1, (hc9 _ _ (by omega)).trans hq8.2.2.1, (hc9 _ _ (by omega)).trans hq8.2.2.2, (hc9 _ _ (by omega)).trans y0, (hc9 _ _ (by omega)).trans y1, (hc9 _ _ (by omega)).trans y2, (hc9 _ _ (by omega)).trans y3, (hc9 _ _ (by omega)).trans y4, (hc9 _ _ (by omega)).trans y5⟩
            clear hc9
            refine hK.out _ _ ?_ (fun hHeld => ?_)
            · exact hH9
            clear hK K
            refine wpAnyH_take (i := 17) (oi := ⟨_, _, _, _, _, _⟩) (v := ?_) rfl (by kernel_rfl) (by kernel_rfl) (by kernel_rfl) (fun _ _ _ h => h) (Or.inl ⟨by kernel_rfl, ?_⟩) (by assumption) ?_
            rotate_left
            · (intro w hSw; (try dsimp only at hSw); go_simp; first | done | with_reducible rfl)
            simp only [Act.put, List.setIfInBounds_toArray, List.set_cons_zero, List.set_cons_succ]
            refine wpAnyH_take (i := 18) (oi := ⟨_, _, _, _, _, _⟩) (v := ?_) rfl (by kernel_rfl) (by kernel_rfl) (by kernel_rfl) (fun _ _ _ h => h) (Or.inl ⟨by kernel_rfl, ?_⟩) (by assumption) ?_
            rotate_left
            · (intro w hSw; (try dsimp only at hSw); go_simp; first | done | with_reducible rfl)
            simp only [Act.put, List.setIfInBounds_toArray, List.set_cons_zero, List.set_cons_succ]
            refine wpAnyH_done (by kernel_rfl) ?_ _
            have X9 := Lib.hid (hv1.below hb9 (by omega)); have V9 := Lib.hid (hv2.below hb9)
            have R9 := HRS.out.below ((hb7.trans (mods_below8 hm8 (by omega) (by omega))).trans (hb9.mono (by omega))) (by omega)
            have B9 := Lib.hid ((hb7.trans (mods_below8 hm8 (by omega) (by omega))).trans (hb9.mono (by omega)))
            refine calm_of ?_
            have hl9 : w.heap.size < w9.heap.size := R9.lt
            have hx9 := X9.out.lt
            have z0 := X9.out.cell 0; have z1 := X9.out.cell 1; have z2 := X9.out.cell 2; have z3 := X9.out.cell 3; have z4 := X9.out.cell 4; have z5 := X9.out.cell 5
            simp only [callL, List.getElem?_cons_zero, List.getElem?_cons_succ] at z0 z1 z2 z3 z4 z5
            have e0 := R9.cell 0; have e1 := R9.cell 1; have e2 := R9.cell 2; have e3 := R9.cell 3; have e4 := R9.cell 4; have e5 := R9.cell 5
            have f0 := R9.frozen 0; have f1 := R9.frozen 1; have f2 := R9.frozen 2; have f3 := R9.frozen 3; have f4 := R9.frozen 4; have f5 := R9.frozen 5
            simp only [zeroCall, List.getElem?_cons_zero, List.getElem?_cons_succ] at e0 e1 e2 e3 e4 e5
            have HR9 := Lib.hid R9
            have hd9 := Lib.hid ((B9.out.block D hDl).trans HDF.out)
            clear R9 y0 y1 y2 y3 y4 y5 hH9 hq8 hH8 hHeld hv1 hv2 hv3 hcall8 hm8 hm8' a0 a1 L7 G7 x7 x8 hb9 hq0 hb7 hrs7 hcall7 hg7
            go_wp2
            obtain ⟨U, hU⟩ : ∃ U, U = ((((((w9.setCell ⟨w.heap.size, 0, none⟩ (.int .i64 (clearV c).kind)).setCell ⟨w.heap.size, 1, none⟩ (.string (clearV c).path)).setCell ⟨w.heap.size, 2, none⟩ (.string (clearV c).to)).setCell ⟨w.heap.size, 3, none⟩ (.int .i64 (clearV c).off)).setCell ⟨w.heap.size, 4, none⟩ (.int .i64 (clearV c).n)).setCell ⟨w.heap.size, 5, none⟩ (Value.slice va (clearV c).dat.length vc)) := ⟨_, rfl⟩
            have hbU : Blk 24 U w.heap.size (callL (clearV c) (Value.slice va (clearV c).dat.length vc)) := by rw [hU]; exact six_again HR9.out _ _ _ _ _ _
            have hmU : Mods (fun k => k = w.heap.size) w9 U := by rw [hU]; exact mods_six _ _ _ _ _ _ _ _
            rw [← hU]
            have hdU : U.heap[D]? = some (.deferred (some [])) := (hmU.block D (Nat.lt_of_lt_of_le hDl B9.out.size) (by omega)).trans hd9.out
            have hbeU : Below w.heap.size w U := (HBE.out.trans (B9.out.mono (HBE.out.size))).trans (hmU.below (fun k e => by omega) (by omega))
            refine ⟨by simp, .inl ⟨_, _, rfl, run_takeDeferred hdU, ?_⟩⟩
            obtain ⟨hf1, hf2⟩ := fin_call hbU hbeU hdU (by omega)
            have hvU : SlB U (Value.slice va (clearV c).dat.length vc) (clearV c).dat := slb_res V9.out HR9.out hmU
            refine ⟨.tuple #[.agg (callL (clearV c) (Value.slice va (clearV c).dat.length vc)).toArray, .int .i64 0], ?_, fun _ => ⟨_, rfl, slb_put hvU hdU⟩, fun h => ?_, hf2⟩
            · have c0 := hf1.cell 0; have c1 := hf1.cell 1; have c2 := hf1.cell 2; have c3 := hf1.cell 3; have c4 := hf1.cell 4; have c5 := hf1.cell 5
              simp only [callL, List.getElem?_cons_zero, List.getElem?_cons_succ] at c0 c1 c2 c3 c4 c5
              simp [results, Tryd.results9, go_sem, c0, c1, c2, c3, c4, c5, callL]
            · rw [HK.out] at h; cases h
        · have hne : (A.toList == P0.toList) = false := by rw [HA.out, HP0E.out]; exact word_ne HKX.out hm
          have hne2 : ¬ A.toList = P0.toList := by rw [beq_eq_false_iff_ne] at hne; exact hne
          have HM := Lib.hid hm
          clear hm
          go_wp2
          go_quiet (fail)
          go_wp2
          go_roundw
          case rel => 
            refine ⟨_, _, Lib.hid (((HRG1.out.alloc _).alloc _).kept (grownBy_drewN _ _) (by simp) (by simp)), ?_, ?_, Lib.hid (below_drewN ((HB6.out.alloc HB6.out.size _).alloc (by have := HB6.out.size; simp; omega) _) _)⟩
            · refine Lib.hid fun kl2 h => HK.out kl2 ?_
              simp only [Bool.and_eq_true] at h; exact h.1
            · exact Lib.hid fun h => by rw [HT.out h, Bool.true_and, HKL.out]; exact not_same (fun e => HM.out ⟨h, e⟩) hkd
          case measure =>
            refine Nat.lt_of_le_of_lt (Nat.le_of_eq (World.ranges.left_eq (((HRG1.out.alloc _).alloc _).kept (grownBy_drewN _ _) (by simp) (by simp)))) ?_
            rw [HR.out.left_eq]; exact HLT.out
end Go.Proofs.YtlkeegmpjjoicaaDoor
end

section
/- The reference's words for bytes and paths. -/
namespace Go.Proofs.YtlkeegmpjjoicaaDoor
open Go.RowKit

theorem dig_ext (i : Nat) (h : i < 16) : (⟨#[48, 49, 50, 51, 52, 53, 54, 55, 56, 57, 97, 98, 99, 100, 101, 102]⟩ : ByteArray).extract i (i + 1) = baL [hx i] := by
  have : ∀ i : Fin 16, ((⟨#[48, 49, 50, 51, 52, 53, 54, 55, 56, 57, 97, 98, 99, 100, 101, 102]⟩ : ByteArray).extract i.val (i.val + 1)).data.toList = [hx i.val] := by decide +kernel
  exact ba_inj ((this ⟨i, h⟩).trans (baL_toList _).symm)
theorem baL_append (a b : List UInt8) : baL a ++ baL b = baL (a ++ b) := by
  apply ba_inj
  rw [cat_toList, baL_toList, baL_toList, baL_toList]
theorem baL_self (s : ByteArray) : baL s.data.toList = s := mk_toList s

set_option maxRecDepth 100000 in
set_option maxHeartbeats 1000000 in
theorem rhex_c (v : Value) (l : List UInt8) (hl : l.length ≤ 1000000) (w : World) (h : SlB w v l) :
    Calls Tryd.prog 15 #[v] w fun e w' => e = .returned (.string (baL (datL l))) ∧ Below w.heap.size w w' := by
  by_cases h0 : l = []
  · obtain ⟨a, cap, rfl, -⟩ := h
    subst h0
    go_enter Tryd.func15, Tryd.ntmps15
    go_wp2
    go_ret
    exact ⟨rfl, Below.refl _ _⟩
  · obtain ⟨b, o, cap, rfl, hr⟩ := h.none_of h0
    have hp : 0 < l.length := List.length_pos_iff.2 h0
    have hd : datL l = hexL l := if_neg h0
    obtain ⟨n, hn⟩ : ∃ n, n = l.length := ⟨_, rfl⟩
    rw [← hn] at hl hp ⊢
    have t1 : ((n : Int) == 0) = false := by rw [beq_eq_false_iff_ne]; omega
    have HD := Lib.hid hd; have HN := Lib.hid hn; have HR := Lib.hid hr
    clear hd h0 hr h hn
    go_enter Tryd.func15, Tryd.ntmps15
    go_wp2
    go_loopw [3, 4] (fun s i wr => ∃ k : Nat, k ≤ n ∧ i = .int .i64 k ∧ s = .string (baL (hexL (l.take k))) ∧ Hid (Below w.heap.size w wr)) (fun _ i _ => n - (intOf i).toNat)
    case atStart => exact ⟨0, by omega, rfl, rfl, Lib.hid (Below.refl _ _)⟩
    case round =>
      obtain ⟨k, hk, rfl, rfl, HB⟩ := hrel
      by_cases hlt : k < n
      · obtain ⟨x, hx⟩ : ∃ x, l[k]? = some x := ⟨l[k]'(by rw [← HN.out]; exact hlt), List.getElem?_eq_getElem _⟩
        have hc := (HR.out.below HB.out) k x hx
        have h256 := x.toNat_lt
        have HX := Lib.hid hx
        clear hx
        have ha := and15 x.toNat h256
        rw [Int.natCast_emod] at ha
        have kk : (0 : Int) ≤ (k : Int) := by omega
        have kn : (k : Int) < (n : Int) := by omega
        have i1 : (0 : Int) ≤ (x.toNat : Int) / 16 := by omega
        have i2 : (x.toNat : Int) / 16 + 1 ≤ 16 := by omega
        have i3 : (0 : Int) ≤ (x.toNat : Int) % 16 := by omega
        have i4 : (x.toNat : Int) % 16 + 1 ≤ 16 := by omega
        have i5 : (x.toNat : Int) / 16 ≤ (x.toNat : Int) / 16 + 1 := by omega
        have i6 : (x.toNat : Int) % 16 ≤ (x.toNat : Int) % 16 + 1 := by omega
        have i7 : IntKind.u8.wrap ((x.toNat : Int) / 16 + 1) = (x.toNat : Int) / 16 + 1 := by rw [IntKind.wrap_u8]; omega
        have i8 : IntKind.u8.wrap ((x.toNat : Int) % 16 + 1) = (x.toNat : Int) % 16 + 1 := by rw [IntKind.wrap_u8]; omega
        have d1 := dig_ext (x.toNat / 16) (div16 x)
        have d2 := dig_ext (x.toNat % 16) (mod16 x)
        have q1 : (baL (hexL (l.take k))).size ≤ 2000000 := by rw [← sz, baL_toList, hexL_length, List.length_take]; omega
        have q2 : (baL [hx (x.toNat / 16)]).size ≤ 1 := by rw [← sz, baL_toList]; exact Nat.le_refl 1
        have q3 : (baL [hx (x.toNat % 16)]).size ≤ 1 := by rw [← sz, baL_toList]; exact Nat.le_refl 1
        have n1 : ¬ 9223372036854775807 < (baL (hexL (l.take k))).size + (baL [hx (x.toNat / 16)]).size := by omega
        have n2 : ¬ 9223372036854775807 < (baL (hexL (l.take k))).size + (baL [hx (x.toNat / 16)]).size + (baL [hx (x.toNat % 16)]).size := by omega
        go_wp2
        go_quiet (fail)
        go_wp2
        go_roundw
        case rel =>
          refine ⟨k + 1, by omega, by go_num, ?_, Lib.hid (below_drewN HB.out _)⟩
          rw [baL_append, baL_append, take_snoc' l k x HX.out]
          simp [hexL, hexB]
        case measure => simp [intOf]; omega
      · obtain rfl : k = n := by omega
        have hk2 : l.take k = l := by rw [HN.out, List.take_length]
        rw [hk2]
        go_wp2
        go_ret
        exact ⟨by rw [HD.out]; rfl, HB.out⟩

theorem ext_one (s : ByteArray) (k : Nat) (h : k < s.size) : s.extract k (k + 1) = baL [s[k]] := by
  apply ba_inj
  rw [extract_toList s _ _ (by omega) (by omega), baL_toList, show k + 1 - k = 1 by omega]
  have hl : k < s.data.toList.length := by rw [sz]; exact h
  rw [List.drop_eq_getElem_cons hl]; rfl
theorem path_esc {l : List UInt8} {k : Nat} {x : UInt8} (hx2 : l[k]? = some x) (he : escB x = true) : Value.string (baL ((l.take k).flatMap shB) ++ ⟨#[37]⟩ ++ baL [hx (x.toNat / 16)] ++ baL [hx (x.toNat % 16)]) = .string (baL ((l.take (k + 1)).flatMap shB)) := by
  have e : (⟨#[37]⟩ : ByteArray) = baL [37] := rfl
  rw [flat_succ hx2, e, baL_append, baL_append, baL_append, shB, if_pos he]
  simp [hexB]
theorem path_pl {l : List UInt8} {k : Nat} {x : UInt8} (hx2 : l[k]? = some x) (he : escB x = false) : Value.string (baL ((l.take k).flatMap shB) ++ baL [x]) = .string (baL ((l.take (k + 1)).flatMap shB)) := by
  rw [flat_succ hx2, baL_append, shB, he]; simp
theorem flat_size (l : List UInt8) (k : Nat) (hl : l.length ≤ 1000000) : (baL ((l.take k).flatMap shB)).size ≤ 3000000 := by
  rw [← sz, baL_toList]
  have := flat_le (l.take k)
  have h2 : (l.take k).length ≤ l.length := by rw [List.length_take]; omega
  omega
set_option maxRecDepth 100000 in
set_option maxHeartbeats 1000000 in
theorem rpath_c (s : ByteArray) (hs : s.size ≤ 1000000) (w : World) :
    Calls Tryd.prog 22 #[.string s] w fun e w' => e = .returned (.string (baL (shL s.data.toList))) ∧ Below w.heap.size w w' := by
  have he := emptyIff s
  by_cases h0 : s.size = 0
  · have hsh : shL s.data.toList = [37] := if_pos (List.length_eq_zero_iff.1 (by rw [sz]; exact h0))
    have hn := toList_nil s h0
    rw [decide_eq_true h0] at he
    have HS := Lib.hid hsh; have HZ := Lib.hid h0; clear hsh h0
    go_enter Tryd.func22, Tryd.ntmps22
    go_wp2
    go_ret
    exact ⟨by rw [HS.out]; rfl, Below.refl _ _⟩
  · have hne : s.data.toList ≠ [] := fun e => h0 (by rw [← sz, e]; rfl)
    rw [decide_eq_false h0] at he
    have HS := Lib.hid (shL_ne hne)
    have H0 := Lib.hid h0
    clear h0 hne
    go_enter Tryd.func22, Tryd.ntmps22
    go_wp2
    go_loopw [3, 4, 5] (fun v i _ wr => ∃ k : Nat, k ≤ s.size ∧ i = .int .i64 k ∧ v = .string (baL ((s.data.toList.take k).flatMap shB)) ∧ Hid (Below w.heap.size w wr)) (fun _ i _ _ => s.size - (intOf i).toNat)
    case atStart => exact ⟨0, by omega, rfl, rfl, Lib.hid (Below.refl _ _)⟩
    case round =>
      obtain ⟨k, hk, rfl, rfl, HB⟩ := hrel
      by_cases hlt : k < s.size
      · have hx : s.data.toList[k]? = some s[k] := by rw [List.getElem?_eq_getElem (by rw [sz]; exact hlt)]; rfl
        have HX := Lib.hid hx
        clear hx
        have q1 := flat_size s.data.toList k (by rw [sz]; exact hs)
        by_cases hesc : escB s[k] = true
        · have hcase : ((s[k].toNat : Int) < 33) ∨ (¬ (s[k].toNat : Int) < 33 ∧ 126 < (s[k].toNat : Int)) ∨ (¬ (s[k].toNat : Int) < 33 ∧ ¬ 126 < (s[k].toNat : Int) ∧ (s[k].toNat : Int) = 37) := by
            simp only [escB, Bool.or_eq_true, decide_eq_true_eq] at hesc
            omega
          have HE := Lib.hid hesc
          clear hesc
          have h256 := s[k].toNat_lt
          have ha := and15 s[k].toNat h256
          rw [Int.natCast_emod] at ha
          have i1 : (0 : Int) ≤ (s[k].toNat : Int) / 16 := by omega
          have i2 : (s[k].toNat : Int) / 16 + 1 ≤ 16 := by omega
          have i3 : (0 : Int) ≤ (s[k].toNat : Int) % 16 := by omega
          have i4 : (s[k].toNat : Int) % 16 + 1 ≤ 16 := by omega
          have i5 : (s[k].toNat : Int) / 16 ≤ (s[k].toNat : Int) / 16 + 1 := by omega
          have i6 : (s[k].toNat : Int) % 16 ≤ (s[k].toNat : Int) % 16 + 1 := by omega
          have i7 : IntKind.u8.wrap ((s[k].toNat : Int) / 16 + 1) = (s[k].toNat : Int) / 16 + 1 := by rw [IntKind.wrap_u8]; omega
          have i8 : IntKind.u8.wrap ((s[k].toNat : Int) % 16 + 1) = (s[k].toNat : Int) % 16 + 1 := by rw [IntKind.wrap_u8]; omega
          have d1 := dig_ext (s[k].toNat / 16) (div16 s[k])
          have d2 := dig_ext (s[k].toNat % 16) (mod16 s[k])
          have q2 : (baL [hx (s[k].toNat / 16)]).size ≤ 1 := by rw [← sz, baL_toList]; exact Nat.le_refl 1
          have q3 : (baL [hx (s[k].toNat % 16)]).size ≤ 1 := by rw [← sz, baL_toList]; exact Nat.le_refl 1
          have n0 : ¬ 9223372036854775807 < (baL ((s.data.toList.take k).flatMap shB)).size + 1 := by omega
          have n1 : ¬ 9223372036854775807 < (baL ((s.data.toList.take k).flatMap shB)).size + 1 + (baL [hx (s[k].toNat / 16)]).size := by omega
          have n2 : ¬ 9223372036854775807 < (baL ((s.data.toList.take k).flatMap shB)).size + 1 + (baL [hx (s[k].toNat / 16)]).size + (baL [hx (s[k].toNat % 16)]).size := by omega
          rcases hcase with h | ⟨h1, h2⟩ | ⟨h1, h2, h3⟩
          · have t1 : decide ((s[k].toNat : Int) < 33) = true := by simp; omega
            clear h
            go_wp2
            go_quiet (fail)
            go_wp2
            go_roundw
            case rel => exact ⟨k + 1, by omega, by go_num, path_esc HX.out HE.out, Lib.hid (below_drewN HB.out _)⟩
            case measure => simp [intOf]; omega
          · have t1 : decide ((s[k].toNat : Int) < 33) = false := by simp; omega
            have t2 : decide (126 < (s[k].toNat : Int)) = true := by simp; omega
            clear h1 h2
            go_wp2
            go_quiet (fail)
            go_wp2
            go_roundw
            case rel => exact ⟨k + 1, by omega, by go_num, path_esc HX.out HE.out, Lib.hid (below_drewN HB.out _)⟩
            case measure => simp [intOf]; omega
          · have t1 : decide ((s[k].toNat : Int) < 33) = false := by simp; omega
            have t2 : decide (126 < (s[k].toNat : Int)) = false := by simp; omega
            have t3 : ((s[k].toNat : Int) == 37) = true := by rw [beq_iff_eq]; exact h3
            clear h1 h2 h3
            go_wp2
            go_quiet (fail)
            go_wp2
            go_roundw
            case rel => exact ⟨k + 1, by omega, by go_num, path_esc HX.out HE.out, Lib.hid (below_drewN HB.out _)⟩
            case measure => simp [intOf]; omega
        · have hcase : ¬ (s[k].toNat : Int) < 33 ∧ ¬ 126 < (s[k].toNat : Int) ∧ ¬ (s[k].toNat : Int) = 37 := by
            simp only [escB, Bool.or_eq_true, decide_eq_true_eq] at hesc
            omega
          have HE := Lib.hid (Bool.eq_false_iff.2 hesc)
          obtain ⟨h1, h2, h3⟩ := hcase
          have t1 : decide ((s[k].toNat : Int) < 33) = false := by simp; omega
          have t2 : decide (126 < (s[k].toNat : Int)) = false := by simp; omega
          have t3 : ((s[k].toNat : Int) == 37) = false := by rw [beq_eq_false_iff_ne]; exact h3
          clear h1 h2 h3 hesc
          have dx := ext_one s k hlt
          have q2 : (baL [s[k]]).size ≤ 1 := by rw [← sz, baL_toList]; exact Nat.le_refl 1
          have n0 : ¬ 9223372036854775807 < (baL ((s.data.toList.take k).flatMap shB)).size + (baL [s[k]]).size := by omega
          have k1 : (k : Int) ≤ (k : Int) + 1 := by omega
          have k2 : (k : Int) + 1 ≤ (s.size : Int) := by omega
          go_wp2
          go_roundw
          case rel => exact ⟨k + 1, by omega, by go_num, path_pl HX.out HE.out, HB⟩
          case measure => simp [intOf]; omega
      · obtain rfl : k = s.size := by omega
        have hk2 : s.data.toList.take s.size = s.data.toList := by rw [← sz, List.take_length]
        rw [hk2]
        clear hk2
        go_wp2
        go_ret
        exact ⟨by rw [HS.out]; rfl, HB.out⟩
end Go.Proofs.YtlkeegmpjjoicaaDoor
end

section
/- The reference's numbers, words and lines. -/
namespace Go.Proofs.YtlkeegmpjjoicaaDoor
open Go.RowKit

def dgC (i : Nat) : UInt8 := UInt8.ofNat (48 + i)
theorem dig10 (i : Nat) (h : i < 10) : (⟨#[48, 49, 50, 51, 52, 53, 54, 55, 56, 57]⟩ : ByteArray).extract i (i + 1) = baL [dgC i] := by
  have : ∀ i : Fin 10, ((⟨#[48, 49, 50, 51, 52, 53, 54, 55, 56, 57]⟩ : ByteArray).extract i.val (i.val + 1)).data.toList = [UInt8.ofNat (48 + i.val)] := by decide +kernel
  exact ba_inj ((this ⟨i, h⟩).trans (baL_toList _).symm)
theorem dec_len (m : Nat) (h : m ≤ 9223372036854775807) : (baL (Lib.decDigits m)).size ≤ 20 := by
  rw [← sz, baL_toList, Lib.decDigits_length]; exact Lib.nDigits_le20 m (by omega)
theorem num_at {m : Nat} (h : ∀ w : World, Calls Tryd.prog 23 #[.int .i64 ((m / 10 : Nat) : Int)] w fun e w' => e = .returned (.string (baL (Lib.decDigits (m / 10)))) ∧ w = w') {w : World} : Calls Tryd.prog 23 #[.int .i64 ((m : Int) / 10)] w fun e w' => e = .returned (.string (baL (Lib.decDigits (m / 10)))) ∧ w = w' := by
  have := h w
  rwa [Int.natCast_ediv] at this
set_option maxRecDepth 100000 in
set_option maxHeartbeats 1000000 in
theorem rnum_nat (m : Nat) (h : m ≤ 9223372036854775807) (w : World) : Calls Tryd.prog 23 #[.int .i64 (m : Int)] w fun e w' => e = .returned (.string (baL (Lib.decDigits m))) ∧ w = w' := by
  induction m using Nat.strongRecOn generalizing w with
  | ind m ih =>
    have d1 := dig10 (m % 10) (Nat.mod_lt _ (by decide))
    have i1 : (0 : Int) ≤ (m : Int) := by omega
    have i2 : (m : Int) ≤ 9223372036854775807 := by omega
    have i3 : (0 : Int) ≤ (m : Int) % 10 := by omega
    have i4 : (m : Int) % 10 + 1 ≤ 10 := by omega
    have i5 : (m : Int) % 10 ≤ (m : Int) % 10 + 1 := by omega
    have t0 : decide ((m : Int) < 0) = false := by simp
    by_cases h9 : m < 10
    · have t1 : decide (9 < (m : Int)) = false := by simp; omega
      have hd : Lib.decDigits m = [dgC (m % 10)] := by rw [Lib.decDigits, dif_pos h9, Nat.mod_eq_of_lt h9]; rfl
      have HD := Lib.hid hd; have IH := Lib.hid ih
      clear hd ih h9
      go_enter Tryd.func23, Tryd.ntmps23
      go_wp2
      go_ret
      exact ⟨by rw [HD.out, ← d1]; rfl, rfl⟩
    · have t1 : decide (9 < (m : Int)) = true := by simp; omega
      have hd : Lib.decDigits m = Lib.decDigits (m / 10) ++ [dgC (m % 10)] := by rw [Lib.decDigits, dif_neg h9]; rfl
      have hi := ih (m / 10) (by omega) (by omega)
      have hl := dec_len (m / 10) (by omega)
      have hl2 : (baL [dgC (m % 10)]).size ≤ 1 := by rw [← sz, baL_toList]; exact Nat.le_refl 1
      have n1 : ¬ 9223372036854775807 < (baL (Lib.decDigits (m / 10))).size + (baL [dgC (m % 10)]).size := by omega
      have HD := Lib.hid hd; have IH := Lib.hid hi
      clear hd ih hi h9
      go_enter Tryd.func23, Tryd.ntmps23
      go_wp2_with (go_at_call 23; refine (num_at IH.out).mono ?_; rintro e w2 ⟨rfl, rfl⟩)
      go_ret
      exact ⟨by rw [HD.out, ← baL_append]; rfl, rfl⟩

theorem dec_min : Lib.decDigits 9223372036854775808 = [57, 50, 50, 51, 51, 55, 50, 48, 51, 54, 56, 53, 52, 55, 55, 53, 56, 48, 56] := by
  rw [Lib.decDigits_eq]; decide +kernel
set_option maxHeartbeats 1000000 in
theorem rnum_c (n : Int) (h0 : -9223372036854775808 ≤ n) (h1 : n ≤ 9223372036854775807) (w : World) : Calls Tryd.prog 23 #[.int .i64 n] w fun e w' => e = .returned (.string (baL (Lib.itoa n))) ∧ w = w' := by
  by_cases hn : n < 0
  · have hi : Lib.itoa n = 45 :: Lib.decDigits n.natAbs := by unfold Lib.itoa; rw [if_pos hn]
    have t0 : decide (n < 0) = true := by simp; omega
    by_cases hm : n = -9223372036854775808
    · have HI := Lib.hid hi
      subst hm
      clear hi hn
      go_enter Tryd.func23, Tryd.ntmps23
      go_wp2
      go_ret
      exact ⟨by rw [HI.out, show (-9223372036854775808 : Int).natAbs = 9223372036854775808 from rfl, dec_min]; rfl, rfl⟩
    · have t1 : (n == -9223372036854775808) = false := by rw [beq_eq_false_iff_ne]; exact hm
      have hc := rnum_nat n.natAbs (by omega)
      have he : ((n.natAbs : Nat) : Int) = -n := by omega
      rw [he] at hc
      have hl := dec_len n.natAbs (by omega)
      have n1 : ¬ 9223372036854775807 < 1 + (baL (Lib.decDigits n.natAbs)).size := by omega
      have b0 : -9223372036854775808 < n := by omega
      have HI := Lib.hid hi; have HC := Lib.hid hc
      clear hi hc he hn hm
      go_enter Tryd.func23, Tryd.ntmps23
      go_wp2_with (go_at_call 23; refine (HC.out _).mono ?_; rintro e w2 ⟨rfl, rfl⟩)
      go_ret
      exact ⟨by rw [HI.out, show (45 :: Lib.decDigits n.natAbs) = [45] ++ Lib.decDigits n.natAbs from rfl, ← baL_append]; rfl, rfl⟩
  · obtain ⟨m, rfl⟩ := Int.eq_ofNat_of_zero_le (by omega : 0 ≤ n)
    have hi : Lib.itoa (m : Int) = Lib.decDigits m := by unfold Lib.itoa; rw [if_neg (by omega)]; rfl
    rw [hi]
    exact rnum_nat m (by omega) w

/-- the fields by the reference's letters -/
def fdR : Nat → ByteArray
  | 3 => ⟨#[112, 116]⟩
  | 6 => ⟨#[112, 116]⟩
  | n => fd n
def fldR (c : CV) (f : UInt8) : List UInt8 :=
  if f = 112 then shL c.path.data.toList else if f = 116 then shL c.to.data.toList else if f = 111 then Lib.itoa c.off else if f = 110 then Lib.itoa c.n else datL c.dat
def letR (f : UInt8) : Prop := f = 112 ∨ f = 116 ∨ f = 111 ∨ f = 110 ∨ f = 100
theorem fdR_let {k : Int} (h : known k = true) : (fdR k.toNat).size ≤ 3 ∧ ∀ f ∈ (fdR k.toNat).data.toList, letR f := by
  simp only [known, Bool.and_eq_true, decide_eq_true_eq] at h
  have : ∀ k : Fin 14, (fdR k.val).size ≤ 3 ∧ ∀ f ∈ (fdR k.val).data.toList, (f = 112 ∨ f = 116 ∨ f = 111 ∨ f = 110 ∨ f = 100) := by decide +kernel
  exact this ⟨k.toNat, by omega⟩
theorem fdR_map (c : CV) (h : known c.kind = true) : (fdR c.kind.toNat).data.toList.map (fldR c) = (fd c.kind.toNat).data.toList.map (fieldL c) := by
  obtain ⟨k, p, t, o, n, d⟩ := c
  rcases known_cases h with h | h | h | h | h | h | h | h | h | h | h | h | h <;> (simp only at h; subst h; rfl)
theorem fldR_len (c : CV) (hc : Sized c) (f : UInt8) : (fldR c f).length ≤ 300001 := by
  unfold fldR
  split
  · have := (shL_length c.path.data.toList).2; rw [sz] at this; have := hc.p; omega
  · split
    · have := (shL_length c.to.data.toList).2; rw [sz] at this; have := hc.t; omega
    · split
      · have := itoa_len c.off hc.o0 hc.o1; omega
      · split
        · have := itoa_len c.n hc.n0 hc.n1; omega
        · have := (datL_length c.dat).2; have := hc.d; omega
theorem rword_c (k : Int) (w : World) : Calls Tryd.prog 21 #[.int .i64 k] w fun e w' => e = .returned (.tuple #[.string (if known k then wd k.toNat else ⟨#[]⟩), .string (if known k then fdR k.toNat else ⟨#[]⟩)]) ∧ w = w' := by
  cases hk : known k with
  | true =>
    rcases known_cases hk with h | h | h | h | h | h | h | h | h | h | h | h | h <;>
      (subst h; clear hk; go_enter Tryd.func21, Tryd.ntmps21; go_wp2; go_ret2; exact ⟨rfl, rfl⟩)
  | false =>
    have h : ¬ (1 ≤ k ∧ k ≤ 13) := fun h => by
      have : known k = true := by simp only [known, Bool.and_eq_true, decide_eq_true_eq]; exact h
      rw [hk] at this; cases this
    have t : ∀ j : Int, 1 ≤ j → j ≤ 13 → (k == j) = false := fun j h1 h2 => by rw [beq_eq_false_iff_ne]; intro e; subst e; exact h ⟨h1, h2⟩
    have t1 := t 1 (by decide) (by decide); have t2 := t 2 (by decide) (by decide); have t3 := t 3 (by decide) (by decide); have t4 := t 4 (by decide) (by decide); have t5 := t 5 (by decide) (by decide); have t6 := t 6 (by decide) (by decide); have t7 := t 7 (by decide) (by decide); have t8 := t 8 (by decide) (by decide); have t9 := t 9 (by decide) (by decide); have t10 := t 10 (by decide) (by decide); have t11 := t 11 (by decide) (by decide); have t12 := t 12 (by decide) (by decide); have t13 := t 13 (by decide) (by decide)
    clear t h hk
    go_enter Tryd.func21, Tryd.ntmps21
    go_wp2
    go_ret2
    exact ⟨rfl, rfl⟩
end Go.Proofs.YtlkeegmpjjoicaaDoor
end

section
/- The reference's line of a call. -/
namespace Go.Proofs.YtlkeegmpjjoicaaDoor
open Go.RowKit

def accL (A : ByteArray) (c : CV) (F : ByteArray) (k : Nat) : List UInt8 := A.data.toList ++ Lib.joinTail [32] ((F.data.toList.take k).map (fldR c))
theorem accL_len (A : ByteArray) (c : CV) (hc : Sized c) (F : ByteArray) (k : Nat) (hk : k ≤ 3) (hA : A.size ≤ 6) : (baL (accL A c F k)).size ≤ 1000000 := by
  rw [← sz, baL_toList, accL, List.length_append, sz, Lib.joinTail_length]
  have h := lens_le ((F.data.toList.take k).map (fldR c)) 300001 (fun l h => by
    obtain ⟨f, _, rfl⟩ := List.mem_map.1 h
    exact fldR_len c hc f)
  have hl : ((F.data.toList.take k).map (fldR c)).length ≤ k := by rw [List.length_map]; exact List.length_take_le _ _
  have h2 : 300001 * ((F.data.toList.take k).map (fldR c)).length ≤ 300001 * 3 := Nat.mul_le_mul_left _ (by omega)
  have h3 : ([32] : List UInt8).length * ((F.data.toList.take k).map (fldR c)).length ≤ 3 := by simp only [List.length_singleton, Nat.one_mul]; omega
  omega
theorem accL_step {A : ByteArray} {c : CV} {F : ByteArray} {k : Nat} {f : UInt8} {l : List UInt8} (hf : F.data.toList[k]? = some f) (hl : fldR c f = l) : Value.string (baL (accL A c F k) ++ ⟨#[32]⟩ ++ baL l) = .string (baL (accL A c F (k + 1))) := by
  have e : (⟨#[32]⟩ : ByteArray) = baL [32] := rfl
  rw [e, baL_append, baL_append]
  unfold accL
  rw [take_snoc' _ _ _ hf, List.map_append]
  simp [Lib.joinTail, hl]
theorem accL_all (c : CV) (hk : known c.kind = true) : accL (wd c.kind.toNat) c (fdR c.kind.toNat) (fdR c.kind.toNat).size = printL c := by
  unfold accL printL piecesL
  rw [hk, if_pos rfl, ← sz, List.take_length, fdR_map c hk, Lib.join_cons]

set_option maxRecDepth 100000 in
set_option maxHeartbeats 4000000 in
theorem rprint_c (c : CV) (hc : Sized c) (v : Value) (w : World) (hv : SlB w v c.dat) :
    Calls Tryd.prog 8 #[.agg #[.int .i64 c.kind, .string c.path, .string c.to, .int .i64 c.off, .int .i64 c.n, v]] w fun e w' => e = .returned (.string (baL (printL c))) ∧ Below w.heap.size w w' := by
  obtain ⟨A, hA⟩ : ∃ A, A = if known c.kind then wd c.kind.toNat else ⟨#[]⟩ := ⟨_, rfl⟩
  obtain ⟨F, hF⟩ : ∃ F, F = if known c.kind then fdR c.kind.toNat else ⟨#[]⟩ := ⟨_, rfl⟩
  have hw : ∀ W, Calls Tryd.prog 21 #[.int .i64 c.kind] W fun e w' => e = .returned (.tuple #[.string A, .string F]) ∧ W = w' := fun W => by rw [hA, hF]; exact rword_c _ _
  have hA6 : A.size ≤ 6 := by
    rw [hA]
    cases h : known c.kind with
    | true =>
      simp only [known, Bool.and_eq_true, decide_eq_true_eq] at h
      have := (wd_len ⟨c.kind.toNat, by omega⟩).1; simpa using this
    | false => exact Nat.zero_le _
  have hF3 : F.size ≤ 3 := by
    rw [hF]
    cases h : known c.kind with
    | true => have := (fdR_let h).1; simpa using this
    | false => exact Nat.zero_le _
  have hlet : ∀ f ∈ F.data.toList, letR f := by
    rw [hF]
    cases h : known c.kind with
    | true => simpa using (fdR_let h).2
    | false => simp
  have hall : accL A c F F.size = printL c := by
    rw [hA, hF]
    cases h : known c.kind with
    | true => simpa using accL_all c h
    | false => unfold printL; rw [h]; rfl
  have HW := Lib.hid hw; have HALL := Lib.hid hall; have HLET := Lib.hid hlet
  obtain ⟨va, vc, rfl, -⟩ := id hv
  have HV := Lib.hid hv
  clear hA hF hw hall hlet hv
  go_enter Tryd.func8, Tryd.ntmps8
  go_wp2_with (go_at_call 21; refine (HW.out _).mono ?_; rintro e w2 ⟨rfl, rfl⟩)
  obtain ⟨W1, hW1⟩ : ∃ W1, W1 = w.alloc (.cells #[.int .i64 c.kind, .string c.path, .string c.to, .int .i64 c.off, .int .i64 c.n, .slice va c.dat.length vc] 24) := ⟨_, rfl⟩
  have hblk : Blk 24 W1 w.heap.size (callL c (.slice va c.dat.length vc)) := by rw [hW1]; exact Blk.new (e := 24) w (callL c (.slice va c.dat.length vc))
  have hb1 : Below w.heap.size w W1 := by rw [hW1]; exact (Below.refl _ _).alloc (Nat.le_refl _) _
  have hs1 : w.heap.size < W1.heap.size := hblk.lt
  rw [← hW1]
  have HW1 := Lib.hid hW1; have HBK := Lib.hid hblk; have HB1 := Lib.hid hb1
  clear hW1 hblk hb1
  go_loopw [3, 5] (fun s i wr => ∃ k : Nat, k ≤ F.size ∧ i = .int .i64 k ∧ s = .string (baL (accL A c F k)) ∧ Hid (Below W1.heap.size W1 wr)) (fun _ i _ => F.size - (intOf i).toNat)
  case atStart => exact ⟨0, by omega, rfl, by simp [accL, Lib.joinTail, baL_self], Lib.hid (Below.refl _ _)⟩
  case round =>
    obtain ⟨k, hk, rfl, rfl, HB⟩ := hrel
    by_cases hlt : k < F.size
    · have hmem : F[k] ∈ F.data.toList := by rw [Array.mem_toList_iff]; exact Array.getElem_mem hlt
      have hl := HLET.out F[k] hmem
      have hfk : F.data.toList[k]? = some F[k] := by rw [List.getElem?_eq_getElem (by rw [sz]; exact hlt)]; rfl
      have q1 := accL_len A c hc F k (by omega) hA6
      have n1 : ¬ 9223372036854775807 < (baL (accL A c F k)).size + 1 := by omega
      have p1 := (HB.out.cell (p := ⟨w.heap.size, 1, none⟩) hs1).trans (HBK.out.cell 1)
      have p2 := (HB.out.cell (p := ⟨w.heap.size, 2, none⟩) hs1).trans (HBK.out.cell 2)
      have p3 := (HB.out.cell (p := ⟨w.heap.size, 3, none⟩) hs1).trans (HBK.out.cell 3)
      have p4 := (HB.out.cell (p := ⟨w.heap.size, 4, none⟩) hs1).trans (HBK.out.cell 4)
      have p5 := (HB.out.cell (p := ⟨w.heap.size, 5, none⟩) hs1).trans (HBK.out.cell 5)
      simp only [callL, List.getElem?_cons_zero, List.getElem?_cons_succ] at p1 p2 p3 p4 p5
      have HVW := Lib.hid (HV.out.below (HB1.out.trans (HB.out.mono (Nat.le_of_lt hs1))))
      have HFK := Lib.hid hfk
      clear hmem hfk
      rcases hl with h | h | h | h | h
      · have HF := Lib.hid (show fldR c F[k] = shL c.path.data.toList by rw [h]; rfl)
        have t0 : ((F[k].toNat : Int) == 112) = true := by rw [h]; rfl
        have q2 : (baL (shL c.path.data.toList)).size ≤ 300001 := by rw [← sz, baL_toList, ← HF.out]; exact fldR_len c hc _
        have n2 : ¬ 9223372036854775807 < (baL (accL A c F k)).size + 1 + (baL (shL c.path.data.toList)).size := by omega
        clear h
        go_wp2_with (go_at_call 22; refine (rpath_c c.path (by have := hc.p; omega) _).mono ?_; rintro e w2 ⟨rfl, hb2⟩; have HB2 := Lib.hid (HB.out.trans (hb2.mono HB.out.size)); clear hb2)
        go_roundw
        case rel => exact ⟨k + 1, by omega, by go_num, accL_step HFK.out HF.out, HB2⟩
        case measure => simp [intOf]; omega
      · have HF := Lib.hid (show fldR c F[k] = shL c.to.data.toList by rw [h]; rfl)
        have t0 : ((F[k].toNat : Int) == 112) = false := by rw [h]; rfl
        have t1 : ((F[k].toNat : Int) == 116) = true := by rw [h]; rfl
        have q2 : (baL (shL c.to.data.toList)).size ≤ 300001 := by rw [← sz, baL_toList, ← HF.out]; exact fldR_len c hc _
        have n2 : ¬ 9223372036854775807 < (baL (accL A c F k)).size + 1 + (baL (shL c.to.data.toList)).size := by omega
        clear h
        go_wp2_with (go_at_call 22; refine (rpath_c c.to (by have := hc.t; omega) _).mono ?_; rintro e w2 ⟨rfl, hb2⟩; have HB2 := Lib.hid (HB.out.trans (hb2.mono HB.out.size)); clear hb2)
        go_roundw
        case rel => exact ⟨k + 1, by omega, by go_num, accL_step HFK.out HF.out, HB2⟩
        case measure => simp [intOf]; omega
      · have HF := Lib.hid (show fldR c F[k] = Lib.itoa c.off by rw [h]; rfl)
        have t0 : ((F[k].toNat : Int) == 112) = false := by rw [h]; rfl
        have t1 : ((F[k].toNat : Int) == 116) = false := by rw [h]; rfl
        have t2 : ((F[k].toNat : Int) == 111) = true := by rw [h]; rfl
        have q2 : (baL (Lib.itoa c.off)).size ≤ 300001 := by rw [← sz, baL_toList, ← HF.out]; exact fldR_len c hc _
        have n2 : ¬ 9223372036854775807 < (baL (accL A c F k)).size + 1 + (baL (Lib.itoa c.off)).size := by omega
        clear h
        go_wp2_with (go_at_call 23; refine (rnum_c c.off hc.o0 hc.o1 _).mono ?_; rintro e w2 ⟨rfl, rfl⟩)
        have HB2 := HB
        go_roundw
        case rel => exact ⟨k + 1, by omega, by go_num, accL_step HFK.out HF.out, HB2⟩
        case measure => simp [intOf]; omega
      · have HF := Lib.hid (show fldR c F[k] = Lib.itoa c.n by rw [h]; rfl)
        have t0 : ((F[k].toNat : Int) == 112) = false := by rw [h]; rfl
        have t1 : ((F[k].toNat : Int) == 116) = false := by rw [h]; rfl
        have t2 : ((F[k].toNat : Int) == 111) = false := by rw [h]; rfl
        have t3 : ((F[k].toNat : Int) == 110) = true := by rw [h]; rfl
        have q2 : (baL (Lib.itoa c.n)).size ≤ 300001 := by rw [← sz, baL_toList, ← HF.out]; exact fldR_len c hc _
        have n2 : ¬ 9223372036854775807 < (baL (accL A c F k)).size + 1 + (baL (Lib.itoa c.n)).size := by omega
        clear h
        go_wp2_with (go_at_call 23; refine (rnum_c c.n hc.n0 hc.n1 _).mono ?_; rintro e w2 ⟨rfl, rfl⟩)
        have HB2 := HB
        go_roundw
        case rel => exact ⟨k + 1, by omega, by go_num, accL_step HFK.out HF.out, HB2⟩
        case measure => simp [intOf]; omega
      · have HF := Lib.hid (show fldR c F[k] = datL c.dat by rw [h]; rfl)
        have t0 : ((F[k].toNat : Int) == 112) = false := by rw [h]; rfl
        have t1 : ((F[k].toNat : Int) == 116) = false := by rw [h]; rfl
        have t2 : ((F[k].toNat : Int) == 111) = false := by rw [h]; rfl
        have t3 : ((F[k].toNat : Int) == 110) = false := by rw [h]; rfl
        have q2 : (baL (datL c.dat)).size ≤ 300001 := by rw [← sz, baL_toList, ← HF.out]; exact fldR_len c hc _
        have n2 : ¬ 9223372036854775807 < (baL (accL A c F k)).size + 1 + (baL (datL c.dat)).size := by omega
        clear h
        go_wp2_with (go_at_call 15; refine (rhex_c _ c.dat (by have := hc.d; omega) _ HVW.out).mono ?_; rintro e w2 ⟨rfl, hb2⟩; have HB2 := Lib.hid (HB.out.trans (hb2.mono HB.out.size)); clear hb2)
        go_roundw
        case rel => exact ⟨k + 1, by omega, by go_num, accL_step HFK.out HF.out, HB2⟩
        case measure => simp [intOf]; omega
    · obtain rfl : k = F.size := by omega
      go_wp2
      go_ret
      exact ⟨by rw [HALL.out]; rfl, HB1.out.trans (HB.out.mono (Nat.le_of_lt hs1))⟩
end Go.Proofs.YtlkeegmpjjoicaaDoor
end

section
/- What the laws ask of calls: num, same, clear. -/
namespace Go.Proofs.YtlkeegmpjjoicaaDoor
open Go.RowKit

theorem num_c (e : Int) (w : World) : Calls Tryd.prog 10 #[.int .i64 e] w fun r w' => r = .returned (.int .i64 e) ∧ w = w' := by
  go_enter Tryd.func10, Tryd.ntmps10
  go_wp2
  go_ret
  exact ⟨rfl, rfl⟩
set_option maxRecDepth 100000 in
set_option maxHeartbeats 1000000 in
theorem same_c (c : CV) (va vb : Value) (w : World) (ha : SlB w va c.dat) (hb : SlB w vb c.dat) :
    Calls Tryd.prog 11 #[.agg #[.int .i64 c.kind, .string c.path, .string c.to, .int .i64 c.off, .int .i64 c.n, va], .agg #[.int .i64 c.kind, .string c.path, .string c.to, .int .i64 c.off, .int .i64 c.n, vb]] w fun e w' => e = .returned (.bool true) ∧ Below w.heap.size w w' := by
  obtain ⟨W, hW⟩ : ∃ W, W = (w.alloc (.cells #[.int .i64 c.kind, .string c.path, .string c.to, .int .i64 c.off, .int .i64 c.n, va] 24)).alloc (.cells #[.int .i64 c.kind, .string c.path, .string c.to, .int .i64 c.off, .int .i64 c.n, vb] 24) := ⟨_, rfl⟩
  have hB : Below w.heap.size w W := by rw [hW]; exact ((Below.refl _ _).alloc (Nat.le_refl _) _).alloc (by simp) _
  have h1 := (ha.below hB).str
  have h2 := (hb.below hB).str
  obtain ⟨aa, ac, rfl, -⟩ := ha
  obtain ⟨ba, bc, rfl, -⟩ := hb
  have HB := Lib.hid hB
  clear hB
  rw [hW] at h1 h2 HB
  clear hW W
  go_enter Tryd.func11, Tryd.ntmps11
  go_wp2
  go_ret
  exact ⟨rfl, HB.out⟩
/-- Read, as the laws meet it -/
theorem read_k (c : CV) (hc : Sized c) (hkd : intOk c.kind) (hk : known c.kind = true) (w : World) (hG : Gl w) :
    Calls Tryd.prog 9 #[.string (baL (printL c))] w fun e w' => ∃ va vc, e = .returned (.tuple #[.agg #[.int .i64 (clearV c).kind, .string (clearV c).path, .string (clearV c).to, .int .i64 (clearV c).off, .int .i64 (clearV c).n, .slice va (clearV c).dat.length vc], .int .i64 0]) ∧ SlB w' (.slice va (clearV c).dat.length vc) (clearV c).dat ∧ Below w.heap.size w w' :=
  (read_c c hc hkd w hG).mono fun e w' h => by
    obtain ⟨v, h1, h2⟩ := h.1 hk
    obtain ⟨va, vc, rfl, -⟩ := id h2
    exact ⟨va, vc, h1, h2, h.2.2⟩
theorem read_u (c : CV) (hc : Sized c) (hkd : intOk c.kind) (hk : known c.kind = false) (w : World) (hG : Gl w) :
    Calls Tryd.prog 9 #[.string (baL (printL c))] w fun e w' => e = .returned (.tuple #[.agg #[.int .i64 0, .string ⟨#[]⟩, .string ⟨#[]⟩, .int .i64 0, .int .i64 0, .slice none 0 0], .int .i64 2]) ∧ Below w.heap.size w w' :=
  (read_c c hc hkd w hG).mono fun e w' h => ⟨h.2.1 hk, h.2.2⟩

def setR (o c : CV) (f : UInt8) : CV :=
  if f = 112 then { o with path := c.path } else if f = 116 then ⟨o.kind, o.path, c.to, o.off, o.n, o.dat⟩ else if f = 111 then { o with off := c.off } else if f = 110 then { o with n := c.n } else { o with dat := c.dat }
theorem clearR (c : CV) (h : known c.kind = true) : (fdR c.kind.toNat).data.toList.foldl (fun o f => setR o c f) (bareV c.kind) = clearV c := by
  obtain ⟨k, p, t, o, n, d⟩ := c
  rcases known_cases h with h | h | h | h | h | h | h | h | h | h | h | h | h <;> (simp only at h; subst h; rfl)
theorem foldR_succ {F : ByteArray} {c o0 : CV} {p : Nat} {f : UInt8} (hk : F.data.toList[p]? = some f) : (F.data.toList.take (p + 1)).foldl (fun o f => setR o c f) o0 = setR ((F.data.toList.take p).foldl (fun o f => setR o c f) o0) c f := by
  rw [take_snoc' _ _ _ hk, List.foldl_append]; rfl
/-- block b holds a call whose bytes are either none or those of v -/
def HasC (wr : World) (b : Nat) (o : CV) (v : Value) (d : List UInt8) : Prop := ∃ v', Blk 24 wr b (callL o v') ∧ ((v' = .slice none 0 0 ∧ o.dat = []) ∨ (v' = v ∧ o.dat = d))
theorem HasC.lt {wr : World} {b : Nat} {o : CV} {v : Value} {d : List UInt8} (h : HasC wr b o v d) : b < wr.heap.size := by obtain ⟨v', h, _⟩ := h; exact h.lt

set_option maxRecDepth 100000 in
set_option maxHeartbeats 4000000 in
theorem clear_c (c : CV) (hk : known c.kind = true) (va : Option Addr) (vc : Nat) (w : World) (hv : SlB w (.slice va c.dat.length vc) c.dat) :
    Calls Tryd.prog 12 #[.agg #[.int .i64 c.kind, .string c.path, .string c.to, .int .i64 c.off, .int .i64 c.n, .slice va c.dat.length vc]] w fun e w' => ∃ v', e = .returned (.agg #[.int .i64 (clearV c).kind, .string (clearV c).path, .string (clearV c).to, .int .i64 (clearV c).off, .int .i64 (clearV c).n, v']) ∧ SlB w' v' (clearV c).dat ∧ Below w.heap.size w w' := by
  have hF := fdR_let hk
  have hcl := clearR c hk
  obtain ⟨F, hFe⟩ : ∃ F, F = fdR c.kind.toNat := ⟨_, rfl⟩
  obtain ⟨A, hA⟩ : ∃ A, A = wd c.kind.toNat := ⟨_, rfl⟩
  have hw : ∀ W, Calls Tryd.prog 21 #[.int .i64 c.kind] W fun e w' => e = .returned (.tuple #[.string A, .string F]) ∧ W = w' := fun W => by
    have := rword_c c.kind W
    rw [hk] at this
    rw [hA, hFe]; exact this
  rw [← hFe] at hF hcl
  have HW := Lib.hid hw; have HF := Lib.hid hF; have HCL := Lib.hid hcl; have HV := Lib.hid hv; have HK := Lib.hid hk
  have hF3 := hF.1
  clear hFe hA hw hF hcl hv hk
  go_enter Tryd.func12, Tryd.ntmps12
  go_wp2_with (go_at_call 21; refine (HW.out _).mono ?_; rintro e w2 ⟨rfl, rfl⟩)
  obtain ⟨W3, hW3⟩ : ∃ W3, W3 = ((w.alloc (.cells #[.int .i64 c.kind, .string c.path, .string c.to, .int .i64 c.off, .int .i64 c.n, .slice va c.dat.length vc] 24)).alloc (.cells #[.int .i64 0, .string ⟨#[]⟩, .string ⟨#[]⟩, .int .i64 0, .int .i64 0, .slice none 0 0] 24)).alloc (.cells #[.int .i64 c.kind, .string ⟨#[]⟩, .string ⟨#[]⟩, .int .i64 0, .int .i64 0, .slice none 0 0] 24) := ⟨_, rfl⟩
  have k0 : Blk 24 W3 w.heap.size (callL c (.slice va c.dat.length vc)) := by rw [hW3]; exact ((Blk.new w (callL c (.slice va c.dat.length vc))).alloc _).alloc _
  have k1 : Blk 24 W3 (w.heap.size + 1) zeroCall := by rw [hW3]; exact (Blk.snd _ zeroCall).alloc _
  have k2 : Blk 24 W3 (w.heap.size + 1 + 1) (callL (bareV c.kind) (.slice none 0 0)) := by
    have := Blk.newL (e := 24) (w := (w.alloc (.cells #[.int .i64 c.kind, .string c.path, .string c.to, .int .i64 c.off, .int .i64 c.n, .slice va c.dat.length vc] 24)).alloc (.cells #[.int .i64 0, .string ⟨#[]⟩, .string ⟨#[]⟩, .int .i64 0, .int .i64 0, .slice none 0 0] 24)) (callL (bareV c.kind) (.slice none 0 0))
    rw [hW3]; simpa [callL, bareV] using this
  have hb3 : Below w.heap.size w W3 := by rw [hW3]; exact (((Below.refl _ w).alloc (Nat.le_refl _) _).alloc (by simp) _).alloc (by simp; omega) _
  rw [← hW3]
  have K0 := Lib.hid k0; have K1 := Lib.hid k1; have HB3 := Lib.hid hb3
  have hc0 : HasC W3 (w.heap.size + 1 + 1) (bareV c.kind) (.slice va c.dat.length vc) c.dat := ⟨_, k2, .inl ⟨rfl, rfl⟩⟩
  have HC0 := Lib.hid hc0
  have hs3 := k2.lt
  have hs30 := k0.lt
  clear hW3 k0 k1 k2 hb3 hc0
  go_loopw [6] (fun i wr => ∃ k : Nat, k ≤ F.size ∧ i = .int .i64 k ∧ Hid (HasC wr (w.heap.size + 1 + 1) ((F.data.toList.take k).foldl (fun o f => setR o c f) (bareV c.kind)) (.slice va c.dat.length vc) c.dat) ∧ Hid (Mods (fun b => b = w.heap.size + 1 + 1) W3 wr)) (fun i _ => F.size - (intOf i).toNat)
  case atStart => exact ⟨0, by omega, rfl, HC0, Lib.hid (Mods.refl _ _)⟩
  case round =>
    obtain ⟨k, hk, rfl, HC, HM⟩ := hrel
    have hsr := HM.out.size
    by_cases hlt : k < F.size
    · have hmem : F[k] ∈ F.data.toList := by rw [Array.mem_toList_iff]; exact Array.getElem_mem hlt
      have hl := HF.out.2 F[k] hmem
      have hfk : F.data.toList[k]? = some F[k] := by rw [List.getElem?_eq_getElem (by rw [sz]; exact hlt)]; rfl
      have hfs := foldR_succ (c := c) (o0 := bareV c.kind) hfk
      have p1 := (HM.out.cell (g := w.heap.size) (o := 1) hs30 (by omega)).trans (K0.out.cell 1)
      have p2 := (HM.out.cell (g := w.heap.size) (o := 2) hs30 (by omega)).trans (K0.out.cell 2)
      have p3 := (HM.out.cell (g := w.heap.size) (o := 3) hs30 (by omega)).trans (K0.out.cell 3)
      have p4 := (HM.out.cell (g := w.heap.size) (o := 4) hs30 (by omega)).trans (K0.out.cell 4)
      have p5 := (HM.out.cell (g := w.heap.size) (o := 5) hs30 (by omega)).trans (K0.out.cell 5)
      simp only [callL, List.getElem?_cons_zero, List.getElem?_cons_succ] at p1 p2 p3 p4 p5
      obtain ⟨o, ho⟩ : ∃ o, o = (F.data.toList.take k).foldl (fun o f => setR o c f) (bareV c.kind) := ⟨_, rfl⟩
      have hC := HC.out
      rw [← ho] at hfs hC
      obtain ⟨v', hbk, hor⟩ := hC
      have e1 := hbk.cell 1; have e2 := hbk.cell 2; have e3 := hbk.cell 3; have e4 := hbk.cell 4; have e5 := hbk.cell 5
      have f1 := hbk.frozen 1; have f2 := hbk.frozen 2; have f3 := hbk.frozen 3; have f4 := hbk.frozen 4; have f5 := hbk.frozen 5
      simp only [callL, List.getElem?_cons_zero, List.getElem?_cons_succ] at e1 e2 e3 e4 e5
      have hbl := hbk.lt
      have HBK := Lib.hid hbk; have HOR := Lib.hid hor; have HFS := Lib.hid hfs
      clear hmem hfk hbk hor hfs ho
      rcases hl with h | h | h | h | h
      · have HF2 := Lib.hid h
        have t0 : ((F[k].toNat : Int) == 112) = true := by rw [h]; rfl
        clear h
        go_wp2
        go_roundw
        case rel => exact ⟨k + 1, by omega, by go_num, Lib.hid (by rw [HFS.out, HF2.out]; exact ⟨_, HBK.out.set 1 (.string c.path), HOR.out⟩), Lib.hid (HM.out.setCell (p := ⟨w.heap.size + 1 + 1, 1, none⟩) (fun _ => rfl) _)⟩
        case measure => simp [intOf]; omega
      · have HF2 := Lib.hid h
        have t0 : ((F[k].toNat : Int) == 112) = false := by rw [h]; rfl
        have t1 : ((F[k].toNat : Int) == 116) = true := by rw [h]; rfl
        clear h
        go_wp2
        go_roundw
        case rel => exact ⟨k + 1, by omega, by go_num, Lib.hid (by rw [HFS.out, HF2.out]; exact ⟨_, HBK.out.set 2 (.string c.to), HOR.out⟩), Lib.hid (HM.out.setCell (p := ⟨w.heap.size + 1 + 1, 2, none⟩) (fun _ => rfl) _)⟩
        case measure => simp [intOf]; omega
      · have HF2 := Lib.hid h
        have t0 : ((F[k].toNat : Int) == 112) = false := by rw [h]; rfl
        have t1 : ((F[k].toNat : Int) == 116) = false := by rw [h]; rfl
        have t2 : ((F[k].toNat : Int) == 111) = true := by rw [h]; rfl
        clear h
        go_wp2
        go_roundw
        case rel => exact ⟨k + 1, by omega, by go_num, Lib.hid (by rw [HFS.out, HF2.out]; exact ⟨_, HBK.out.set 3 (.int .i64 c.off), HOR.out⟩), Lib.hid (HM.out.setCell (p := ⟨w.heap.size + 1 + 1, 3, none⟩) (fun _ => rfl) _)⟩
        case measure => simp [intOf]; omega
      · have HF2 := Lib.hid h
        have t0 : ((F[k].toNat : Int) == 112) = false := by rw [h]; rfl
        have t1 : ((F[k].toNat : Int) == 116) = false := by rw [h]; rfl
        have t2 : ((F[k].toNat : Int) == 111) = false := by rw [h]; rfl
        have t3 : ((F[k].toNat : Int) == 110) = true := by rw [h]; rfl
        clear h
        go_wp2
        go_roundw
        case rel => exact ⟨k + 1, by omega, by go_num, Lib.hid (by rw [HFS.out, HF2.out]; exact ⟨_, HBK.out.set 4 (.int .i64 c.n), HOR.out⟩), Lib.hid (HM.out.setCell (p := ⟨w.heap.size + 1 + 1, 4, none⟩) (fun _ => rfl) _)⟩
        case measure => simp [intOf]; omega
      · have HF2 := Lib.hid h
        have t0 : ((F[k].toNat : Int) == 112) = false := by rw [h]; rfl
        have t1 : ((F[k].toNat : Int) == 116) = false := by rw [h]; rfl
        have t2 : ((F[k].toNat : Int) == 111) = false := by rw [h]; rfl
        have t3 : ((F[k].toNat : Int) == 110) = false := by rw [h]; rfl
        clear h
        go_wp2
        go_roundw
        case rel => exact ⟨k + 1, by omega, by go_num, Lib.hid (by rw [HFS.out, HF2.out]; exact ⟨_, HBK.out.set 5 (.slice va c.dat.length vc), .inr ⟨rfl, rfl⟩⟩), Lib.hid (HM.out.setCell (p := ⟨w.heap.size + 1 + 1, 5, none⟩) (fun _ => rfl) _)⟩
        case measure => simp [intOf]; omega
    · obtain rfl : k = F.size := by omega
      have hk2 : F.data.toList.take F.size = F.data.toList := by rw [← sz, List.take_length]
      have hC := HC.out
      rw [hk2, HCL.out] at hC
      obtain ⟨v', hbk, hor⟩ := hC
      have hs1 : w.heap.size + 1 < wr.heap.size := by omega
      have hs2 := hbk.lt
      have k1 : Blk 24 wr (w.heap.size + 1) zeroCall := K1.out.mods HM.out (by omega)
      have z0 := k1.cell 0; have z1 := k1.cell 1; have z2 := k1.cell 2; have z3 := k1.cell 3; have z4 := k1.cell 4; have z5 := k1.cell 5
      have f0 := k1.frozen 0; have f1 := k1.frozen 1; have f2 := k1.frozen 2; have f3 := k1.frozen 3; have f4 := k1.frozen 4; have f5 := k1.frozen 5
      simp only [zeroCall, List.getElem?_cons_zero, List.getElem?_cons_succ] at z0 z1 z2 z3 z4 z5
      have K1r := Lib.hid k1
      have hbr : Below w.heap.size w wr := HB3.out.trans (HM.out.below (fun k e => by omega) (by have := HB3.out.size; omega))
      have HBR := Lib.hid hbr
      clear hk2 k1 hbr
      rcases hor with ⟨rfl, hd⟩ | ⟨rfl, hd⟩
      · have e0 := hbk.cell 0; have e1 := hbk.cell 1; have e2 := hbk.cell 2; have e3 := hbk.cell 3; have e4 := hbk.cell 4; have e5 := hbk.cell 5
        simp only [callL, List.getElem?_cons_zero, List.getElem?_cons_succ] at e0 e1 e2 e3 e4 e5
        have HD := Lib.hid hd
        clear hd hbk
        go_wp2
        obtain ⟨U, hU⟩ : ∃ U, U = ((((((wr.setCell ⟨w.heap.size + 1, 0, none⟩ (.int .i64 (clearV c).kind)).setCell ⟨w.heap.size + 1, 1, none⟩ (.string (clearV c).path)).setCell ⟨w.heap.size + 1, 2, none⟩ (.string (clearV c).to)).setCell ⟨w.heap.size + 1, 3, none⟩ (.int .i64 (clearV c).off)).setCell ⟨w.heap.size + 1, 4, none⟩ (.int .i64 (clearV c).n)).setCell ⟨w.heap.size + 1, 5, none⟩ (.slice none 0 0)) := ⟨_, rfl⟩
        have hbU : Blk 24 U (w.heap.size + 1) (callL (clearV c) (.slice none 0 0)) := by rw [hU]; exact six_again K1r.out _ _ _ _ _ _
        have hmU : Mods (fun k => k = w.heap.size + 1) wr U := by rw [hU]; exact mods_six _ _ _ _ _ _ _ _
        rw [← hU]
        have u0 := hbU.cell 0; have u1 := hbU.cell 1; have u2 := hbU.cell 2; have u3 := hbU.cell 3; have u4 := hbU.cell 4; have u5 := hbU.cell 5
        simp only [callL, List.getElem?_cons_zero, List.getElem?_cons_succ] at u0 u1 u2 u3 u4 u5
        have hbe : Below w.heap.size w U := HBR.out.trans (hmU.below (fun k e => by omega) (by have := HBR.out.size; omega))
        refine bodyPost_ret (v := .agg #[.int .i64 (clearV c).kind, .string (clearV c).path, .string (clearV c).to, .int .i64 (clearV c).off, .int .i64 (clearV c).n, .slice none 0 0]) (by simp [results, Tryd.results12, go_sem, u0, u1, u2, u3, u4, u5]) rfl ⟨_, rfl, ⟨none, 0, by rw [HD.out]; rfl, .inl ⟨rfl, HD.out⟩⟩, hbe⟩
      · have e0 := hbk.cell 0; have e1 := hbk.cell 1; have e2 := hbk.cell 2; have e3 := hbk.cell 3; have e4 := hbk.cell 4; have e5 := hbk.cell 5
        simp only [callL, List.getElem?_cons_zero, List.getElem?_cons_succ] at e0 e1 e2 e3 e4 e5
        have HD := Lib.hid hd
        clear hbk hd
        go_wp2
        obtain ⟨U, hU⟩ : ∃ U, U = ((((((wr.setCell ⟨w.heap.size + 1, 0, none⟩ (.int .i64 (clearV c).kind)).setCell ⟨w.heap.size + 1, 1, none⟩ (.string (clearV c).path)).setCell ⟨w.heap.size + 1, 2, none⟩ (.string (clearV c).to)).setCell ⟨w.heap.size + 1, 3, none⟩ (.int .i64 (clearV c).off)).setCell ⟨w.heap.size + 1, 4, none⟩ (.int .i64 (clearV c).n)).setCell ⟨w.heap.size + 1, 5, none⟩ (.slice va c.dat.length vc)) := ⟨_, rfl⟩
        have hbU : Blk 24 U (w.heap.size + 1) (callL (clearV c) (.slice va c.dat.length vc)) := by rw [hU]; exact six_again K1r.out _ _ _ _ _ _
        have hmU : Mods (fun k => k = w.heap.size + 1) wr U := by rw [hU]; exact mods_six _ _ _ _ _ _ _ _
        rw [← hU]
        have u0 := hbU.cell 0; have u1 := hbU.cell 1; have u2 := hbU.cell 2; have u3 := hbU.cell 3; have u4 := hbU.cell 4; have u5 := hbU.cell 5
        simp only [callL, List.getElem?_cons_zero, List.getElem?_cons_succ] at u0 u1 u2 u3 u4 u5
        have hbe : Below w.heap.size w U := HBR.out.trans (hmU.below (fun k e => by omega) (by have := HBR.out.size; omega))
        refine bodyPost_ret (v := .agg #[.int .i64 (clearV c).kind, .string (clearV c).path, .string (clearV c).to, .int .i64 (clearV c).off, .int .i64 (clearV c).n, .slice va c.dat.length vc]) (by simp [results, Tryd.results12, go_sem, u0, u1, u2, u3, u4, u5]) rfl ⟨_, rfl, by rw [HD.out]; exact HV.out.below hbe, hbe⟩
end Go.Proofs.YtlkeegmpjjoicaaDoor
end

section
/- alive, Show of bytes, the number of a line's words. -/
namespace Go.Proofs.YtlkeegmpjjoicaaDoor
open Go.RowKit

def c8 : CV := ⟨8, ⟨#[47, 97]⟩, ⟨#[]⟩, 0, 0, [104, 105]⟩
theorem c8_sized : Sized c8 := ⟨by decide, by decide, by decide, by decide, by decide, by decide, by decide⟩
theorem c8_print : printL c8 = [119, 114, 105, 116, 101, 32, 47, 97, 32, 48, 32, 54, 56, 54, 57] := by
  have h0 : Lib.itoa 0 = [48] := by unfold Lib.itoa; rw [if_neg (by decide)]; exact Lib.decDigits_one (by decide)
  show Lib.join [(wd 8).data.toList, shL [47, 97], Lib.itoa 0, datL [104, 105]] [32] = _
  rw [h0]; decide +kernel
theorem rdl_two (w : World) (x y : UInt8) (t : TypeId) (fr : Nat × Nat) : RdL (w.alloc (.cells #[.int .u8 (x.toNat : Int), .int .u8 (y.toNat : Int)] t fr)) w.heap.size 0 [x, y] := fun j z h => by
  rw [Nat.zero_add, World.cell?_alloc_mark]
  match j, h with
  | 0, h | 1, h => simp at h; subst h; rfl
  | j + 2, h => simp at h
set_option maxRecDepth 100000 in
set_option maxHeartbeats 1000000 in
theorem alive_c (w : World) (hG : Gl w) : Calls Tryd.prog 6 #[] w fun e w' => e = .returned (.bool true) ∧ Below w.heap.size w w' := by
  have t1 : ((baL (printL c8)).toList == [119, 114, 105, 116, 101, 32, 47, 97, 32, 48, 32, 54, 56, 54, 57]) = true := by
    rw [ByteArray.toList_eq, baL_toList, c8_print]; decide
  have t2 : ((clearV c8).kind == 8) = true := rfl
  have t3 : (clearV c8).dat = [104, 105] := rfl
  have t4 : ((⟨(clearV c8).dat.toArray⟩ : ByteArray).toList == [104, 105]) = true := by rw [ByteArray.toList_eq]; rfl
  have T3 := Lib.hid t3
  have HG := Lib.hid hG
  have hbA : Below w.heap.size w (w.alloc (.cells #[.int .u8 104, .int .u8 105] 5 (2, 3))) := (Below.refl _ _).alloc (Nat.le_refl _) _
  have HGA := Lib.hid (HG.out.below hbA)
  have hr : SlB (w.alloc (.cells #[.int .u8 104, .int .u8 105] 5 (2, 3))) (.slice (some ⟨w.heap.size, 0, none⟩) 2 2) c8.dat := ⟨_, 2, rfl, .inr ⟨w.heap.size, 0, rfl, rdl_two w 104 105 5 (2, 3)⟩⟩
  have HR := Lib.hid hr; have HBA := Lib.hid hbA
  have hk : known c8.kind = true := rfl
  have HK := Lib.hid hk
  have hcv := Lib.run_convert_bytes_const (P := Tryd.prog) w 22 5 #[.int .u8 104, .int .u8 105] 2 2 Tryd.underlying22 Tryd.underlying5
  simp only [List.size_toArray, List.length_cons, List.length_nil, Nat.zero_add, Nat.reduceAdd] at hcv
  clear hG t3 hbA hr hk
  go_enter Tryd.func6, Tryd.ntmps6
  go_wp2_with (first
    | (go_at_call 7; refine (print_c c8 c8_sized (by unfold intOk; decide) (.slice (some ⟨w.heap.size, 0, none⟩) 2 2) _ HGA.out HR.out).mono ?_; rintro e w2 ⟨rfl, hb⟩; have HG2 := Lib.hid (HGA.out.below hb); have HB2 := Lib.hid (HBA.out.trans (hb.mono (by simp))); clear hb)
    | (go_at_call 9; refine (read_k c8 c8_sized (by unfold intOk; decide) HK.out _ HG2.out).mono ?_; rintro e w3 ⟨va, vc, rfl, hv, hb⟩; have hst := (hv.below ((Below.refl _ _).alloc (Nat.le_refl _) (.cells #[.int .i64 (clearV c8).kind, .string (clearV c8).path, .string (clearV c8).to, .int .i64 (clearV c8).off, .int .i64 (clearV c8).n, .slice va (clearV c8).dat.length vc] 24))).str; have HV := Lib.hid hv; have HB3 := Lib.hid (HB2.out.trans (hb.mono HB2.out.size)); clear hb)
    | (go_at_call 10; refine (num_c _ _).mono ?_; rintro e w4 ⟨rfl, rfl⟩))
  go_ret
  exact ⟨rfl, HB3.out.alloc HB3.out.size _⟩

theorem show_c (v : Value) (l : List UInt8) (hl : l.length ≤ 100000) (w : World) (h : SlB w v l) :
    Calls Tryd.prog 14 #[.int .i64 7, .agg #[.int .i64 0, v, .int .i64 0, .int .i64 0, .int .i64 0, .slice none 0 0, .int .i64 0]] w fun e w' => e = .returned (.string (⟨#[100, 97, 116, 97, 32]⟩ ++ baL (datL l))) ∧ Below w.heap.size w w' := by
  obtain ⟨a, cap, rfl, -⟩ := id h
  have hb : Below w.heap.size w (w.alloc (.cells #[.int .i64 0, .slice a l.length cap, .int .i64 0, .int .i64 0, .int .i64 0, .slice none 0 0, .int .i64 0] 39)) := (Below.refl _ _).alloc (Nat.le_refl _) _
  have h2 := h.below hb
  have q := (datL_length l).2
  have n1 : ¬ 9223372036854775807 < 5 + (baL (datL l)).size := by rw [← sz, baL_toList]; omega
  have n2 : ¬ 9223372036854775807 < 5 + (datL l).length := by omega
  have H2 := Lib.hid h2; have HB := Lib.hid hb
  clear h h2 hb
  go_enter Tryd.func14, Tryd.ntmps14
  go_wp2_with (go_at_call 19; refine (data_c _ l (by omega) _ H2.out).mono ?_; rintro e w2 ⟨rfl, hb2⟩; have HB2 := Lib.hid (HB.out.trans (hb2.mono (by simp))); clear hb2)
  go_ret
  exact ⟨rfl, HB2.out⟩

def blanks (l : List UInt8) : Nat := (l.filter (fun b => b == 32)).length
theorem blanks_snoc (l : List UInt8) (b : UInt8) : blanks (l ++ [b]) = blanks l + if b = 32 then 1 else 0 := by
  unfold blanks; rw [List.filter_append, List.length_append]; by_cases h : b = 32 <;> simp [h]
theorem blanks_none {l : List UInt8} (h : noBlank l) : blanks l = 0 := by
  unfold blanks
  rw [List.filter_eq_nil_iff.2 (fun b hb => by simpa using h b hb)]; rfl
theorem blanks_join : ∀ (P : List (List UInt8)), P ≠ [] → (∀ x ∈ P, noBlank x) → blanks (Lib.join P [32]) + 1 = P.length
  | [], h, _ => absurd rfl h
  | [x], _, h => by rw [Lib.join_one, blanks_none (h x (.head _))]; rfl
  | x :: y :: r, _, h => by
    have ih := blanks_join (y :: r) (by simp) fun z hz => h z (.tail _ hz)
    have e : blanks (x ++ 32 :: Lib.join (y :: r) [32]) = blanks x + (1 + blanks (Lib.join (y :: r) [32])) := by
      unfold blanks
      rw [List.filter_append, List.length_append, List.filter_cons]; simp; omega
    rw [join_cons2, e, blanks_none (h x (.head _))]
    simp only [List.length_cons] at ih ⊢; omega
theorem blanks_le (l : List UInt8) (k : Nat) : blanks (l.take k) ≤ k := by
  unfold blanks
  exact Nat.le_trans (List.length_filter_le _ _) (List.length_take_le _ _)
set_option maxRecDepth 100000 in
set_option maxHeartbeats 1000000 in
theorem words_len (s : ByteArray) (hs : s.size ≤ 3000000) (w : World) :
    Calls Tryd.prog 13 #[.string s] w fun e w' => ∃ a cap, e = .returned (.slice a (blanks s.data.toList + 1) cap) ∧ Below w.heap.size w w' := by
  obtain ⟨jS, hjS, hj0, hj1, hj2⟩ := info_parts infoS
  go_enter Tryd.func13, Tryd.ntmps13
  go_wp2
  go_loopw [3, 4, 5] (fun v f i wr => ∃ k j : Nat, k ≤ s.size ∧ j ≤ k ∧ i = .int .i64 k ∧ f = .int .i64 j ∧ Hid (∃ xs, wr.ownsRow w.heap.size 9 1 v (blanks (s.data.toList.take k)) xs) ∧ Hid (Below w.heap.size w wr)) (fun _ _ i _ => s.size - (intOf i).toNat)
  case atStart => exact ⟨0, 0, by omega, by omega, rfl, rfl, Lib.hid ⟨[], World.ownsRow_nil _ _ _ _⟩, Lib.hid (Below.refl _ _)⟩
  case round =>
    obtain ⟨k, j, hk, hj, rfl, rfl, HO, HB⟩ := hrel
    have hbz := HB.out.size
    have hble := blanks_le s.data.toList k
    by_cases hlt : k < s.size
    · have hx : s.data.toList[k]? = some s[k] := by rw [List.getElem?_eq_getElem (by rw [sz]; exact hlt)]; rfl
      have hsn : blanks (s.data.toList.take (k + 1)) = blanks (s.data.toList.take k) + if s[k] = 32 then 1 else 0 := by rw [take_snoc' _ _ _ hx, blanks_snoc]
      obtain ⟨xs, ho⟩ := HO.out
      have HOW := Lib.hid ho
      obtain ⟨m, hm⟩ : ∃ m, m = blanks (s.data.toList.take k) := ⟨_, rfl⟩
      rw [← hm] at hsn HOW hble
      have HM := Lib.hid hm
      clear hx ho hm HO
      by_cases h32 : s[k] = 32
      · rw [if_pos h32] at hsn
        have t1 : ((s[k].toNat : Int) == 32) = true := by rw [h32]; rfl
        have HS := Lib.hid hsn
        clear hsn h32
        go_wp2_with (at_builtin; refine app_own [_] rfl _ _ 34 rfl w.heap.size 9 jS (.string ⟨#[]⟩) 1 16 Tryd.underlying34 hjS hj0 hj1 hj2 rfl (by decide) _ m _ rfl (by exact .inl HOW.out) rfl rfl (by simp [Value.oneCell']) (by unfold maxLen; omega) (by omega) hbz ?_; intro g cap w3 ho3 hg3 ha3 hl3; have HO3 := Lib.hid ho3; have HB3 := Lib.hid (HB.out.trans (own_below_grown HOW.out hg3 hbz)); clear ho3 hg3 ha3)
        go_roundw
        case rel => exact ⟨k + 1, k + 1, by omega, by omega, by go_num, by go_num, Lib.hid ⟨_, by rw [HS.out]; exact HO3.out⟩, HB3⟩
        case measure => simp [intOf]; omega
      · rw [if_neg h32, Nat.add_zero] at hsn
        have t1 : ((s[k].toNat : Int) == 32) = false := by
          rw [beq_eq_false_iff_ne]; intro e; apply h32; apply UInt8.toNat_inj.1; show _ = 32; omega
        have HS := Lib.hid hsn
        clear hsn h32
        go_wp2
        go_roundw
        case rel => exact ⟨k + 1, j, by omega, by omega, by go_num, rfl, Lib.hid ⟨_, by rw [HS.out]; exact HOW.out⟩, HB⟩
        case measure => simp [intOf]; omega
    · obtain rfl : k = s.size := by omega
      have hk2 : s.data.toList.take s.size = s.data.toList := by rw [← sz, List.take_length]
      obtain ⟨xs, ho⟩ := HO.out
      rw [hk2] at ho hble
      obtain ⟨m, hm⟩ : ∃ m, m = blanks s.data.toList := ⟨_, rfl⟩
      rw [← hm] at ho hble
      have HOW := Lib.hid ho; have HM := Lib.hid hm
      clear hk2 ho HO hm
      go_wp2_with (at_builtin; refine app_own [_] rfl _ _ 34 rfl w.heap.size 9 jS (.string ⟨#[]⟩) 1 16 Tryd.underlying34 hjS hj0 hj1 hj2 rfl (by decide) _ m _ rfl (by exact .inl HOW.out) rfl rfl (by simp [Value.oneCell']) (by unfold maxLen; omega) (by omega) hbz ?_; intro g cap w3 ho3 hg3 ha3 hl3; have HB3 := Lib.hid (HB.out.trans (own_below_grown HOW.out hg3 hbz)); clear ho3 hg3 ha3)
      go_ret
      exact ⟨_, _, by rw [← HM.out]; rfl, HB3.out⟩
end Go.Proofs.YtlkeegmpjjoicaaDoor
end
