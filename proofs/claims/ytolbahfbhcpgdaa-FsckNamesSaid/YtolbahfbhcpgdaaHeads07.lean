/- Part of the road to HeadsRow: Img, RDm, As, Put, Whole, Of, Maps, Bmap. -/
import Derived.RangeFuncNested
import Derived.Maps.OwnIn
import Derived.Maps.Ext
import Derived.Test.YtolbahfbhcpgdaaProg
import Derived.Deep.QuietTactic
import Derived.BigQuiet
import Derived.Test.YtolbahfbhcpgdaaHeads05
import Derived.Test.YtolbahfbhcpgdaaHeads03
import Derived.Test.YtolbahfbhcpgdaaHeads01
set_option linter.all false
set_option linter.unusedSimpArgs false
set_option linter.unusedVariables false
set_option linter.unusedSectionVars false
section
/- Images: blocks, data blocks, inodes. -/
namespace Go.Proofs.Ytolbahfbhcpgdaa
open Go.RowKit

/-- an image -/
structure ImgOk (g : Geo) (b o N cap : Nat) (f : Nat → Nat) (w : World) : Prop where
  ok : g.Ok
  n : N = g.total * 1024
  nc : N ≤ cap
  capb : cap ≤ 9223372036854775807
  rd : RdB w b o N f
  byte : ∀ k, f k < 256
theorem ImgOk.lt {g : Geo} {b o N cap : Nat} {f : Nat → Nat} {w : World} (h : ImgOk g b o N cap f w) : b < w.heap.size := lt_of_cell (h.rd 0 (by have := h.ok.total_pos; have := h.n; omega))
theorem ImgOk.below {g : Geo} {b o N cap C : Nat} {f : Nat → Nat} {w w' : World} (h : ImgOk g b o N cap f w) (hb : Below C w w') (hC : b < C) : ImgOk g b o N cap f w' :=
  ⟨h.ok, h.n, h.nc, h.capb, fun k hk => by rw [hb.cell (p := ⟨b, o + k, none⟩) hC]; exact h.rd k hk, h.byte⟩
theorem ImgOk.blk {g : Geo} {b o N cap : Nat} {f : Nat → Nat} {w : World} (h : ImgOk g b o N cap f w) {n : Nat} (hn : n < g.total) : RdB w b (o + n * 1024) 1024 (fun k => f (n * 1024 + k)) := h.rd.sub (n * 1024) 1024 (by rw [h.n]; omega)

theorem iblock_c (g : Geo) (hg : g.Ok) (b o N cap n : Nat) (hN : N = g.total * 1024) (hcap : N ≤ cap) (hcb : cap ≤ 9223372036854775807) (hn : n < g.total) (w : World) :
    Calls Try.prog 37 #[.agg #[.int .i64 g.gr, .int .i64 g.ino, .int .i64 g.da, .slice (some ⟨b, o, none⟩) N cap], .int .i64 n] w fun e w' => e = .returned (.slice (some ⟨b, o + n * 1024, none⟩) 1024 1024) ∧ Below w.heap.size w w' := by
  have ht := hg.total_le
  go_enter Try.func37, Try.ntmps37
  go_wp2
  go_ret
  rw [show (n + 1) * 1024 - n * 1024 = 1024 by omega]
  exact ⟨rfl, (Below.refl _ _).alloc (Nat.le_refl _) _⟩

theorem idata_c (g : Geo) (hg : g.Ok) (v : Value) (p : Nat) (w : World) :
    Calls Try.prog 45 #[.agg #[.int .i64 g.gr, .int .i64 g.ino, .int .i64 g.da, v], .int .i64 p] w fun e w' => e = .returned (.bool (g.dOk p)) ∧ Below w.heap.size w w' := by
  go_enter Try.func45, Try.ntmps45
  go_wp2_with (go_at_call 58; refine (dataOf_c g hg p _).mono ?_; rintro e w1 ⟨rfl, hb⟩)
  go_ret
  exact ⟨rfl, ((Below.refl _ _).alloc (Nat.le_refl _) _).trans (hb.mono (by simp))⟩

theorem iraw_c (g : Geo) (hg : g.Ok) (b o N cap i : Nat) (hN : N = g.total * 1024) (hcap : N ≤ cap) (hcb : cap ≤ 9223372036854775807) (w : World) :
    Calls Try.prog 81 #[.agg #[.int .i64 g.gr, .int .i64 g.ino, .int .i64 g.da, .slice (some ⟨b, o, none⟩) N cap], .int .i64 i] w fun e w' => (g.iOk i = true → e = .returned (.slice (some ⟨b, o + g.iBlk i * 1024 + g.iOff i, none⟩) 64 (1024 - g.iOff i))) ∧ (g.iOk i = false → e = .returned (.slice none 0 0)) ∧ Below w.heap.size w w' := by
  have A := iat_c g hg i
  have HN := Lib.hid hN; clear hN
  cases hk : g.iOk i with
  | false =>
    rw [hk] at A
    have HA := Lib.hid A
    clear A hk
    go_enter Try.func81, Try.ntmps81
    go_wp2_with (go_at_call 56; refine (HA.out _).mono ?_; rintro e w1 ⟨rfl, hb⟩)
    go_ret
    exact ⟨fun h => by (cases h), fun _ => rfl, ((Below.refl _ _).alloc (Nat.le_refl _) _).trans (hb.mono (by simp))⟩
  | true =>
    obtain ⟨h1, h2, h3⟩ := g.iBlk_lt hg hk
    obtain ⟨q, hq⟩ : ∃ q, q = g.iBlk i := ⟨_, rfl⟩
    obtain ⟨r, hr⟩ : ∃ r, r = g.iOff i := ⟨_, rfl⟩
    rw [hk, ← hq, ← hr] at A
    rw [← hq, ← hr]
    have hq2 : q < g.total := by omega
    have hr2 : r + 64 ≤ 1024 := by omega
    have HA := Lib.hid A
    clear A hk h1 h2 h3 hq hr
    have hn0 : ¬ 1024 = r := by omega
    go_enter Try.func81, Try.ntmps81
    go_wp2_with (first
      | (go_at_call 56; refine (HA.out _).mono ?_; rintro e w1 ⟨rfl, hb⟩; obtain ⟨hc, hf⟩ := bcell hb; have hz : w.heap.size < w1.heap.size := by (have := hb.size; simp at this; omega))
      | (go_at_call 37; refine (iblock_c g hg b o N cap q HN.out hcap hcb hq2 _).mono ?_; rintro e w2 ⟨rfl, hb2⟩))
    go_ret
    rw [show r + 64 - r = 64 by omega]
    exact ⟨fun _ => rfl, fun h => by (cases h), (((Below.refl _ _).alloc (Nat.le_refl _) _).trans (hb.mono (by simp))).trans (hb2.mono (by omega))⟩

/-- an inode's bytes, an inode as read -/
def rawF (g : Geo) (f : Nat → Nat) (i : Nat) : Nat → Nat := fun k => f (g.iBlk i * 1024 + g.iOff i + k)
def inoGood (g : Geo) (f : Nat → Nat) (i : Nat) : Bool := g.iOk i && iOk (rawF g f i)
def inoAt (g : Geo) (f : Nat → Nat) (i : Nat) : InoN := if inoGood g f i then inoRd (rawF g f i) else noIno
theorem iread_raw {g : Geo} {b o N cap : Nat} {f : Nat → Nat} {w : World} (h : ImgOk g b o N cap f w) {i : Nat} (hi : g.iOk i = true) : RdB w b (o + g.iBlk i * 1024 + g.iOff i) 64 (rawF g f i) := by
  obtain ⟨h1, h2, h3⟩ := g.iBlk_lt h.ok hi
  have := h.rd.sub (g.iBlk i * 1024 + g.iOff i) 64 (by rw [h.n]; have := h.ok.total_pos; omega)
  rw [Nat.add_assoc]
  exact this

set_option maxRecDepth 100000 in
set_option maxHeartbeats 1000000 in
theorem iinode_c (g : Geo) (b o N cap i : Nat) (f : Nat → Nat) (w : World) (h : ImgOk g b o N cap f w) :
    Calls Try.prog 65 #[.agg #[.int .i64 g.gr, .int .i64 g.ino, .int .i64 g.da, .slice (some ⟨b, o, none⟩) N cap], .int .i64 i] w fun e w' => e = .returned (.tuple #[inoV (inoAt g f i), .bool (inoGood g f i)]) ∧ Below w.heap.size w w' := by
  have R := fun W => iraw_c g h.ok b o N cap i h.n h.nc h.capb W
  have hbl := h.lt
  have kn := fun (W : World) (A : Option Addr) (n c : Nat) => Lib.run_eql_slice_nil (P := Try.prog) W 22 5 A n c 0 0 Try.underlying22
  cases hk : g.iOk i with
  | false =>
    have e1 : inoGood g f i = false := by simp [inoGood, hk]
    have e2 : inoAt g f i = noIno := by simp [inoAt, e1]
    rw [e1, e2]
    have HR := Lib.hid R; have HK := Lib.hid hk
    clear R hk e1 e2 h
    go_enter Try.func65, Try.ntmps65
    go_wp2_with (go_at_call 81; refine (HR.out _).mono ?_; rintro e w1 ⟨-, h2, hb⟩; obtain rfl := h2 HK.out; obtain ⟨hc, hf⟩ := bcell hb; have hz : w.heap.size + 1 < w1.heap.size := by (have := hb.size; simp at this; omega))
    change bodyPost _ _ _ _ _ (put13 w1 (w.heap.size + 1) noIno)
    have hk0 : Blk 49 ((w.alloc (.cells #[.int .i64 g.gr, .int .i64 g.ino, .int .i64 g.da, .slice (some ⟨b, o, none⟩) N cap] 57)).alloc (.cells (inoL noIno).toArray 49)) (w.heap.size + 1) (inoL noIno) := Blk.snd _ _
    have hk := put13_blk (i := noIno) (hk0.below hb (by simp))
    have hbz := put13_below (n := w.heap.size) w1 noIno (B := w.heap.size + 1) (by omega)
    have hB1 : Below w.heap.size w w1 := (((Below.refl _ _).alloc (Nat.le_refl _) _).alloc (by simp) _).trans (hb.mono (by simp; omega))
    generalize put13 w1 (w.heap.size + 1) noIno = W at hk hbz ⊢
    obtain ⟨y0, y1, y2, y3, y4, y5, y6, y7, y8, y9, y10, y11, y12⟩ := cells13 hk
    refine bodyPost_ret (v := .tuple #[inoV noIno, .bool false]) ?_ rfl ?_
    · simp [results, Try.results65, go_sem, y0, y1, y2, y3, y4, y5, y6, y7, y8, y9, y10, y11, y12, inoV]
    · exact ⟨rfl, hB1.trans hbz⟩
  | true =>
    have hraw := iread_raw h hk
    have h2 := g.iBlk_lt h.ok hk
    obtain ⟨q, hq⟩ : ∃ q, q = o + g.iBlk i * 1024 + g.iOff i := ⟨_, rfl⟩
    obtain ⟨r, hr⟩ : ∃ r, r = 1024 - g.iOff i := ⟨_, rfl⟩
    have hr1 : 64 ≤ r := by omega
    have hr2 : r ≤ 1024 := by omega
    rw [← hq, ← hr] at R
    rw [← hq] at hraw
    obtain ⟨I, hI⟩ : ∃ I, I = inoAt g f i := ⟨_, rfl⟩
    obtain ⟨z, hz⟩ : ∃ z, z = inoGood g f i := ⟨_, rfl⟩
    have RD : ∀ W, RdB W b q 64 (rawF g f i) → Calls Try.prog 82 #[.slice (some ⟨b, q, none⟩) 64 r] W fun e w' => e = .returned (.tuple #[inoV I, .int .i64 (if z = true then 0 else 5)]) ∧ Below W.heap.size W w' := fun W hW => by
      refine (iread_c b q r (rawF g f i) (fun k => h.byte _) W hW hr1 (by omega)).mono ?_
      rintro e w' ⟨h1, h2, h3⟩
      refine ⟨?_, h3⟩
      cases ho : iOk (rawF g f i) with
      | true => rw [h1 ho, hI, hz]; simp [inoAt, inoGood, hk, ho]
      | false => rw [h2 ho, hI, hz]; simp [inoAt, inoGood, hk, ho]
    rw [← hI, ← hz]
    have HR := Lib.hid R; have HD := Lib.hid RD; have HW := Lib.hid hraw; have HK := Lib.hid hk
    clear R RD hraw h2 hq hr hI hz hk h
    unfold inoV at HD ⊢
    cases z
    all_goals
      simp only [Bool.false_eq_true, if_true, if_false] at HD
      go_enter Try.func65, Try.ntmps65
      go_wp2_with (first
        | (go_at_call 81; refine (HR.out _).mono ?_; rintro e w1 ⟨h1, -, hb⟩; obtain rfl := h1 HK.out; obtain ⟨hc, hf⟩ := bcell hb; have hz : w.heap.size + 1 < w1.heap.size := by (have := hb.size; simp at this; omega))
        | (go_at_call 82; refine (HD.out _ (HW.out.below (((((Below.refl _ w).alloc (Nat.le_refl _) _).alloc (by simp) _)).trans (hb.mono (by simp; omega))))).mono ?_; rintro e w2 ⟨rfl, hb2⟩; obtain ⟨hc2, hf2⟩ := bcell hb2; have hz2 : w.heap.size + 1 < w2.heap.size := by (have := hb2.size; omega)))
      change bodyPost _ _ _ _ _ ((put13 w2 (w.heap.size + 1) I).alloc (.cells (inoL I).toArray 49))
      have hk0 : Blk 49 ((w.alloc (.cells #[.int .i64 g.gr, .int .i64 g.ino, .int .i64 g.da, .slice (some ⟨b, o, none⟩) N cap] 57)).alloc (.cells (inoL noIno).toArray 49)) (w.heap.size + 1) (inoL noIno) := Blk.snd _ _
      have hk := (put13_blk (i := I) ((hk0.below hb (by simp)).below hb2 (by omega))).alloc (.cells (inoL I).toArray 49)
      have hB1 : Below w.heap.size w w2 := ((((Below.refl _ w).alloc (Nat.le_refl _) _).alloc (by simp) _).trans (hb.mono (by simp; omega))).trans (hb2.mono (by omega))
      have hB2 : Below w.heap.size w ((put13 w2 (w.heap.size + 1) I).alloc (.cells (inoL I).toArray 49)) := by
        have h1 := hB1.trans (put13_below (n := w.heap.size) w2 I (B := w.heap.size + 1) (by omega))
        exact h1.alloc h1.size _
      clear hk0 hc hf hc2 hf2
      generalize (put13 w2 (w.heap.size + 1) I).alloc (.cells (inoL I).toArray 49) = W at hk hB2 ⊢
      obtain ⟨y0, y1, y2, y3, y4, y5, y6, y7, y8, y9, y10, y11, y12⟩ := cells13 hk
      refine bodyPost_ret ?_ rfl ⟨rfl, hB2⟩
      simp [results, Try.results65, go_sem, y0, y1, y2, y3, y4, y5, y6, y7, y8, y9, y10, y11, y12]
end Go.Proofs.Ytolbahfbhcpgdaa
end

section
/- A range over an iterator whose course hangs on what the body did. The body owns some blocks (Dm), the iterator may write blocks of its own beside them; the body never leaves the loop. -/
namespace Go.Proofs.Ytolbahfbhcpgdaa
open Go.RowKit Go.Shelf

/-- of the blocks that were there only the body's own (and block l) have changed; what the body owns now it owned before, or it is new -/
structure Turn (Dm : World → Nat → Prop) (l : Nat) (W W' : World) : Prop where
  os : W'.os = W.os
  tape : W'.tape = W.tape
  output : W'.output = W.output
  size : W.heap.size ≤ W'.heap.size
  block : ∀ k, k < W.heap.size → k ≠ l → ¬ Dm W k → W'.heap[k]? = W.heap[k]?
  own : ∀ k, k < W.heap.size → Dm W' k → Dm W k
theorem Turn.trans {Dm : World → Nat → Prop} {l : Nat} {A B C : World} (h : Turn Dm l A B) (k : Turn Dm l B C) : Turn Dm l A C :=
  ⟨k.os.trans h.os, k.tape.trans h.tape, k.output.trans h.output, Nat.le_trans h.size k.size,
   fun i hi hl hn => (k.block i (Nat.lt_of_lt_of_le hi h.size) hl fun hd => hn (h.own i hi hd)).trans (h.block i hi hl hn), fun i hi hd => h.own i hi (k.own i (Nat.lt_of_lt_of_le hi h.size) hd)⟩

/-- the iterator may change blocks that are new since the loop began and none of the body's -/
def Bears {β : Type} (B : Nat) (Dm : World → Nat → Prop) (J : β → World → Prop) : Prop :=
  ∀ s A C row, J s A → A.grownBy C row → (∀ r, row = some r → B ≤ r ∧ ¬ Dm A r) → J s C ∧ ∀ k, Dm C k → Dm A k

def SeqD {α : Type} (F : Fence) (n : Nat) (P : Program) (g : Nat) (lb : Array Value) (encs : α → Array Value) (Fr : Nat → Prop) (Link : List α → World → Prop) (S : List α → Prop) (Gx : α → Prop) (N : Nat) (w : World) : Prop :=
  ∀ (l : Nat) (J : List α → World → Prop) (Dm : World → Nat → Prop) (W : World), Below w.heap.size w W → w.heap.size ≤ l → l < W.heap.size → Bears W.heap.size Dm J → (∀ pre A k, J pre A → Dm A k → k < A.heap.size ∧ ¬ Fr k) → (∀ pre W1, J pre W1 → Link pre W1) →
    (∀ pre x W1, J pre W1 → Gx x → pre.length < N → YieldAt F (n - 1) P l (encs x) W1 fun e W' => e = .returned (.bool true) ∧ J (pre ++ [x]) W' ∧ Turn Dm l W1 W') →
    J [] W → CallsIn F n P g (#[.func (.yield l) #[] #[]] ++ lb) W fun e W' => (∃ v, e = .returned v) ∧ ∃ xs, S xs ∧ J xs W'

set_option maxHeartbeats 400000 in
theorem rangeFunc_dm {F : Fence} {n : Nat} {P : Program} {α : Type} {g : Operand} {ps : Array Tmp} {assign body : Code} {Q : Exit → Act → World → Prop} {a : Act} {w : World}
    (hro : F.round = none) (h1 : 1 ≤ n) {gf : Nat} {lb : Array Value} (hg : a.eval g = .func (.func gf) #[] lb) (hFg : F.fn gf) (eg : ∀ args w, (callFunc gf args).run P w = .ok (.enter gf args) w)
    {encs : α → Array Value} {Fr : Nat → Prop} {Link : List α → World → Prop} {S : List α → Prop} {Gx : α → Prop} {N : Nat} {w0 : World} (hseq : SeqD F (n - 1) P gf lb encs Fr Link S Gx N w0)
    (hb0 : Below w0.heap.size w0 w) (hps : ∀ x, (encs x).size = ps.size)
    (I : List α → World → Prop) (Dm : World → Nat → Prop) (hI : Bears w.heap.size Dm I) (hD : ∀ pre A k, I pre A → Dm A k → k < A.heap.size ∧ ¬ Fr k ∧ (k < w.heap.size ∨ ∃ o : Obj, A.heap[k]? = some o ∧ o.isCells = true))
    (hL : ∀ pre W, I pre W → Link pre W) (h0 : I [] w) (Ax : α → Act → World → Prop) (hAx : ∀ x a', OwnFrom w.heap.size (fun (_ : Unit) W => Ax x a' W))
    (hassign : ∀ (l : Nat) (pre : List α) (x : α) (W : World) (K : Act → World → Prop), I pre W → (∀ a' W', W.grownBy W' none → Ax x a' W' → K a' W') →
      assign.wpIn (F.inRound l) (n - 1 - 1) P (Exit.then K (fun _ _ _ => False)) { tmps := (ps.zip (encs x)).foldl (fun t (p, v) => t.setIfInBounds p v) a.tmps, defers := [] } W)
    (hbody : ∀ (l : Nat) (pre : List α) (x : α) (a' : Act) (W : World), I pre W → Ax x a' W → Gx x → pre.length < N → body.wpIn (F.inRound l) (n - 1 - 1) P (fun e _ W' => e = .normal ∧ Mods (Dm W) W W' ∧ (∀ k, k < W.heap.size → Dm W' k → Dm W k) ∧ I (pre ++ [x]) W') a' W)
    (hdone : ∀ (D : Nat) (xs : List α) (W : World), w.heap.size ≤ D → S xs → I xs W → W.heap[D]? = some (.deferred (some [])) → Q .normal { a with defers := { target := .collected D, args := #[] } :: a.defers } W) :
    (Code.rangeFunc g ps assign body).wpIn F n P Q a w := by
  refine wpIn_rangeFunc ?_
  intro fn hfn
  rw [hro]
  -- the loop lays two blocks: the deferred calls' and, behind it, its own record
  obtain ⟨mk, hmk⟩ : ∃ mk : LoopState → Loop, mk = fun st => { state := st, pending := none, fn := fn, tmps := a.tmps, params := ps, assign := assign, body := body, defers := w.heap.size } := ⟨_, rfl⟩
  have henter := run_enterLoop_outer (P := P) (w := w) fn a.tmps ps assign body
  have hmr : mk .ready = { state := .ready, pending := none, fn := fn, tmps := a.tmps, params := ps, assign := assign, body := body, defers := w.heap.size } := by rw [hmk]
  rw [← hmr] at henter
  obtain ⟨V, hV⟩ : ∃ V, V = (w.alloc (.deferred (some []))).alloc (.loop (mk .ready)) := ⟨_, rfl⟩
  rw [← hV] at henter
  have sV : V.heap.size = w.heap.size + 2 := by rw [hV]; simp
  have recV : V.heap[w.heap.size + 1]? = some (.loop (mk .ready)) := by
    have := heap_alloc_new (w.alloc (.deferred (some []))) (.loop (mk .ready))
    rw [World.size_alloc] at this
    rw [hV]; exact this
  have defV : V.heap[w.heap.size]? = some (.deferred (some [])) := by
    rw [hV, Below.heap_alloc _ _ _ (by simp)]; exact heap_alloc_new w _
  have iAl : ∀ pre A (o : Obj), I pre A → I pre (A.alloc o) ∧ ∀ k, Dm (A.alloc o) k → Dm A k := fun pre A o h => hI pre A _ none h (World.grownBy_alloc A o none) (fun r e => by cases e)
  have iV : I [] V := by rw [hV]; exact (iAl _ _ _ (iAl _ _ _ h0).1).1
  have bV : Below w0.heap.size w0 V := by
    have hs := hb0.size
    rw [hV]; exact (hb0.alloc hs _).alloc (by simp; omega) _
  -- a block that is no cells, new since the loop, is none of the body's
  have nd : ∀ pre A k (o : Obj), I pre A → w.heap.size ≤ k → A.heap[k]? = some o → o.isCells = false → ¬ Dm A k := fun pre A k o hi hk ho hc hd => by
    rcases (hD pre A k hi hd).2.2 with h | ⟨o', h2, h3⟩
    · omega
    · rw [ho] at h2; cases h2; rw [hc] at h3; cases h3
  -- what holds between the rounds
  obtain ⟨J, hJ⟩ : ∃ J : List α → World → Prop, J = fun pre W => I pre W ∧ W.heap[w.heap.size + 1]? = some (.loop (mk .ready)) ∧ W.heap[w.heap.size]? = some (.deferred (some [])) := ⟨_, rfl⟩
  have jA : Bears V.heap.size Dm J := by
    intro s A B row hs hgr hrow
    rw [hJ] at hs ⊢
    have keep : ∀ k o, A.heap[k]? = some o → k < V.heap.size → B.heap[k]? = some o := fun k o hk hlt => by
      rw [hgr.block k (Array.getElem?_eq_some_iff.1 hk).1 (fun e => by have := (hrow k e.symm).1; omega)]; exact hk
    have hi := hI s A B row hs.1 hgr (fun r e => ⟨by have := (hrow r e).1; omega, (hrow r e).2⟩)
    exact ⟨⟨hi.1, keep _ _ hs.2.1 (by omega), keep _ _ hs.2.2 (by omega)⟩, hi.2⟩
  have call := hseq (w.heap.size + 1) J Dm V bV (by have := hb0.size; omega) (by omega) jA (fun pre A k h hd => by rw [hJ] at h; have := hD pre A k h.1 hd; exact ⟨this.1, this.2.1⟩) (fun pre W1 h => by rw [hJ] at h; exact hL pre W1 h.1) ?round (by rw [hJ]; exact ⟨iV, recV, defV⟩)
  case round =>
    intro pre x W hj hgx hlen
    rw [hJ] at hj
    obtain ⟨hi, hrec, hdef⟩ := hj
    have hrl := (Array.getElem?_eq_some_iff.1 hrec).1
    have hy := run_yield (P := P) (args := encs x) hrec (by rw [hmk]; exact hps x)
    obtain ⟨busy, hbusy⟩ : ∃ r : Loop, r = { mk .ready with state := .busy } := ⟨_, rfl⟩
    have hy2 : (Instr.yield (w.heap.size + 1) (encs x)).run P W = .ok (.round (w.heap.size + 1) fn ((ps.zip (encs x)).foldl (fun t (p, v) => t.setIfInBounds p v) a.tmps) assign body) W := by rw [hy, hmk]
    refine ⟨fn, _, assign, body, hy2, roundIn_of_wpIn hfn (hassign _ pre x W _ hi fun a' Wa hga hax => ?_)⟩
    have hia := hI pre W Wa none hi hga (fun r e => by cases e)
    have hrec1 : Wa.heap[w.heap.size + 1]? = some (.loop (mk .ready)) := (hga.block _ hrl (by simp)).trans hrec
    have hdef1 : Wa.heap[w.heap.size]? = some (.deferred (some [])) := (hga.block _ (Array.getElem?_eq_some_iff.1 hdef).1 (by simp)).trans hdef
    have hrl1 := (Array.getElem?_eq_some_iff.1 hrec1).1
    have hbegin := run_beginRound (P := P) hrec1 (by rw [hmk])
    rw [← hbusy] at hbegin
    refine ⟨_, hbegin, ?_⟩
    have rec2 : (Wa.putObj (w.heap.size + 1) (.loop busy)).heap[w.heap.size + 1]? = some (.loop busy) := World.putObj_heap_same hrl1
    have def2 : (Wa.putObj (w.heap.size + 1) (.loop busy)).heap[w.heap.size]? = some (.deferred (some [])) := (World.putObj_heap_other (by omega)).trans hdef1
    have hi2 := hI pre Wa _ (some (w.heap.size + 1)) hia.1 (grownBy_putObj' Wa (w.heap.size + 1) (.loop busy)) (fun r e => by cases e; exact ⟨by omega, nd pre Wa _ _ hia.1 (by omega) hrec1 rfl⟩)
    have ax2 : Ax x a' (Wa.putObj (w.heap.size + 1) (.loop busy)) := (hAx x a').putObj (s := ()) _ hax (by omega) hrec1 rfl
    have t2 : Turn Dm (w.heap.size + 1) W (Wa.putObj (w.heap.size + 1) (.loop busy)) := ⟨hga.os, hga.tape, hga.output, Nat.le_trans hga.size (grownBy_putObj' Wa (w.heap.size + 1) (.loop busy)).size, fun k hk hl hn => (World.putObj_heap_other hl).trans (hga.block k hk (by simp)), fun k hk hd => hia.2 k (hi2.2 k hd)⟩
    refine wpIn_mono (hbody _ pre x a' _ hi2.1 ax2 hgx hlen) ?_
    rintro e a3 W3 ⟨rfl, hm3, ho3, hi3⟩
    have rec3 : W3.heap[w.heap.size + 1]? = some (.loop busy) := (hm3.block _ (Array.getElem?_eq_some_iff.1 rec2).1 (nd pre _ _ _ hi2.1 (by omega) rec2 rfl)).trans rec2
    have def3 : W3.heap[w.heap.size]? = some (.deferred (some [])) := (hm3.block _ (Array.getElem?_eq_some_iff.1 def2).1 (nd pre _ _ _ hi2.1 (by omega) def2 rfl)).trans def2
    have hend := run_endRound (P := P) none rec3
    have hst : ({ busy with state := .ready, pending := none } : Loop) = mk .ready := by rw [hbusy, hmk]
    simp only [Option.isNone_none, if_true, hst] at hend
    have hi4 := hI _ W3 _ (some (w.heap.size + 1)) hi3 (grownBy_putObj' W3 (w.heap.size + 1) (.loop (mk .ready))) (fun r e => by cases e; exact ⟨by omega, nd _ W3 _ _ hi3 (by omega) rec3 rfl⟩)
    have t3 : Turn Dm (w.heap.size + 1) (Wa.putObj (w.heap.size + 1) (.loop busy)) W3 := ⟨hm3.os, hm3.tape, hm3.output, hm3.size, fun k hk _ hn => hm3.block k hk hn, ho3⟩
    have t4 : Turn Dm (w.heap.size + 1) W3 (W3.putObj (w.heap.size + 1) (.loop (mk .ready))) := ⟨rfl, rfl, rfl, (grownBy_putObj' W3 (w.heap.size + 1) (.loop (mk .ready))).size, fun k _ hl _ => World.putObj_heap_other hl, fun k _ hd => hi4.2 k hd⟩
    refine ⟨_, _, hend, rfl, ?_, (t2.trans t3).trans t4⟩
    rw [hJ]
    exact ⟨hi4.1, World.putObj_heap_same (Array.getElem?_eq_some_iff.1 rec3).1, (World.putObj_heap_other (by omega)).trans def3⟩
  refine ⟨w.heap.size + 1, [{ target := .collected w.heap.size, args := #[] }], V, { target := .fn (.func gf) lb, args := #[.func (.yield (w.heap.size + 1)) #[] #[]] }, V, gf, #[.func (.yield (w.heap.size + 1)) #[] #[]] ++ lb, V, henter, ?_, ?_, ?_, fun _ => h1, ?_⟩
  · simp only [resolve, hg]
    simp [go_sem]
  · intro f' hf'
    simp [Target.leads] at hf'
    subst hf'; exact hFg
  · simp [invoke, go_sem, eg]
  · refine call.mono ?_
    rintro e W2 ⟨⟨v, rfl⟩, xs, hS, hj⟩
    rw [hJ] at hj
    obtain ⟨hi, hrec, hdef⟩ := hj
    have hend := run_endLoop (P := P) hrec (by rw [hmk]; simp)
    rw [show (mk .ready).pending = none by rw [hmk]] at hend
    have hfin := hdone w.heap.size xs (W2.putObj (w.heap.size + 1) (.loop { mk .ready with state := .exhausted, pending := none })) (Nat.le_refl _) hS (hI _ W2 _ (some (w.heap.size + 1)) hi (grownBy_putObj' W2 _ _) (fun r e => by cases e; exact ⟨by omega, nd _ W2 _ _ hi (by omega) hrec rfl⟩)).1 ((World.putObj_heap_other (by omega)).trans hdef)
    refine ⟨none, _, hend, ?_⟩
    exact hfin
end Go.Proofs.Ytolbahfbhcpgdaa
end

section
/- An inode as the mender reads it. -/
namespace Go.Proofs.Ytolbahfbhcpgdaa
open Go.RowKit

set_option maxRecDepth 100000 in
set_option maxHeartbeats 1000000 in
theorem as_c (g : Geo) (X b o N cap i : Nat) (f : Nat → Nat) (w : World) (h : ImgOk g b o N cap f w) (h0 : w.cell? ⟨X, 0, none⟩ = some (.int .i64 g.gr)) (h1 : w.cell? ⟨X, 1, none⟩ = some (.int .i64 g.ino)) (h2 : w.cell? ⟨X, 2, none⟩ = some (.int .i64 g.da)) (h3 : w.cell? ⟨X, 3, none⟩ = some (.slice (some ⟨b, o, none⟩) N cap)) :
    Calls Try.prog 44 #[.pointer (some ⟨X, 0, none⟩), .int .i64 i] w fun e w' => e = .returned (inoV (inoAt g f i)) ∧ Below w.heap.size w w' := by
  have hX := lt_of_cell h0
  have hbl := h.lt
  obtain ⟨I, hI⟩ : ∃ I, I = inoAt g f i := ⟨_, rfl⟩
  obtain ⟨z, hz⟩ : ∃ z, z = inoGood g f i := ⟨_, rfl⟩
  have hI0 : z = false → I = noIno := fun e => by rw [hI]; unfold inoAt; rw [← hz, e]; simp
  have C : ∀ W, Below w.heap.size w W → Calls Try.prog 65 #[.agg #[.int .i64 g.gr, .int .i64 g.ino, .int .i64 g.da, .slice (some ⟨b, o, none⟩) N cap], .int .i64 i] W fun e w' => e = .returned (.tuple #[inoV I, .bool z]) ∧ Below W.heap.size W w' := fun W hW => by
    have := iinode_c g b o N cap i f W (h.below hW hbl)
    rwa [← hI, ← hz] at this
  rw [← hI]
  have HC := Lib.hid C; have HI0 := Lib.hid hI0
  clear C hI hz hI0 h
  have hk0 : ∀ W : World, Blk 49 (W.alloc (.cells (inoL noIno).toArray 49)) W.heap.size (inoL noIno) := fun W => Blk.newL _
  unfold inoV at HC ⊢
  cases z
  all_goals
    go_enter Try.func44, Try.ntmps44
    go_wp2_with (go_at_call 65; refine (HC.out _ ((Below.refl _ _).alloc (Nat.le_refl _) _)).mono ?_; rintro e w1 ⟨rfl, hb⟩; obtain ⟨hc, hf⟩ := bcell hb; have hz : w.heap.size < w1.heap.size := by (have := hb.size; simp at this; omega))
  · have e := HI0.out (by first | rfl | trivial)
    change bodyPost _ _ _ _ _ ((put13 w1 w.heap.size noIno).alloc (.cells (inoL I).toArray 49))
    have hk := (put13_blk (i := noIno) ((hk0 w).below hb (by simp))).alloc (.cells (inoL I).toArray 49)
    have hB1 : Below w.heap.size w w1 := ((Below.refl _ w).alloc (Nat.le_refl _) _).trans (hb.mono (by simp))
    have hB2 : Below w.heap.size w ((put13 w1 w.heap.size noIno).alloc (.cells (inoL I).toArray 49)) := by
      have h1 := hB1.trans (put13_below w1 noIno (Nat.le_refl w.heap.size))
      exact h1.alloc h1.size _
    clear hc hf
    generalize (put13 w1 w.heap.size noIno).alloc (.cells (inoL I).toArray 49) = W at hk hB2 ⊢
    obtain ⟨y0, y1, y2, y3, y4, y5, y6, y7, y8, y9, y10, y11, y12⟩ := cells13 hk
    refine bodyPost_ret ?_ rfl ⟨rfl, hB2⟩
    rw [e]
    simp [results, Try.results44, go_sem, y0, y1, y2, y3, y4, y5, y6, y7, y8, y9, y10, y11, y12]
  · change bodyPost _ _ _ _ _ ((put13 w1 w.heap.size I).alloc (.cells (inoL I).toArray 49))
    have hk := (put13_blk (i := I) ((hk0 w).below hb (by simp))).alloc (.cells (inoL I).toArray 49)
    have hB1 : Below w.heap.size w w1 := ((Below.refl _ w).alloc (Nat.le_refl _) _).trans (hb.mono (by simp))
    have hB2 : Below w.heap.size w ((put13 w1 w.heap.size I).alloc (.cells (inoL I).toArray 49)) := by
      have h1 := hB1.trans (put13_below w1 I (Nat.le_refl w.heap.size))
      exact h1.alloc h1.size _
    clear hc hf
    generalize (put13 w1 w.heap.size I).alloc (.cells (inoL I).toArray 49) = W at hk hB2 ⊢
    obtain ⟨y0, y1, y2, y3, y4, y5, y6, y7, y8, y9, y10, y11, y12⟩ := cells13 hk
    refine bodyPost_ret ?_ rfl ⟨rfl, hB2⟩
    simp [results, Try.results44, go_sem, y0, y1, y2, y3, y4, y5, y6, y7, y8, y9, y10, y11, y12]
end Go.Proofs.Ytolbahfbhcpgdaa
end

section
/- Writing into the image that is made. -/
namespace Go.Proofs.Ytolbahfbhcpgdaa
open Go.RowKit

theorem take_put {cur : List Value} {N off m : Nat} {f fs : Nat → Nat} (ht : cur.take N = bytesL f N) (hN : N ≤ cur.length) (hfit : off + m ≤ N) :
    (cur.take off ++ (bytesL fs m ++ cur.drop (off + m))).take N = bytesL (putF f off m fs) N := by
  have hc : ∀ k, k < N → cur[k]? = some (.int .u8 ((f k : Nat) : Int)) := fun k hk => by
    have := bytesL_get f N k hk
    rw [← ht, List.getElem?_take_of_lt hk] at this; exact this
  apply List.ext_getElem?
  intro k
  by_cases hk : k < N
  · rw [List.getElem?_take_of_lt hk, bytesL_get _ _ _ hk]
    have l1 : (cur.take off).length = off := by simp; omega
    have l2 : (bytesL fs m).length = m := bytesL_length _ _
    by_cases h1 : k < off
    · rw [List.getElem?_append_left (by omega), List.getElem?_take_of_lt h1, hc k hk]
      have : ¬ (off ≤ k ∧ k < off + m) := fun h => by omega
      simp [putF, this]
    · rw [List.getElem?_append_right (by omega), l1]
      by_cases h2 : k < off + m
      · rw [List.getElem?_append_left (by omega), bytesL_get _ _ _ (by omega)]
        have : off ≤ k ∧ k < off + m := ⟨by omega, h2⟩
        simp [putF, this]
      · rw [List.getElem?_append_right (by omega), l2, List.getElem?_drop, show off + m + (k - off - m) = k by omega, hc k hk]
        have : ¬ (off ≤ k ∧ k < off + m) := fun h => by omega
        simp [putF, this]
  · rw [List.getElem?_eq_none (by simp; omega), List.getElem?_eq_none (by rw [bytesL_length]; omega)]

theorem copy_own {P : Program} {w : World} {ops : Array Oper} {rest : List Oper} {o : Oper} {a : Act} {Q : Exit → Act → World → Prop} (hgd : o.guard = none) (d s : Operand) (dT sT : TypeId)
    (ho : o.op = .call { callee := .builtin .copy, args := #[d, s], argTypes := #[dT, sT] }) (elem : TypeId) (hu : P.underlying dT = some (.slice elem)) (hsz : (P.info? elem).map (·.size) = some 1)
    (g off dLen dCap sb so sLen sCap : Nat) (hd : a.eval d = .slice (some ⟨g, off, none⟩) dLen dCap) (hs : a.eval s = .slice (some ⟨sb, so, none⟩) sLen sCap)
    (base e N cap : Nat) (f fs : Nat → Nat) (hg : w.ownsRow base e 1 (.slice (some ⟨g, 0, none⟩) N cap) N (bytesL f N)) (hN : 0 < N) (m : Nat) (hm : m = Nat.min sLen dLen) (hsrc : RdB w sb so m fs) (hfit : off + m ≤ N)
    (h : ∀ w', w'.ownsRow base e 1 (.slice (some ⟨g, 0, none⟩) N cap) N (bytesL (putF f off m fs) N) → Mods (fun k => k = g) w w' → wpList P ops Q rest (a.put o.dst (goInt m)) w') :
    wpList P ops Q (o :: rest) a w := by
  obtain ⟨hl0, hg⟩ := hg
  rcases hg with ⟨hv, _⟩ | ⟨g', cap', cur, hv, hb, hgb, hc, hm', hcs, ht⟩
  · cases hv
  · cases hv
    rw [Nat.mul_one] at ht
    have hl : (bytesL fs m).length = m := bytesL_length _ _
    have hNl : N ≤ cur.toList.length := by simp; omega
    refine wpList_copy_own hgd d s dT sT ho elem hu hsz g off dLen dCap ⟨sb, so, none⟩ sLen sCap hd hs cur e hgb (bytesL fs m) (by rw [hl, hm]) (rd_news hsrc) (by rw [hl]; simp at hNl; omega) (bytes_one _ _) ?_
    rw [hl]
    refine h _ ⟨by rw [bytesL_length]; omega, .inr ⟨g, cap, _, rfl, hb, setRow_heap w g cur _ e _ hgb, hc, hm', ?_, ?_⟩⟩ ⟨rfl, rfl, rfl, by simp, fun k _ hk => setRow_other w g k _ hk⟩
    · simp [hl]; simp at hNl; omega
    · rw [Nat.mul_one]
      simpa using take_put ht hNl hfit

/-- the mender writes a block -/
theorem xput_c (X sb so sCap g base N cap n : Nat) (f fs : Nat → Nat) (w : World) (h4 : w.cell? ⟨X, 4, none⟩ = some (.slice (some ⟨g, 0, none⟩) N cap)) (hg : w.ownsRow base 5 1 (.slice (some ⟨g, 0, none⟩) N cap) N (bytesL f N)) (hN : N ≤ 1000000000) (hc1 : cap ≤ 9223372036854775807) (hn : n * 1024 + 1024 ≤ N) (hr : RdB w sb so 1024 fs) :
    Calls Try.prog 53 #[.pointer (some ⟨X, 0, none⟩), .int .i64 n, .slice (some ⟨sb, so, none⟩) 1024 sCap] w fun e w' => e = .returned (.tuple #[]) ∧ w'.ownsRow base 5 1 (.slice (some ⟨g, 0, none⟩) N cap) N (bytesL (putF f (n * 1024) 1024 fs) N) ∧ Mods (fun k => k = g) w w' := by
  have hX := lt_of_cell h4
  have hcap : N ≤ cap := by
    obtain ⟨_, h⟩ := hg
    rcases h with ⟨h, _⟩ | ⟨_, _, _, h, _, _, h2, _⟩
    · cases h
    · cases h; exact h2
  have e1 : cap ≠ n * 1024 := by omega
  have HG := Lib.hid hg; have HR := Lib.hid hr
  clear hg hr
  go_enter Try.func53, Try.ntmps53
  go_wp2_with (refine copy_own rfl _ _ 22 22 rfl 5 Try.underlying22 (by kernel_rfl) g (n * 1024) _ _ sb so 1024 sCap rfl rfl base 5 N cap f fs HG.out (by omega) 1024 (by show 1024 = min 1024 (N - n * 1024); omega) HR.out (by omega) ?_; intro w1 ho1 hm1)
  go_end0
  exact ⟨rfl, ho1, hm1⟩
end Go.Proofs.Ytolbahfbhcpgdaa
end

section
/- Pointers, and how many blocks a directory has without a gap. -/
namespace Go.Proofs.Ytolbahfbhcpgdaa
open Go.RowKit

/-- a pointer of an inode -/
structure Ptr where
  lv : Int
  n : Nat
  first : Nat
  tgt : Nat
deriving DecidableEq, Inhabited
def ptrV (p : Ptr) : List Value := [.int .i64 p.lv, .int .i64 p.n, .int .i64 p.first, .int .i64 p.tgt]
/-- memory holds pointers -/
def RdP (w : World) (b : Nat) (L : List Ptr) : Prop := ∀ k p, L[k]? = some p → w.cell? ⟨b, k * 4, none⟩ = some (.int .i64 p.lv) ∧ w.cell? ⟨b, k * 4 + 1, none⟩ = some (.int .i64 p.n) ∧ w.cell? ⟨b, k * 4 + 2, none⟩ = some (.int .i64 p.first) ∧ w.cell? ⟨b, k * 4 + 3, none⟩ = some (.int .i64 p.tgt)
theorem RdP.below {w w' : World} {b C : Nat} {L : List Ptr} (h : RdP w b L) (hb : Below C w w') (hC : b < C) : RdP w' b L := fun k p hk => by
  rw [hb.cell (p := ⟨b, k * 4, none⟩) hC, hb.cell (p := ⟨b, k * 4 + 1, none⟩) hC, hb.cell (p := ⟨b, k * 4 + 2, none⟩) hC, hb.cell (p := ⟨b, k * 4 + 3, none⟩) hC]; exact h k p hk
def wholeStep (m : Nat) (p : Ptr) : Nat := if p.lv = 0 ∧ p.n = m then m + 1 else m
def wholeN (L : List Ptr) : Nat := L.foldl wholeStep 0
theorem wholeN_take (L : List Ptr) (k : Nat) (p : Ptr) (h : L[k]? = some p) : wholeN (L.take (k + 1)) = wholeStep (wholeN (L.take k)) p := by
  unfold wholeN
  rw [List.take_add_one, h]
  simp
theorem wholeN_le (L : List Ptr) : ∀ k, wholeN (L.take k) ≤ k
  | 0 => by simp [wholeN]
  | k + 1 => by
    cases h : L[k]? with
    | none => 
      have hl : L.length ≤ k := List.getElem?_eq_none_iff.1 h
      rw [List.take_of_length_le (by omega), ← List.take_of_length_le hl]
      exact Nat.le_trans (wholeN_le L k) (by omega)
    | some p =>
      rw [wholeN_take L k p h]
      have := wholeN_le L k
      unfold wholeStep; split <;> omega

set_option maxHeartbeats 1000000 in
theorem whole_c (b cap : Nat) (L : List Ptr) (w : World) (hL : L.length ≤ 1000000) (hb : b < w.heap.size) (h : RdP w b L) :
    Calls Try.prog 67 #[.slice (some ⟨b, 0, none⟩) L.length cap] w fun e w' => e = .returned (.int .i64 (wholeN L : Nat)) ∧ Below w.heap.size w w' := by
  obtain ⟨n, hn⟩ : ∃ n, n = L.length := ⟨_, rfl⟩
  rw [← hn] at hL ⊢
  have HN := Lib.hid hn; have HR := Lib.hid h
  clear hn h
  go_enter Try.func67, Try.ntmps67
  go_wp2
  go_loopw [3, 8] (fun m i' wr => ∃ k : Nat, k ≤ n ∧ i' = .int .i64 k ∧ m = .int .i64 (wholeN (L.take k) : Nat) ∧ Below w.heap.size w wr) (fun _ i' _ => n - (intOf i').toNat)
  case atStart => exact ⟨0, by omega, rfl, rfl, Below.refl _ _⟩
  case round =>
    obtain ⟨k, hk, rfl, rfl, hB⟩ := hrel
    have hm := wholeN_le L k
    by_cases hlt : k < n
    · obtain ⟨p, hp⟩ : ∃ p, L[k]? = some p := ⟨L[k]'(by rw [← HN.out]; exact hlt), List.getElem?_eq_getElem _⟩
      obtain ⟨c0, c1, c2, c3⟩ := (HR.out.below hB hb) k p hp
      have hs := hB.size
      have hst := wholeN_take L k p hp
      have HS := Lib.hid hst
      obtain ⟨m, hmm⟩ : ∃ m, m = wholeN (L.take k) := ⟨_, rfl⟩
      rw [← hmm] at HS hm ⊢
      clear hst hp
      by_cases h0 : p.lv = 0
      · have e0 : (p.lv == 0) = true := by simp [h0]
        by_cases h1 : p.n = m
        · have e1 : ((p.n : Int) == (m : Int)) = true := by simp [h1]
          have H := Lib.hid (show wholeStep m p = m + 1 by simp [wholeStep, h0, h1])
          clear h0 h1
          go_wp2
          go_roundw
          case rel => exact ⟨k + 1, by omega, by go_num, by rw [HS.out, H.out]; go_num, hB.alloc hs _⟩
          case measure => simp [intOf]; omega
        · have e1 : ((p.n : Int) == (m : Int)) = false := by simp; omega
          have H := Lib.hid (show wholeStep m p = m by simp [wholeStep, h1])
          clear h0 h1
          go_wp2
          go_roundw
          case rel => exact ⟨k + 1, by omega, by go_num, by rw [HS.out, H.out], hB.alloc hs _⟩
          case measure => simp [intOf]; omega
      · have e0 : (p.lv == 0) = false := by simpa using h0
        have H := Lib.hid (show wholeStep m p = m by simp [wholeStep, h0])
        clear h0
        go_wp2
        go_roundw
        case rel => exact ⟨k + 1, by omega, by go_num, by rw [HS.out, H.out], hB.alloc hs _⟩
        case measure => simp [intOf]; omega
    · obtain rfl : k = n := by omega
      have e : L.take k = L := List.take_of_length_le (by rw [← HN.out]; omega)
      rw [e] at *
      go_wp2
      go_ret
      exact ⟨rfl, hB⟩
end Go.Proofs.Ytolbahfbhcpgdaa
end

section
/- Is an image usable? -/
namespace Go.Proofs.Ytolbahfbhcpgdaa
open Go.RowKit

def ofOk (f : Nat → Nat) (N : Nat) : Bool := decide (1024 ≤ N) && (supOk f && decide (N = (supG f).total * 1024))

set_option maxRecDepth 100000 in
theorem of_short (A : Option Addr) (N cap : Nat) (hN : N < 1024) (w : World) :
    Calls Try.prog 28 #[.slice A N cap] w fun e w' => e = .returned (.tuple #[.agg #[.int .i64 0, .int .i64 0, .int .i64 0, .slice none 0 0], .bool false]) ∧ Below w.heap.size w w' := by
  go_enter Try.func28, Try.ntmps28
  go_wp2
  refine bodyPost_ret (v := .tuple #[.agg #[.int .i64 0, .int .i64 0, .int .i64 0, .slice none 0 0], .bool false]) (by simp [results, Try.results28, go_sem]) rfl ⟨rfl, ?_⟩
  exact (Below.refl _ _).alloc (Nat.le_refl _) _

set_option maxRecDepth 100000 in
set_option maxHeartbeats 1000000 in
theorem of_c (B o N cap : Nat) (f : Nat → Nat) (hf : ∀ k, f k < 256) (w : World) (h : RdB w B o N f) (hN : 1024 ≤ N) (hcap : N ≤ cap) (hcb : cap ≤ 9223372036854775807) :
    Calls Try.prog 28 #[.slice (some ⟨B, o, none⟩) N cap] w fun e w' => (ofOk f N = true → e = .returned (.tuple #[.agg #[.int .i64 (supG f).gr, .int .i64 (supG f).ino, .int .i64 (supG f).da, .slice (some ⟨B, o, none⟩) N cap], .bool true])) ∧
      (ofOk f N = false → e = .returned (.tuple #[.agg #[.int .i64 0, .int .i64 0, .int .i64 0, .slice none 0 0], .bool false])) ∧ Below w.heap.size w w' := by
  have hBl := lt_of_cell (h 0 (by omega))
  obtain ⟨G, hG⟩ : ∃ G, G = supG f := ⟨_, rfl⟩
  have R := fun W (hW : Below w.heap.size w W) => sread_c B o cap f hf W ((h.below hW).sub 0 1024 (by omega) |> fun h => by simpa using h) (by omega)
  rw [← hG] at R ⊢
  cases hs : supOk f with
  | false =>
    have ho : ofOk f N = false := by simp [ofOk, hs]
    have HS := Lib.hid hs; have HO := Lib.hid ho; have HR := Lib.hid R
    clear hs ho R h hG
    go_enter Try.func28, Try.ntmps28
    go_wp2_with (go_at_call 43; refine (HR.out _ ((Below.refl _ _).alloc (Nat.le_refl _) _)).mono ?_; rintro e w1 ⟨-, h2, hb⟩; obtain rfl := h2 HS.out; obtain ⟨hc, hf⟩ := bcell hb; have hz : w.heap.size < w1.heap.size := by (have := hb.size; simp at this; omega))
    have b0 := Blk.newL (e := 57) (w := w) [.int .i64 0, .int .i64 0, .int .i64 0, .slice none 0 0]
    have hl := hz
    refine bodyPost_ret (v := .tuple #[.agg #[.int .i64 0, .int .i64 0, .int .i64 0, .slice none 0 0], .bool false]) (by simp [results, Try.results28, go_sem, hc, hf, hl]) rfl ⟨fun h => by (rw [HO.out] at h; cases h), fun _ => rfl, ?_⟩
    have hB1 := ((Below.refl _ w).alloc (Nat.le_refl _) _).trans (hb.mono (by simp))
    have hsz := hB1.size
    have hB4 := (((hB1.setCell (p := ⟨w.heap.size, 0, none⟩) (Nat.le_refl _) (.int .i64 0)).setCell (p := ⟨w.heap.size, 1, none⟩) (Nat.le_refl _) (.int .i64 0)).setCell (p := ⟨w.heap.size, 2, none⟩) (Nat.le_refl _) (.int .i64 0)).setCell (p := ⟨w.heap.size, 3, none⟩) (Nat.le_refl _) (.slice none 0 0)
    exact hB4.alloc hB4.size _
  | true =>
    have hg : G.Ok := by
      have h2 : (supG f).okB = true := by
        have := hs; simp only [supOk, Bool.and_eq_true] at this; exact this.1
      rw [hG]; exact Geo.okB_iff.1 h2
    have ht := hg.total_le
    obtain ⟨q, hq⟩ : ∃ q, q = decide (N = G.total * 1024) := ⟨_, rfl⟩
    have ho : ofOk f N = q := by simp [ofOk, hs, hN, hq, hG]
    have e1 : ((N : Int) != (G.total : Int) * 1024) = !q := by
      rw [hq]
      by_cases h1 : N = G.total * 1024
      · simp [h1]
      · have : ¬ ((N : Int) = (G.total : Int) * 1024) := by omega
        simp [h1, this]
    have HS := Lib.hid hs; have HO := Lib.hid ho; have HR := Lib.hid R
    clear hs ho R h hG hq
    cases q
    all_goals
      simp only [Bool.not_true, Bool.not_false] at e1
      go_enter Try.func28, Try.ntmps28
      go_wp2_with (first
        | (go_at_call 43; refine (HR.out _ ((Below.refl _ _).alloc (Nat.le_refl _) _)).mono ?_; rintro e w1 ⟨h1, -, hb⟩; obtain rfl := h1 HS.out; obtain ⟨hc, hf⟩ := bcell hb; have hz : w.heap.size < w1.heap.size := by (have := hb.size; simp at this; omega))
        | (go_at_call 35; refine (total_c G hg _).mono ?_; rintro e w2 ⟨rfl, hb2⟩; obtain ⟨hc2, hf2⟩ := bcell hb2; have hz2 : w1.heap.size < w2.heap.size := by (have := hb2.size; simp at this; omega)))
      have hB1 := ((Below.refl _ w).alloc (Nat.le_refl _) (.cells #[.int .i64 0, .int .i64 0, .int .i64 0, .slice none 0 0] 57)).trans (hb.mono (by simp))
      have hB2 := ((hB1.alloc hB1.size (.cells #[.int .i64 G.gr, .int .i64 G.ino, .int .i64 G.da] 25)).trans (hb2.mono (by simp; omega)))
      have hl : w.heap.size < w2.heap.size := by omega
      have hk2 := (((Blk.newL (e := 57) (w := w) [.int .i64 0, .int .i64 0, .int .i64 0, .slice none 0 0]).below hb (by simp)).alloc (.cells #[.int .i64 G.gr, .int .i64 G.ino, .int .i64 G.da] 25)).below hb2 (by simp; omega)
      have p0 := hk2.cell 0; have p1 := hk2.cell 1; have p2 := hk2.cell 2; have p3 := hk2.cell 3
      simp only [List.getElem?_cons_zero, List.getElem?_cons_succ] at p0 p1 p2 p3
    · refine bodyPost_ret (v := .tuple #[.agg #[.int .i64 0, .int .i64 0, .int .i64 0, .slice none 0 0], .bool false]) (by simp [results, Try.results28, go_sem, p0, p1, p2, p3, hl]) rfl ⟨fun h => by (rw [HO.out] at h; cases h), fun _ => rfl, ?_⟩
      exact (((hB2.setCell (p := ⟨w.heap.size, 0, none⟩) (Nat.le_refl _) _).setCell (p := ⟨w.heap.size, 1, none⟩) (Nat.le_refl _) _).setCell (p := ⟨w.heap.size, 2, none⟩) (Nat.le_refl _) _).setCell (p := ⟨w.heap.size, 3, none⟩) (Nat.le_refl _) _
    · refine bodyPost_ret (v := .tuple #[.agg #[.int .i64 G.gr, .int .i64 G.ino, .int .i64 G.da, .slice (some ⟨B, o, none⟩) N cap], .bool true]) (by simp [results, Try.results28, go_sem, p0, p1, p2, p3, hl]) rfl ⟨fun _ => rfl, fun h => by (rw [HO.out] at h; cases h), ?_⟩
      exact (((hB2.setCell (p := ⟨w.heap.size, 0, none⟩) (Nat.le_refl _) _).setCell (p := ⟨w.heap.size, 1, none⟩) (Nat.le_refl _) _).setCell (p := ⟨w.heap.size, 2, none⟩) (Nat.le_refl _) _).setCell (p := ⟨w.heap.size, 3, none⟩) (Nat.le_refl _) _
end Go.Proofs.Ytolbahfbhcpgdaa
end

section
/- Maps: what stands by each key, as a function. -/
namespace Go.Proofs.Ytolbahfbhcpgdaa
open Go.RowKit

abbrev DU := DataW Unit

/-- pointers to whole blocks as elements of a map -/
def ptrElem : Value → Option (DU × List MemPlace)
  | .pointer none => some (.lit (.int .i64 (-1)), [])
  | .pointer (some ⟨b, 0, none⟩) => some (.lit (.int .i64 (b : Nat)), [])
  | _ => none
def ptrTo : Option Nat → Value
  | none => .pointer none
  | some b => .pointer (some ⟨b, 0, none⟩)
theorem ptrElem_inv {v : Value} {x : Int} {ps : List MemPlace} (h : ptrElem v = some (.lit (.int .i64 x), ps)) : (x = -1 ∧ v = ptrTo none) ∨ ∃ b : Nat, x = b ∧ v = ptrTo (some b) := by
  unfold ptrElem at h
  split at h
  · cases h; exact .inl ⟨rfl, rfl⟩
  · cases h; exact .inr ⟨_, rfl, rfl⟩
  · cases h

/-- block b is a map; by key x stands g x -/
def MapG {κ : Type} (kt : TypeId) (R : Value → Option (DU × List MemPlace)) (mk : κ → Lit) (ok : κ → Prop) (w : World) (b n : Nat) (g : κ → Option DU) : Prop :=
  ∃ D : DU, w.ownsMap Try.prog kt R b n D ∧ (∀ x, ok x → Maps.has D (mk x) = (g x).isSome ∧ ∀ z, D.atKey (mk x) z = (g x).getD z) ∧ ∀ kl, Maps.has D kl = true → ∃ x, ok x ∧ kl = mk x
/-- how keys are written -/
structure KeyWay {κ : Type} (mk : κ → Lit) (ok : κ → Prop) : Prop where
  inj : ∀ x y, ok x → ok y → mk x = mk y → x = y
  key : ∀ x, ok x → WideAt.IsKeyLit (mk x)

section
variable {κ : Type} [DecidableEq κ] {kt : TypeId} {R : Value → Option (DU × List MemPlace)} {mk : κ → Lit} {ok : κ → Prop} {w : World} {b n : Nat} {g : κ → Option DU}
theorem MapG.mods {s : Nat → Prop} {w' : World} (h : MapG kt R mk ok w b n g) (hm : Mods s w w') (hs : ¬ s b) : MapG kt R mk ok w' b n g := by
  obtain ⟨D, h1, h2, h3⟩ := h
  have hlt := h1.lt
  obtain ⟨es, clock, hb, r⟩ := h1
  exact ⟨D, ⟨es, clock, (hm.block b hlt hs).trans hb, r⟩, h2, h3⟩
theorem MapG.lt (h : MapG kt R mk ok w b n g) : b < w.heap.size := by
  obtain ⟨D, h1, h2⟩ := h; exact h1.lt
theorem MapG.mono {n' : Nat} (h : MapG kt R mk ok w b n g) (hn : n ≤ n') : MapG kt R mk ok w b n' g := by
  obtain ⟨D, h1, h2⟩ := h; exact ⟨D, h1.mono hn, h2⟩
theorem MapG.below {C : Nat} {w' : World} (h : MapG kt R mk ok w b n g) (hm : Below C w w') (hs : b < C) : MapG kt R mk ok w' b n g := h.mods (Mods.of_below hm) (by omega)
theorem MapG.alloc (h : MapG kt R mk ok w b n g) (o : Obj) : MapG kt R mk ok (w.alloc o) b n g := h.mods ((Mods.refl (fun _ => False) w).alloc o) (fun e => e)
theorem MapG.grown {w' : World} {row : Option Nat} (h : MapG kt R mk ok w b n g) (hm : w.grownBy w' row) (hs : row ≠ some b) : MapG kt R mk ok w' b n g := by
  obtain ⟨D, h1, h2⟩ := h; exact ⟨D, h1.kept hm (fun e => hs e.symm), h2⟩
theorem MapG.made (w : World) : MapG kt R mk ok (w.alloc (.map #[] 0)) w.heap.size 0 (fun _ : κ => none) :=
  ⟨.map [], World.ownsMap_made _ _ _ _, fun x _ => ⟨rfl, fun z => rfl⟩, fun kl h => by cases h⟩
theorem MapG.put_D (KW : KeyWay mk ok) {w' : World} {m : Nat} {D : DU} {d : DU} {x : κ} (hx : ok x) (hI : Maps.IsMap D)
    (h2 : ∀ x, ok x → Maps.has D (mk x) = (g x).isSome ∧ ∀ z, D.atKey (mk x) z = (g x).getD z) (h3 : ∀ kl, Maps.has D kl = true → ∃ x, ok x ∧ kl = mk x)
    (h : w'.ownsMap Try.prog kt R b m (D.put (mk x) d)) : MapG kt R mk ok w' b m (fun y => if y = x then some d else g y) := by
  refine ⟨_, h, fun y hy => ?_, fun kl hk => ?_⟩
  · by_cases e : y = x
    · subst e
      simp only [if_true]
      exact ⟨Maps.has_put_same hI (KW.key _ hx) d, fun z => Maps.atKey_put_same hI (KW.key _ hx) d z⟩
    · have hne : mk y ≠ mk x := fun e2 => e (KW.inj _ _ hy hx e2)
      simp only [if_neg e]
      rw [Maps.has_put_other hne]
      exact ⟨(h2 y hy).1, fun z => by rw [Maps.atKey_put_other hne]; exact (h2 y hy).2 z⟩
  · by_cases e : kl = mk x
    · exact ⟨x, hx, e⟩
    · rw [Maps.has_put_other e] at hk
      exact h3 kl hk
theorem MapG.del_D (KW : KeyWay mk ok) {w' : World} {m : Nat} {D : DU} {x : κ} (hx : ok x)
    (h2 : ∀ x, ok x → Maps.has D (mk x) = (g x).isSome ∧ ∀ z, D.atKey (mk x) z = (g x).getD z) (h3 : ∀ kl, Maps.has D kl = true → ∃ x, ok x ∧ kl = mk x)
    (h : w'.ownsMap Try.prog kt R b m (D.del (mk x))) : MapG kt R mk ok w' b m (fun y => if y = x then none else g y) := by
  refine ⟨_, h, fun y hy => ?_, fun kl hk => ?_⟩
  · by_cases e : y = x
    · subst e
      simp only [if_true]
      exact ⟨Maps.has_del_same, fun z => Maps.atKey_del_same z⟩
    · have hne : mk y ≠ mk x := fun e2 => e (KW.inj _ _ hy hx e2)
      simp only [if_neg e]
      rw [Maps.has_del_other hne]
      exact ⟨(h2 y hy).1, fun z => by rw [Maps.atKey_del_other hne]; exact (h2 y hy).2 z⟩
  · by_cases e : kl = mk x
    · exact ⟨x, hx, e⟩
    · rw [Maps.has_del_other e] at hk
      exact h3 kl hk
theorem mods_turned {w' : World} (h : w.mapTurned w' b) : Mods (fun k => k = b) w w' :=
  ⟨h.grown.os, h.grown.tape, h.grown.output, h.grown.size, fun k hk hn => h.grown.block k hk fun e => hn (by cases e; rfl)⟩
theorem size_turned {w' : World} (h : w.mapTurned w' b) : w'.heap.size = w.heap.size := by
  obtain ⟨es, c, es', c', _, rfl⟩ := h
  simp [ChangeMaps.setBlock]

variable {rest : List Oper} {ops : Array Oper} {o : Oper} {a : Act} {Q : Exit → Act → World → Prop}

theorem mapg_store (KW : KeyWay mk ok) (hg : o.guard = none) (m x v : Operand) (t : TypeId) (hop : o.op = Op.mapUpdate t m x v) (e : TypeId) (K : Maps.Keyed Try.prog kt) (ht : Try.prog.underlying t = some (.map kt e))
    (hm : a.eval m = .map (some b)) (h : MapG kt R mk ok w b n g) (hn : n < maxLen) (key val : Value) (y : κ) (hy : ok y) (hx : a.eval x = key) (hv : a.eval v = val) (hkey : keyOf Try.prog kt key = some (mk y)) (d : DU) (ps : List MemPlace) (hval : R val = some (d, ps))
    (hK : ∀ w', MapG kt R mk ok w' b (n + 1) (fun z => if z = y then some d else g z) → Mods (fun k => k = b) w w' → w'.heap.size = w.heap.size → wpList Try.prog ops Q rest (a.put o.dst undef) w') : wpList Try.prog ops Q (o :: rest) a w := by
  obtain ⟨D, h1, h2, h3⟩ := h
  exact wpList_mapUpdate_in w hg m x v t hop kt e K ht R b n D hm h1 hn key val (mk y) hx hv hkey d ps hval fun w' r1 r2 => hK w' (MapG.put_D KW hy h1.isMap h2 h3 r1) (mods_turned r2) (size_turned r2)
theorem mapg_store_in {F : Fence} {nF : Nat} (KW : KeyWay mk ok) (hg : o.guard = none) (m x v : Operand) (t : TypeId) (hop : o.op = Op.mapUpdate t m x v) (e : TypeId) (K : Maps.Keyed Try.prog kt) (ht : Try.prog.underlying t = some (.map kt e))
    (hm : a.eval m = .map (some b)) (h : MapG kt R mk ok w b n g) (hn : n < maxLen) (key val : Value) (y : κ) (hy : ok y) (hx : a.eval x = key) (hv : a.eval v = val) (hkey : keyOf Try.prog kt key = some (mk y)) (d : DU) (ps : List MemPlace) (hval : R val = some (d, ps))
    (hK : ∀ w', MapG kt R mk ok w' b (n + 1) (fun z => if z = y then some d else g z) → Mods (fun k => k = b) w w' → w'.heap.size = w.heap.size → wpListIn F nF Try.prog ops Q rest (a.put o.dst undef) w') : wpListIn F nF Try.prog ops Q (o :: rest) a w := by
  obtain ⟨D, h1, h2, h3⟩ := h
  exact wpListIn_mapUpdate_in w hg m x v t hop kt e K ht R b n D hm h1 hn key val (mk y) hx hv hkey d ps hval fun w' r1 r2 => hK w' (MapG.put_D KW hy h1.isMap h2 h3 r1) (mods_turned r2) (size_turned r2)
theorem mapg_delete (KW : KeyWay mk ok) (hg : o.guard = none) (m x : Operand) (t : TypeId) (hop : o.op = Op.call { callee := Callee.builtin Builtin.delete, args := #[m, x], argTypes := #[t, kt] }) (e : TypeId) (K : Maps.Keyed Try.prog kt) (ht : Try.prog.underlying t = some (.map kt e))
    (hm : a.eval m = .map (some b)) (h : MapG kt R mk ok w b n g) (key : Value) (y : κ) (hy : ok y) (hx : a.eval x = key) (hkey : keyOf Try.prog kt key = some (mk y))
    (hK : ∀ w', MapG kt R mk ok w' b n (fun z => if z = y then none else g z) → Mods (fun k => k = b) w w' → w'.heap.size = w.heap.size → wpList Try.prog ops Q rest (a.put o.dst (.tuple #[])) w') : wpList Try.prog ops Q (o :: rest) a w := by
  obtain ⟨D, h1, h2, h3⟩ := h
  exact wpList_delete_own w hg m x t kt hop e K ht R b n D hm h1 key (mk y) hx hkey fun w' r1 r2 => hK w' (MapG.del_D KW hy h2 h3 r1) (mods_turned r2) (size_turned r2)
theorem mapg_look (hg : o.guard = none) (m x : Operand) (t : TypeId) (hop : o.op = Op.lookup t m x false) (e : TypeId) (K : Maps.Keyed Try.prog kt) (ht : Try.prog.underlying t = some (.map kt e)) {z : Value} (hz : (zeroValue e).run Try.prog w = .ok z w) (zd : DU) (zp : List MemPlace) (hzd : R z = some (zd, zp))
    (hm : a.eval m = .map (some b)) (h : MapG kt R mk ok w b n g) (key : Value) (y : κ) (hy : ok y) (hx : a.eval x = key) (hkey : keyOf Try.prog kt key = some (mk y))
    (u : Value) (hu : ∀ v ps, R v = some ((g y).getD zd, ps) → v = u) (hK : wpList Try.prog ops Q rest (a.put o.dst u) w) : wpList Try.prog ops Q (o :: rest) a w := by
  obtain ⟨D, h1, h2, h3⟩ := h
  refine wpList_plain hg fun K' hK' => ?_
  obtain ⟨v, ps, hrun, hv⟩ := h1.lookup K ht hz hzd hkey
  rw [(h2 y hy).2] at hv
  obtain rfl := hu v ps hv
  unfold Oper.wp
  simp [execOp, hop, hm, hx, hrun, Result.andThen]
  exact hK' _ _ hK
theorem mapg_look_in {F : Fence} {nF : Nat} (hg : o.guard = none) (m x : Operand) (t : TypeId) (hop : o.op = Op.lookup t m x false) (e : TypeId) (K : Maps.Keyed Try.prog kt) (ht : Try.prog.underlying t = some (.map kt e)) {z : Value} (hz : (zeroValue e).run Try.prog w = .ok z w) (zd : DU) (zp : List MemPlace) (hzd : R z = some (zd, zp))
    (hm : a.eval m = .map (some b)) (h : MapG kt R mk ok w b n g) (key : Value) (y : κ) (hy : ok y) (hx : a.eval x = key) (hkey : keyOf Try.prog kt key = some (mk y))
    (u : Value) (hu : ∀ v ps, R v = some ((g y).getD zd, ps) → v = u) (hK : wpListIn F nF Try.prog ops Q rest (a.put o.dst u) w) : wpListIn F nF Try.prog ops Q (o :: rest) a w := by
  obtain ⟨D, h1, h2, h3⟩ := h
  refine wpListIn_plain hg fun K' hK' => ?_
  obtain ⟨v, ps, hrun, hv⟩ := h1.lookup K ht hz hzd hkey
  rw [(h2 y hy).2] at hv
  obtain rfl := hu v ps hv
  unfold Oper.wpIn
  refine ⟨by simp [Oper.about, hop], ?_⟩
  rw [Oper.semAt_plain F _ _ (by rw [hop]; intro c hc'; cases hc')]
  simp [execOp, hop, hm, hx, hrun, Result.andThen]
  exact hK' _ _ hK
theorem mapg_look_ok (hg : o.guard = none) (m x : Operand) (t : TypeId) (hop : o.op = Op.lookup t m x true) (e : TypeId) (K : Maps.Keyed Try.prog kt) (ht : Try.prog.underlying t = some (.map kt e)) {z : Value} (hz : (zeroValue e).run Try.prog w = .ok z w) (zd : DU) (zp : List MemPlace) (hzd : R z = some (zd, zp))
    (hm : a.eval m = .map (some b)) (h : MapG kt R mk ok w b n g) (key : Value) (y : κ) (hy : ok y) (hx : a.eval x = key) (hkey : keyOf Try.prog kt key = some (mk y))
    (u : Value) (hu : ∀ v ps, R v = some ((g y).getD zd, ps) → v = u) (hK : wpList Try.prog ops Q rest (a.put o.dst (.tuple #[u, .bool (g y).isSome])) w) : wpList Try.prog ops Q (o :: rest) a w := by
  obtain ⟨D, h1, h2, h3⟩ := h
  refine wpList_lookup_own_ok w hg m x t hop kt e K ht R hz zd zp hzd b n D hm h1 key (mk y) hx hkey fun v ps hv => ?_
  rw [(h2 y hy).2] at hv
  obtain rfl := hu v ps hv
  rw [(h2 y hy).1]
  exact hK
end

/-! ### keys that are naturals, keys that are strings -/
def natK (x : Nat) : Lit := .int .i64 (x : Int)
def natOk (x : Nat) : Prop := x < 9223372036854775808
theorem natWay : KeyWay natK natOk := ⟨fun x y _ _ h => by simp [natK] at h; omega, fun x _ => by simp [natK, WideAt.IsKeyLit]⟩
theorem intKeyed : Maps.Keyed Try.prog 3 := Maps.int_keyed Try.underlying3
theorem nat_wf {x : Nat} (h : natOk x) : (Lit.int .i64 (x : Int)).wf = true := by
  unfold natOk at h
  have e : IntKind.i64.min = -9223372036854775808 := by decide
  have e2 : IntKind.i64.max = 9223372036854775807 := by decide
  simp [Lit.wf, e, e2]; omega
theorem nat_key {x : Nat} (h : natOk x) : keyOf Try.prog 3 (.int .i64 (x : Int)) = some (natK x) := by
  exact Go.Maps.keyOf_int_mk Try.underlying3 (nat_wf h)
def strK (s : ByteArray) : Lit := .string s.data.toList
def strOk (s : ByteArray) : Prop := s.size ≤ maxLen
theorem strWay : KeyWay strK strOk := ⟨fun x y _ _ h => by
  have h2 := (Lit.string.inj h)
  cases x; cases y
  simp only [ByteArray.mk.injEq]
  exact Array.toList_inj.1 h2, fun x _ => by simp [strK, WideAt.IsKeyLit]⟩
theorem strKeyed : Maps.Keyed Try.prog 9 := Maps.string_keyed Try.underlying9
theorem str_key {s : ByteArray} (h : strOk s) : keyOf Try.prog 9 (.string s) = some (strK s) := Go.WideMaps.keyOf_string_mk Try.underlying9 h

/-! ### elements -/
def boolD (c : Bool) : Option DU := if c then some (.lit (.bool true)) else none
theorem zeroBool (w : World) : (zeroValue 4).run Try.prog w = .ok (.bool false) w := by kernel_rfl
theorem zeroInt (w : World) : (zeroValue 3).run Try.prog w = .ok (.int .i64 0) w := by kernel_rfl
theorem boolRz : plainElem (H := Unit) Try.prog 4 (.bool false) = some (.lit (.bool false), []) := plainElem_bool Try.underlying4 _
theorem boolRt : plainElem (H := Unit) Try.prog 4 (.bool true) = some (.lit (.bool true), []) := plainElem_bool Try.underlying4 _
theorem plainElem_bool_inv {P : Program} {e : TypeId} (he : P.underlying e = some .bool) {v : Value} {z : DU × List MemPlace} (h : plainElem P e v = some z) : ∃ x, v = .bool x ∧ z = (.lit (.bool x), []) := by
  unfold plainElem at h
  rw [he] at h
  cases v <;> simp at h
  exact ⟨_, rfl, h.symm⟩
theorem bool_elem (c : Bool) (v : Value) (ps : List MemPlace) (h : plainElem (H := Unit) Try.prog 4 v = some ((boolD c).getD (.lit (.bool false)), ps)) : v = .bool c := by
  obtain ⟨x, rfl, h2⟩ := plainElem_bool_inv Try.underlying4 h
  cases c <;> cases x <;> first | rfl | (simp [boolD] at h2)
def intD (c : Option Nat) : Option DU := c.map fun x => .lit (.int .i64 (x : Int))
theorem intRz : plainElem (H := Unit) Try.prog 3 (.int .i64 0) = some (.lit (.int .i64 0), []) := plainElem_int Try.underlying3 (by decide)
theorem intRn {x : Nat} (h : natOk x) : plainElem (H := Unit) Try.prog 3 (.int .i64 (x : Int)) = some (.lit (.int .i64 (x : Int)), []) := plainElem_int Try.underlying3 (nat_wf h)
theorem int_elem (c : Option Nat) (v : Value) (ps : List MemPlace) (h : plainElem (H := Unit) Try.prog 3 v = some ((intD c).getD (.lit (.int .i64 0)), ps)) : v = .int .i64 ((c.getD 0 : Nat) : Int) := by
  obtain ⟨a, rfl, h2, _⟩ := plainElem_int_inv Try.underlying3 h
  cases c <;> simp [intD] at h2 <;> simp [← h2]
def ptrD (c : Option Nat) : Option DU := c.map fun x => .lit (.int .i64 (x : Int))
theorem ptr_elem (c : Option Nat) (v : Value) (ps : List MemPlace) (h : ptrElem v = some ((ptrD c).getD (.lit (.int .i64 (-1))), ps)) : v = ptrTo c := by
  cases c with
  | none =>
    rcases ptrElem_inv (by simpa [ptrD] using h) with ⟨_, h⟩ | ⟨b, h, _⟩
    · exact h
    · omega
  | some x =>
    rcases ptrElem_inv (by simpa [ptrD] using h) with ⟨h, _⟩ | ⟨b, h, h2⟩
    · omega
    · rw [h2]; congr; omega
end Go.Proofs.Ytolbahfbhcpgdaa
end

section
/- Where the pointers to a file's blocks stand. -/
namespace Go.Proofs.Ytolbahfbhcpgdaa
open Go.RowKit

def plL (n : Nat) : Nat := if n < 8 then 0 else if n < 264 then 1 else 2
def plA (n : Nat) : Nat := if n < 8 then n else if n < 264 then n - 8 else (n - 264) / 256
def plB (n : Nat) : Nat := if n < 264 then 0 else (n - 264) % 256
def countN (size : Nat) : Nat := if size ≤ 67379200 then (size + 1023) / 1024 else 0
theorem countN_le (size : Nat) : countN size ≤ 65800 := by unfold countN; split <;> omega

theorem ret_4 {a b c a2 b2 c2 : Int} (h : a = a2) (h1 : b = b2) (h2 : c = c2) : Ending.returned (.tuple #[.int .i64 a, .int .i64 b, .int .i64 c, .bool true]) = .returned (.tuple #[.int .i64 a2, .int .i64 b2, .int .i64 c2, .bool true]) := by rw [h, h1, h2]

theorem place_c (n : Nat) (hn : n < 65800) (w : World) : Calls Try.prog 75 #[.int .i64 n] w fun e w' => e = .returned (.tuple #[.int .i64 (plL n), .int .i64 (plA n), .int .i64 (plB n), .bool true]) ∧ w = w' := by
  have t0 : decide ((n : Int) < 0) = false := by simp
  have t1 : decide ((65800 : Int) ≤ (n : Int)) = false := by simp; omega
  by_cases h8 : n < 8
  · have e1 : plL n = 0 := by simp [plL, h8]
    have e2 : plA n = n := by simp [plA, h8]
    have e3 : plB n = 0 := by simp [plB]; omega
    have E1 := Lib.hid e1; have E2 := Lib.hid e2; have E3 := Lib.hid e3; clear e1 e2 e3
    have t2 : decide ((n : Int) < 8) = true := by simp; omega
    go_enter Try.func75, Try.ntmps75
    go_wp2
    exact bodyPost_ret (v := .tuple #[.int .i64 0, .int .i64 n, .int .i64 0, .bool true]) (by simp [results, Try.results75, go_sem]) rfl ⟨ret_4 (by rw [E1.out]; rfl) (by rw [E2.out]) (by rw [E3.out]; rfl), rfl⟩
  · have t2 : decide ((n : Int) < 8) = false := by simp; omega
    by_cases h9 : n < 264
    · have e1 : plL n = 1 := by simp [plL, h8, h9]
      have e2 : plA n = n - 8 := by simp [plA, h8, h9]
      have e3 : plB n = 0 := by simp [plB, h9]
      have E1 := Lib.hid e1; have E2 := Lib.hid e2; have E3 := Lib.hid e3; clear e1 e2 e3
      have t3 : decide ((n : Int) < 264) = true := by simp; omega
      go_enter Try.func75, Try.ntmps75
      go_wp2
      exact bodyPost_ret (v := .tuple #[.int .i64 1, .int .i64 (n - 8), .int .i64 0, .bool true]) (by simp [results, Try.results75, go_sem]) rfl ⟨ret_4 (by rw [E1.out]; rfl) (by rw [E2.out]; omega) (by rw [E3.out]; rfl), rfl⟩
    · have e1 : plL n = 2 := by simp [plL, h8, h9]
      have e2 : plA n = (n - 264) / 256 := by simp [plA, h8, h9]
      have e3 : plB n = (n - 264) % 256 := by simp [plB, h9]
      have E1 := Lib.hid e1; have E2 := Lib.hid e2; have E3 := Lib.hid e3; clear e1 e2 e3
      have t3 : decide ((n : Int) < 264) = false := by simp; omega
      have h0 : 0 ≤ (n : Int) - 264 := by omega
      go_enter Try.func75, Try.ntmps75
      go_wp2
      exact bodyPost_ret (v := .tuple #[.int .i64 2, .int .i64 ((n - 264) / 256), .int .i64 ((n - 264) % 256), .bool true]) (by simp [results, Try.results75, go_sem]) rfl ⟨ret_4 (by rw [E1.out]; rfl) (by rw [E2.out]; omega) (by rw [E3.out]; omega), rfl⟩

theorem first1_c (w : World) : Calls Try.prog 94 #[.int .i64 1, .int .i64 0] w fun e w' => e = .returned (.tuple #[.int .i64 8, .bool true]) ∧ w = w' := by
  go_enter Try.func94, Try.ntmps94
  go_wp2
  go_ret2
  exact ⟨rfl, rfl⟩
theorem first2_c (k : Nat) (hk : k < 256) (w : World) : Calls Try.prog 94 #[.int .i64 2, .int .i64 k] w fun e w' => e = .returned (.tuple #[.int .i64 ((264 + 256 * k : Nat) : Int), .bool true]) ∧ w = w' := by
  have t0 : decide ((0 : Int) ≤ (k : Int)) = true := by simp
  have t1 : decide ((k : Int) < 256) = true := by simp; omega
  go_enter Try.func94, Try.ntmps94
  go_wp2
  go_ret2
  exact ⟨ret_ib (by show _ = ((264 + 256 * k : Nat) : Int); omega) rfl, rfl⟩

theorem count_c (n : Nat) (hn : n < 9000000000) (w : World) : Calls Try.prog 49 #[.int .i64 n] w fun e w' => e = .returned (.int .i64 (countN n)) ∧ w = w' := by
  have t0 : decide ((n : Int) < 0) = false := by simp
  by_cases h : n ≤ 67379200
  · have e1 : countN n = (n + 1023) / 1024 := by simp [countN, h]
    have E1 := Lib.hid e1; clear e1
    have t1 : decide ((67379200 : Int) < (n : Int)) = false := by simp; omega
    go_enter Try.func49, Try.ntmps49
    go_wp2
    go_ret
    exact ⟨ret_int (by rw [E1.out]; omega), rfl⟩
  · have e1 : countN n = 0 := by simp [countN, h]
    have E1 := Lib.hid e1; clear e1
    have t1 : decide ((67379200 : Int) < (n : Int)) = true := by simp; omega
    go_enter Try.func49, Try.ntmps49
    go_wp2
    go_ret
    exact ⟨ret_int (by rw [E1.out]; rfl), rfl⟩
end Go.Proofs.Ytolbahfbhcpgdaa
end
