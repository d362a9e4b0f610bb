/- Part of the road to RpCard: Clone, RepS, RepQ. -/
import Derived.Deep.AppendLies
import Derived.Test.YtbeabehebenocaaGreatDoorRpo05
import Derived.Test.YtbeabehebenocaaGreatDoorRpo08
import Derived.Test.YtbeabehebenocaaGreatDoorRpo10
import Derived.Test.YtbeabehebenocaaGreatDoorRpo11
import Derived.Test.YtbeabehebenocaaGreatDoorRpo01
set_option linter.all false
set_option linter.unusedSimpArgs false
set_option linter.unusedVariables false
set_option linter.unusedSectionVars false
section
/- slices.Clone of bytes. -/
namespace Go.Proofs.YtbeabehebenocaaGreatDoor
open Go.RowKit

set_option maxRecDepth 100000 in
set_option maxHeartbeats 1000000 in
theorem clone_c (b o N cap : Nat) (f : Nat → Nat) (w : World) (h : RdB w b o N f) (hN : 0 < N) (hNb : N ≤ 1000000000) (hcap : N ≤ cap) :
    Calls Tryz.prog 27 #[.slice (some ⟨b, o, none⟩) N cap] w fun e w' => ∃ G capo, e = .returned (.slice (some ⟨G, 0, none⟩) N capo) ∧ w'.ownsRow w.heap.size 5 1 (.slice (some ⟨G, 0, none⟩) N capo) N (bytesL f N) ∧ Below w.heap.size w w' ∧ capo ≤ 9223372036854775807 := by
  obtain ⟨i0, hi0, hz0, hz1, hz2⟩ := info_parts info8
  have kn := fun (W : World) (A : Option Addr) (n c : Nat) => Lib.run_eql_slice_nil (P := Tryz.prog) W 25 5 A n c 0 0 Tryz.underlying25
  have hbl := lt_of_cell (h 0 hN)
  have HR := Lib.hid h
  clear h
  go_enter Tryz.func27, Tryz.ntmps27
  have hown : (w.alloc (.cells #[] 5)).ownsRow w.heap.size 5 1 (.slice (some ⟨w.heap.size, 0, none⟩) 0 0) 0 (bytesL (fun _ => 0) 0) := Blk.own (xs := []) (Blk.newL []) (Nat.le_refl _) rfl (by unfold maxLen; omega)
  have hR2 : RdB (w.alloc (.cells #[] 5)) b o N f := HR.out.below ((Below.refl _ _).alloc (Nat.le_refl _) _)
  have HR2 := Lib.hid hR2
  clear hR2
  go_wp2_with (at_builtin; refine app_bytes rfl _ _ 25 rfl w.heap.size 5 i0 Tryz.underlying25 hi0 hz0 hz1 hz2 _ _ (fun _ => 0) rfl (by exact .inl hown) b o N cap _ rfl HR2.out (by omega) (by omega) (by simp) ?_; intro g5 cap5 w3 ho5 hgr5 hat5)
  go_ret
  rw [Nat.zero_add] at ho5
  have e : bytesL (catF 0 (fun _ => 0) f) N = bytesL f N := bytesL_congr (fun k _ => by simp [catF])
  rw [e] at ho5
  refine ⟨g5, cap5, by simp, ho5, ((Below.refl _ w).alloc (Nat.le_refl _) _).grown hgr5 (by simp) (fun q e => (hown.lt q e).1), ?_⟩
  rcases ho5.2 with ⟨h, _⟩ | ⟨_, _, _, h, _, _, _, h2, _⟩
  · cases h
  · cases h; exact h2
end Go.Proofs.YtbeabehebenocaaGreatDoor
end

section
/- mend.Repair: the mender in the making. -/
namespace Go.Proofs.YtbeabehebenocaaGreatDoor
open Go.RowKit

/-- a mender in the making: what there is of it -/
structure St (g : Geo) (b o N cap q5 : Nat) (f : Nat → Nat) (u0 W : World) (oG : Option (Nat × Nat)) (oC oI oX oY : Option Nat) : Prop where
  img : Blk 49 W q5 [.int .i64 (g.gr : Nat), .int .i64 (g.ino : Nat), .int .i64 (g.da : Nat), .slice (some ⟨b, o, none⟩) N cap]
  bel : Below u0.heap.size u0 W
  og : ∀ G k, oG = some (G, k) → W.ownsRow u0.heap.size 5 1 (.slice (some ⟨G, 0, none⟩) N k) N (bytesL f N) ∧ k ≤ 9223372036854775807
  oc : ∀ C, oC = some C → Claims W C 0 (fun _ => false)
  oi : ∀ I, oI = some I → InM W I 0 (fun _ => none)
  lc : ∀ C, oC = some C → u0.heap.size ≤ C
  li : ∀ I, oI = some I → u0.heap.size ≤ I
  ci : ∀ C I, oC = some C → oI = some I → C ≠ I
  ox : ∀ X, oX = some X → u0.heap.size ≤ X ∧ ∃ G k C I, oG = some (G, k) ∧ oC = some C ∧ oI = some I ∧ Blk 69 W X [.int .i64 (g.gr : Nat), .int .i64 (g.ino : Nat), .int .i64 (g.da : Nat), .slice (some ⟨b, o, none⟩) N cap, .slice (some ⟨G, 0, none⟩) N k, .map (some C), .map (some I), .slice none 0 0]
  oy : ∀ Y, oY = some Y → u0.heap.size ≤ Y ∧ Blk 63 W Y [.pointer none]
/-- a mender that is made -/
structure Made (g : Geo) (b o N cap q5 : Nat) (f : Nat → Nat) (u0 W : World) (YB X G k C I : Nat) : Prop where
  img : Blk 49 W q5 [.int .i64 (g.gr : Nat), .int .i64 (g.ino : Nat), .int .i64 (g.da : Nat), .slice (some ⟨b, o, none⟩) N cap]
  bel : Below u0.heap.size u0 W
  own : W.ownsRow u0.heap.size 5 1 (.slice (some ⟨G, 0, none⟩) N k) N (bytesL f N)
  kk : k ≤ 9223372036854775807
  lC : u0.heap.size ≤ C
  lI : u0.heap.size ≤ I
  lX : u0.heap.size ≤ X
  lY : u0.heap.size ≤ YB
  cl : Claims W C 0 (fun _ => false)
  im : InM W I 0 (fun _ => none)
  ci : C ≠ I
  men : Blk 69 W X [.int .i64 (g.gr : Nat), .int .i64 (g.ino : Nat), .int .i64 (g.da : Nat), .slice (some ⟨b, o, none⟩) N cap, .slice (some ⟨G, 0, none⟩) N k, .map (some C), .map (some I), .slice none 0 0]
  ptr : Blk 63 W YB [.pointer (some ⟨X, 0, none⟩)]
section
variable {g : Geo} {b o N cap q5 : Nat} {f : Nat → Nat} {u0 W : World} {oG : Option (Nat × Nat)} {oC oI oX oY : Option Nat}
theorem St.S (h : St g b o N cap q5 f u0 W oG oC oI oX oY) : W.cell? ⟨q5, 0, none⟩ = some (.int .i64 (g.gr : Nat)) ∧ W.cell? ⟨q5, 1, none⟩ = some (.int .i64 (g.ino : Nat)) ∧ W.cell? ⟨q5, 2, none⟩ = some (.int .i64 (g.da : Nat)) ∧ W.cell? ⟨q5, 3, none⟩ = some (.slice (some ⟨b, o, none⟩) N cap) :=
  ⟨h.img.cell 0, h.img.cell 1, h.img.cell 2, h.img.cell 3⟩
theorem St.keep {W' : World} (h : St g b o N cap q5 f u0 W oG oC oI oX oY) (hb : Below W.heap.size W W') : St g b o N cap q5 f u0 W' oG oC oI oX oY :=
  ⟨h.img.below hb h.img.lt, h.bel.trans (hb.mono h.bel.size), fun G k e => ⟨own_below (h.og G k e).1 hb, (h.og G k e).2⟩, fun C e => MapG.below (h.oc C e) hb (h.oc C e).lt, fun I e => MapG.below (h.oi I e) hb (h.oi I e).lt, h.lc, h.li, h.ci,
    fun X e => by obtain ⟨h0, G, k, C, I, h1, h2, h3, h4⟩ := h.ox X e; exact ⟨h0, G, k, C, I, h1, h2, h3, h4.below hb h4.lt⟩, fun Y e => ⟨(h.oy Y e).1, (h.oy Y e).2.below hb (h.oy Y e).2.lt⟩⟩
theorem St.clone {W' : World} {G k : Nat} (h : St g b o N cap q5 f u0 W none oC oI none oY) (ho : W'.ownsRow W.heap.size 5 1 (.slice (some ⟨G, 0, none⟩) N k) N (bytesL f N)) (hb : Below W.heap.size W W') (hk : k ≤ 9223372036854775807) : St g b o N cap q5 f u0 W' (some (G, k)) oC oI none oY :=
  { h.keep hb with og := fun G' k' e => by cases e; exact ⟨own_mono ho h.bel.size, hk⟩, ox := fun X e => by cases e }
theorem St.claim {q : Nat} (h : St g b o N cap q5 f u0 W oG none oI none oY) (hq : W.heap.size = q) : St g b o N cap q5 f u0 (W.alloc (.map #[] 0)) oG (some q) oI none oY := by
  subst hq
  have hb : Below W.heap.size W (W.alloc (.map #[] 0)) := (Below.refl _ _).alloc (Nat.le_refl _) _
  exact { h.keep hb with oc := fun C e => by (cases e; exact MapG.made W), lc := fun C e => by (cases e; exact h.bel.size), ci := fun C I e e' => by (cases e; have := (h.oi I e').lt; omega), ox := fun X e => by cases e }
theorem St.inm {q : Nat} (h : St g b o N cap q5 f u0 W oG oC none none oY) (hq : W.heap.size = q) : St g b o N cap q5 f u0 (W.alloc (.map #[] 0)) oG oC (some q) none oY := by
  subst hq
  have hb : Below W.heap.size W (W.alloc (.map #[] 0)) := (Below.refl _ _).alloc (Nat.le_refl _) _
  exact { h.keep hb with oi := fun I e => by (cases e; exact MapG.made W), li := fun I e => by (cases e; exact h.bel.size), ci := fun C I e e' => by (cases e'; have := (h.oc C e).lt; omega), ox := fun X e => by cases e }
theorem St.men {q G k C I : Nat} (h : St g b o N cap q5 f u0 W (some (G, k)) (some C) (some I) none oY) (hq : W.heap.size = q) : St g b o N cap q5 f u0 (W.alloc (.cells #[.int .i64 (g.gr : Nat), .int .i64 (g.ino : Nat), .int .i64 (g.da : Nat), .slice (some ⟨b, o, none⟩) N cap, .slice (some ⟨G, 0, none⟩) N k, .map (some C), .map (some I), .slice none 0 0] 69)) (some (G, k)) (some C) (some I) (some q) oY := by
  subst hq
  have hb : Below W.heap.size W (W.alloc (.cells #[.int .i64 (g.gr : Nat), .int .i64 (g.ino : Nat), .int .i64 (g.da : Nat), .slice (some ⟨b, o, none⟩) N cap, .slice (some ⟨G, 0, none⟩) N k, .map (some C), .map (some I), .slice none 0 0] 69)) := (Below.refl _ _).alloc (Nat.le_refl _) _
  exact { h.keep hb with ox := fun X e => by (cases e; exact ⟨h.bel.size, G, k, C, I, rfl, rfl, rfl, Blk.newL [.int .i64 (g.gr : Nat), .int .i64 (g.ino : Nat), .int .i64 (g.da : Nat), .slice (some ⟨b, o, none⟩) N cap, .slice (some ⟨G, 0, none⟩) N k, .map (some C), .map (some I), .slice none 0 0]⟩) }
theorem St.ptr {q : Nat} (h : St g b o N cap q5 f u0 W oG oC oI oX none) (hq : W.heap.size = q) : St g b o N cap q5 f u0 (W.alloc (.cells #[.pointer none] 63)) oG oC oI oX (some q) := by
  subst hq
  have hb : Below W.heap.size W (W.alloc (.cells #[.pointer none] 63)) := (Below.refl _ _).alloc (Nat.le_refl _) _
  exact { h.keep hb with oy := fun Y e => by (cases e; exact ⟨h.bel.size, Blk.newL [.pointer none]⟩) }
theorem St.cellY {Y : Nat} (h : St g b o N cap q5 f u0 W oG oC oI oX oY) (e : oY = some Y) : W.cell? ⟨Y, 0, none⟩ = some (.pointer none) := (h.oy Y e).2.cell 0
theorem St.frozenY {Y : Nat} (h : St g b o N cap q5 f u0 W oG oC oI oX oY) (e : oY = some Y) : W.frozen? ⟨Y, 0, none⟩ = false := (h.oy Y e).2.frozen 0
theorem St.store {Y X : Nat} (h : St g b o N cap q5 f u0 W oG oC oI (some X) oY) (e : oY = some Y) (v : Value) (hv : v = .pointer (some ⟨X, 0, none⟩)) :
    ((W.setCell ⟨Y, 0, none⟩ v).cell? ⟨q5, 0, none⟩ = some (.int .i64 (g.gr : Nat)) ∧ (W.setCell ⟨Y, 0, none⟩ v).cell? ⟨q5, 1, none⟩ = some (.int .i64 (g.ino : Nat)) ∧ (W.setCell ⟨Y, 0, none⟩ v).cell? ⟨q5, 2, none⟩ = some (.int .i64 (g.da : Nat)) ∧ (W.setCell ⟨Y, 0, none⟩ v).cell? ⟨q5, 3, none⟩ = some (.slice (some ⟨b, o, none⟩) N cap)) ∧
    ∃ G k C I, Made g b o N cap q5 f u0 (W.setCell ⟨Y, 0, none⟩ v) Y X G k C I := by
  subst hv
  obtain ⟨hY0, hY⟩ := h.oy Y e
  obtain ⟨hX0, G, k, C, I, h1, h2, h3, hX⟩ := h.ox X rfl
  have hm : Mods (fun k => k = Y) W (W.setCell ⟨Y, 0, none⟩ (.pointer (some ⟨X, 0, none⟩))) := (Mods.refl (fun k => k = Y) W).setCell ⟨Y, 0, none⟩ (fun _ => rfl) _
  have n1 := blk_ne h.img hY (by decide); have n2 := blk_ne hX hY (by decide)
  have hI := h.img.mods hm n1
  have ho := (h.og G k h1).1
  refine ⟨⟨hI.cell 0, hI.cell 1, hI.cell 2, hI.cell 3⟩, G, k, C, I, hI, Below.mods h.bel hm (fun i hi e => by omega) h.bel.size, own_mods ho hm (fun q hq e => ?_), (h.og G k h1).2, h.lc C h2, h.li I h3, hX0, hY0, MapG.mods (h.oc C h2) hm (fun e => ?_), MapG.mods (h.oi I h3) hm (fun e => ?_), h.ci C I h2 h3, hX.mods hm n2, hY.set 0 _⟩
  · subst e
    obtain ⟨ys, fr, hg1⟩ := own_tag ho
    have e2 : G = q := Option.some.inj hq
    rw [e2, show W.heap[q]? = _ from hY] at hg1
    exact absurd (tag_inj hg1) (by decide)
  · subst e; exact not_map (h.oc C h2) hY
  · subst e; exact not_map (h.oi I h3) hY
end

/-! ### the passes -/
/-- what the passes leave alone -/
structure Kp (g : Geo) (b o N cap : Nat) (w wr : World) (PB YB X q5 : Nat) : Prop where
  pb : Blk 1 wr PB [.func (.func 28) #[.pointer (some ⟨X, 0, none⟩)] #[], .func (.func 29) #[] #[.pointer (some ⟨YB, 0, none⟩)], .func (.func 31) #[.pointer (some ⟨X, 0, none⟩)] #[], .func (.func 32) #[.pointer (some ⟨X, 0, none⟩)] #[]]
  yb : Blk 63 wr YB [.pointer (some ⟨X, 0, none⟩)]
  img : Blk 49 wr q5 [.int .i64 (g.gr : Nat), .int .i64 (g.ino : Nat), .int .i64 (g.da : Nat), .slice (some ⟨b, o, none⟩) N cap]
  bl : Below w.heap.size w wr
theorem Kp.mods {g : Geo} {b o N cap : Nat} {w wr wr2 : World} {PB YB X q5 : Nat} {s : Nat → Prop} (h : Kp g b o N cap w wr PB YB X q5) (hm : Mods s wr wr2)
    (hs : ∀ k, s k → k < wr.heap.size → w.heap.size ≤ k ∧ ∀ ys e fr, wr.heap[k]? = some (.cells ys e fr) → e ≠ 1 ∧ e ≠ 63 ∧ e ≠ 49) : Kp g b o N cap w wr2 PB YB X q5 :=
  ⟨h.pb.mods hm (fun e => ((hs _ e h.pb.lt).2 _ _ _ h.pb).1 rfl), h.yb.mods hm (fun e => ((hs _ e h.yb.lt).2 _ _ _ h.yb).2.1 rfl), h.img.mods hm (fun e => ((hs _ e h.img.lt).2 _ _ _ h.img).2.2 rfl),
    Below.mods h.bl hm (fun i hi e => by have := hs i e (by have := h.bl.size; omega); omega) h.bl.size⟩
theorem own_rebase {w : World} {base base' e size G n cap : Nat} {xs : List Value} (h : w.ownsRow base e size (.slice (some ⟨G, 0, none⟩) n cap) n xs) (hb : base' ≤ G) : w.ownsRow base' e size (.slice (some ⟨G, 0, none⟩) n cap) n xs := by
  obtain ⟨hl, h⟩ := h
  refine ⟨hl, ?_⟩
  rcases h with ⟨hv, _⟩ | ⟨g', cap', cur, hv, _, r⟩
  · cases hv
  · cases hv
    exact .inr ⟨G, cap, cur, rfl, hb, r⟩
def mk1 (g : Geo) (f : Nat → Nat) (d : Nat) : Nat → Option Tk := fun x => if x = 1 then some (rootT g f d) else none
/-- behind each pass -/
def Pa0 (g : Geo) (b o N cap : Nat) (f : Nat → Nat) (X CB IB G capo : Nat) (wr : World) : Prop :=
  MAt wr g b o N cap f X CB IB 0 (.slice (some ⟨G, 0, none⟩) N capo) (.slice none 0 0) (fun _ => false) (fun _ => none) (fun _ => ⟨0, fun _ => 0, [], 0, false, 0⟩)
def Pa1 (g : Geo) (b o N cap : Nat) (c1 : Nat → Bool) (i1 : Nat → Option Tk) (f : Nat → Nat) (X CB IB G capo : Nat) (wr : World) : Prop :=
  ∃ B gw capw, 1 ≤ capw ∧ MS wr g b o N cap f X CB IB 10 (.slice (some ⟨G, 0, none⟩) N capo) (.slice (some ⟨gw, 0, none⟩) 1 capw) c1 i1 1 B ∧ wr.cell? ⟨gw, 0, none⟩ = some (.pointer (some ⟨B, 0, none⟩))
def Pa2 (g : Geo) (b o N cap : Nat) (D : DS) (f : Nat → Nat) (X CB IB G capo : Nat) (wr : World) : Prop :=
  ∃ B A k, MS wr g b o N cap f X CB IB 330 (.slice (some ⟨G, 0, none⟩) N capo) (.slice A 0 k) D.c D.ins 1 B
/-- the image that is made of a root whose entries were gone over so -/
def outD (g : Geo) (f : Nat → Nat) (d : Nat) (D : DS) : Nat → Nat := putF (inosF g D.ins (putF f (d * 1024) 1024 (pbF D.E 32)) g.inodes) 1024 1024 (headP g (fun i => (D.ins (i + 1)).isSome) (fun n => D.c (g.data n)))
def OwnG (b N G capo : Nat) (fo : Nat → Nat) (wr : World) : Prop := wr.ownsRow (b + 1) 5 1 (.slice (some ⟨G, 0, none⟩) N capo) N (bytesL fo N)
end Go.Proofs.YtbeabehebenocaaGreatDoor
end

section
/- mend.Repair: the passes. -/
namespace Go.Proofs.YtbeabehebenocaaGreatDoor
open Go.RowKit

structure Lo (w : World) (b X CB IB G capo : Nat) : Prop where
  b : b < w.heap.size
  c : w.heap.size ≤ CB
  i : w.heap.size ≤ IB
  x : w.heap.size ≤ X
  g : w.heap.size ≤ G
  k : capo ≤ 9223372036854775807
theorem own_one {w : World} {base e : Nat} {v x : Value} (h : w.ownsRow base e 1 v 1 [x]) : ∃ gw capw, v = .slice (some ⟨gw, 0, none⟩) 1 capw ∧ 1 ≤ capw ∧ w.cell? ⟨gw, 0, none⟩ = some x := by
  obtain ⟨hl, h⟩ := h
  rcases h with ⟨_, h⟩ | ⟨g, cap, cur, rfl, hb, hg, hc, hm, hs, ht⟩
  · omega
  · refine ⟨g, cap, rfl, hc, ?_⟩
    rw [cell_of_row w g 0 cur e (0, 0) hg]
    have h1 : ([x] : List Value)[0]? = some x := rfl
    rw [← ht, List.getElem?_take_of_lt (by decide)] at h1
    simpa using h1
theorem cells_eq {w : World} {k : Nat} {ys xs : Array Value} {e e' : TypeId} {fr fr' : Nat × Nat} (h : w.heap[k]? = some (.cells xs e' fr')) (h2 : w.heap[k]? = some (.cells ys e fr)) : e = e' := tag_inj (h2.symm.trans h)

section
variable {g : Geo} {b o N cap d : Nat} {f : Nat → Nat} {w : World} {PB YB X CB IB G capo q5 : Nat}
theorem own_ne_map {W : World} {fo : Nat → Nat} (ho : OwnG b N G capo fo W) {kt : TypeId} {κ : Type} {R : Value → Option (DU × List MemPlace)} {mk : κ → Lit} {ok : κ → Prop} {C n : Nat} {h : κ → Option DU} (hc : MapG kt R mk ok W C n h) : G ≠ C := fun e => by
  obtain ⟨ys, fr, ht⟩ := own_tag ho
  subst e; exact not_map hc ht
theorem own_ne_blk {W : World} {fo : Nat → Nat} (ho : OwnG b N G capo fo W) {B : Nat} {e : TypeId} {xs : List Value} (hb : Blk e W B xs) (he : e ≠ 5) : G ≠ B := fun q => by
  obtain ⟨ys, fr, ht⟩ := own_tag ho
  rw [q, show W.heap[B]? = _ from hb] at ht
  exact he (tag_inj ht)
theorem men_tag {W : World} {M : Nat} {out way : Value} {c : Nat → Bool} {adr : Nat → Option Nat} {tk : Nat → Tk} (h : MAt W g b o N cap f X CB IB M out way c adr tk) {ys : Array Value} {e : TypeId} {fr : Nat × Nat} (hh : W.heap[X]? = some (.cells ys e fr)) : e = 69 := tag_inj (hh.symm.trans h.men)

theorem pass1_c (hR : RepOk g f d) (L : Lo w b X CB IB G capo) (W : World) (hK : Kp g b o N cap w W PB YB X q5) (h0 : Pa0 g b o N cap f X CB IB G capo W) (ho : OwnG b N G capo f W) :
    Calls Tryz.prog 28 #[.pointer (some ⟨X, 0, none⟩)] W fun e w' => e = .returned (.tuple #[]) ∧ Kp g b o N cap w w' PB YB X q5 ∧ Pa1 g b o N cap (repC g f) (mk1 g f d) f X CB IB G capo w' ∧ OwnG b N G capo f w' := by
  refine (root_c g b o N cap f X CB IB 0 _ (fun _ => false) (fun _ => none) _ W h0 (by decide) (inoAt g f 1) rfl hR.kind hR.size hR.d3 hR.s1 hR.s2 rfl d _ hR.keep.symm rfl (fun _ _ e => by cases e)).mono ?_
  rintro e w' ⟨rfl, B, v, hB1, hB2, hA, hv, hm⟩
  obtain ⟨gw, capw, rfl, hcw, hcell⟩ := own_one hv
  refine ⟨rfl, hK.mods hm fun k hk _ => ?_, ⟨B, gw, capw, hcw, ⟨_, _, hA, fun x => ?_, if_pos rfl⟩, hcell⟩, own_mods ho hm fun q hq e => ?_⟩
  · rcases hk with rfl | rfl | rfl
    · exact ⟨L.c, fun ys e fr hh => (not_map h0.cl hh).elim⟩
    · exact ⟨L.i, fun ys e fr hh => (not_map h0.im hh).elim⟩
    · refine ⟨L.x, fun ys e fr hh => ?_⟩
      rw [men_tag h0 hh]; decide
  · unfold mk1 rootT
    by_cases hx : x = 1 <;> simp [hx]
  · have hGq : G = q := Option.some.inj hq
    subst hGq
    rcases e with e | e | e
    · exact own_ne_map ho h0.cl e
    · exact own_ne_map ho h0.im e
    · exact own_ne_blk ho h0.men (by decide) e

theorem pass2_c (hR : RepOk g f d) (hf : ∀ k, f k < 256) (hN : N = g.total * 1024) (L : Lo w b X CB IB G capo) (W : World) (hK : Kp g b o N cap w W PB YB X q5) (h1 : Pa1 g b o N cap (repC g f) (mk1 g f d) f X CB IB G capo W) (ho : OwnG b N G capo f W) :
    Calls Tryz.prog 29 #[.pointer (some ⟨YB, 0, none⟩)] W fun e w' => e = .returned (.tuple #[]) ∧ Kp g b o N cap w w' PB YB X q5 ∧ Pa2 g b o N cap (repD g f d) f X CB IB G capo w' ∧ OwnG b N G capo (putF f (d * 1024) 1024 (pbF (repD g f d).E 32)) w' := by
  obtain ⟨B, gw, capw, hcw, hM, hcell⟩ := h1
  have hd : d < g.total := by
    have h3 := keepR_sub g 1 (fun _ => false) (ptrsI (inoAt g f 1)) ([], fun _ => false) (fun p hp => by cases hp) ⟨0, 0, 0, d⟩ (by
      have := hR.keep
      unfold keepR at this
      rw [this]; simp)
    exact (Geo.dOk_iff.1 h3.2).2.1
  have DC : ∀ W2 way', MS W2 g b o N cap f X CB IB 10 (.slice (some ⟨G, 0, none⟩) N capo) way' (repC g f) (mk1 g f d) 1 B → W2.ownsRow (b + 1) 5 1 (.slice (some ⟨G, 0, none⟩) N capo) N (bytesL f N) →
      Calls Tryz.prog 30 #[.pointer (some ⟨X, 0, none⟩), .pointer (some ⟨B, 0, none⟩)] W2 fun e w' => e = .returned (.tuple #[]) ∧ MS w' g b o N cap f X CB IB (10 + 320) (.slice (some ⟨G, 0, none⟩) N capo) way' (repD g f d).c (repD g f d).ins 1 B ∧ w'.ownsRow (b + 1) 5 1 (.slice (some ⟨G, 0, none⟩) N capo) N (bytesL (putF f (d * 1024) 1024 (pbF (repD g f d).E 32)) N) ∧ Mods (fun i => DMods W2 X CB IB i ∨ i = G) W2 w' := fun W2 way' hM2 ho2 =>
    dir_c g b o N cap f X CB IB 10 way' (repC g f) (mk1 g f d) 1 B G capo d f (rootT g f d) W2 hM2 (by decide) (if_pos rfl) rfl hR.size rfl hd ⟨by decide, by decide⟩ ⟨Nat.one_pos, (by decide : (1 : Nat) < 4294967296)⟩ hN ho2 L.k (rootE f d) rfl (fun j _ => blkE_ok _ (fun j => hf _) j) hR.ent (repD g f d) rfl
  refine (rep1_c g b o N cap f X CB IB 10 gw capw (repC g f) (mk1 g f d) 1 B G capo d YB f (putF f (d * 1024) 1024 (pbF (repD g f d).E 32)) (repD g f d) W hM hK.yb hcell hcw ho DC).mono ?_
  rintro e w' ⟨rfl, A, k, hM2, ho2, hm⟩
  obtain ⟨adr, tk, hA, hi, ha⟩ := hM
  refine ⟨rfl, hK.mods hm fun q hq hql => ?_, ⟨B, A, k, hM2⟩, ho2⟩
  have hLx := L.x
  rcases hq with (rfl | rfl | ⟨⟨ys0, fr0, hh0⟩, hXi⟩ | hq) | rfl | rfl
  · exact ⟨L.c, fun ys e fr hh => (not_map hA.cl hh).elim⟩
  · exact ⟨L.i, fun ys e fr hh => (not_map hA.im hh).elim⟩
  · refine ⟨by omega, fun ys e fr hh => ?_⟩
    rw [cells_eq hh0 hh]; decide
  · omega
  · refine ⟨L.g, fun ys e fr hh => ?_⟩
    obtain ⟨ys1, fr1, ht⟩ := own_tag ho
    rw [cells_eq ht hh]; decide
  · refine ⟨L.x, fun ys e fr hh => ?_⟩
    rw [men_tag hA hh]; decide
theorem kp_own {W w' : World} {fo : Nat → Nat} (hK : Kp g b o N cap w W PB YB X q5) (L : Lo w b X CB IB G capo) (ho : OwnG b N G capo fo W) (hm : Mods (fun k => k = G) W w') : Kp g b o N cap w w' PB YB X q5 :=
  hK.mods hm fun q hq hql => by
    subst hq
    refine ⟨L.g, fun ys e fr hh => ?_⟩
    obtain ⟨ys1, fr1, ht⟩ := own_tag ho
    rw [cells_eq ht hh]; decide
theorem pa2_own {D : DS} {W w' : World} {fo : Nat → Nat} (h2 : Pa2 g b o N cap D f X CB IB G capo W) (L : Lo w b X CB IB G capo) (ho : OwnG b N G capo fo W) (hm : Mods (fun k => k = G) W w') : Pa2 g b o N cap D f X CB IB G capo w' := by
  obtain ⟨B, A, k, hM⟩ := h2
  obtain ⟨adr, tk, hA, hi, ha⟩ := id hM
  have hb := L.b; have hg := L.g
  obtain ⟨ys1, fr1, ht⟩ := own_tag ho
  refine ⟨B, A, k, hM.keep hm (fun e => by omega) (fun e => own_ne_blk ho hA.men (by decide) e.symm) (fun e => own_ne_map ho hA.cl e.symm) (fun e => own_ne_map ho hA.im e.symm) fun q hq hql ⟨ys, fr, hh⟩ => ?_⟩
  subst hq
  rcases hh with hh | hh <;> exact absurd (cells_eq ht hh) (by decide)

theorem pass3_c {D : DS} (hds : DsOk g D) (hN : N = g.total * 1024) (L : Lo w b X CB IB G capo) (W : World) (fo : Nat → Nat) (hK : Kp g b o N cap w W PB YB X q5) (h2 : Pa2 g b o N cap D f X CB IB G capo W) (ho : OwnG b N G capo fo W) :
    Calls Tryz.prog 31 #[.pointer (some ⟨X, 0, none⟩)] W fun e w' => e = .returned (.tuple #[]) ∧ Kp g b o N cap w w' PB YB X q5 ∧ Pa2 g b o N cap D f X CB IB G capo w' ∧ OwnG b N G capo (inosF g D.ins fo g.inodes) w' := by
  obtain ⟨B, A, k, adr, tk, hA, hi, ha⟩ := id h2
  refine (xinodes_c g b o N cap f X CB IB 330 G capo _ _ adr tk D.ins fo W hA hi hN L.k ho (fun x t e => (hds.t x t e).1)).mono ?_
  rintro e w' ⟨rfl, ho2, hm⟩
  exact ⟨rfl, kp_own hK L ho hm, pa2_own h2 L ho hm, ho2⟩

theorem pass4_c {D : DS} (hone : g.gr = 1) (hds : DsOk g D) (hN : N = g.total * 1024) (L : Lo w b X CB IB G capo) (W : World) (fo : Nat → Nat) (hK : Kp g b o N cap w W PB YB X q5) (h2 : Pa2 g b o N cap D f X CB IB G capo W) (ho : OwnG b N G capo fo W) :
    Calls Tryz.prog 32 #[.pointer (some ⟨X, 0, none⟩)] W fun e w' => e = .returned (.tuple #[]) ∧ Kp g b o N cap w w' PB YB X q5 ∧ Pa2 g b o N cap D f X CB IB G capo w' ∧ OwnG b N G capo (putF fo 1024 1024 (headP g (fun i => (D.ins (i + 1)).isSome) (fun n => D.c (g.data n)))) w' := by
  obtain ⟨B, A, k, adr, tk, hA, hi, ha⟩ := id h2
  refine (heads_c g hone b o N cap f X CB IB 330 G capo _ _ adr tk fo W hA hN L.k ho (fun x B e => (hds.t x (tk x) (by rw [hi, e]; rfl)).2) (fun p hp => hds.c p hp)).mono ?_
  rintro e w' ⟨rfl, fi, fd, _, _, h3, h4, ho2, hm⟩
  refine ⟨rfl, kp_own hK L ho hm, pa2_own h2 L ho hm, ?_⟩
  have e1 : headF g 0 fi fd = headP g (fun i => (D.ins (i + 1)).isSome) (fun n => D.c (g.data n)) := headF_P (fun i hi2 => by rw [h3 i hi2, hi]; cases adr (i + 1) <;> rfl) h4
  rw [← e1]
  exact ho2
end
end Go.Proofs.YtbeabehebenocaaGreatDoor
end
