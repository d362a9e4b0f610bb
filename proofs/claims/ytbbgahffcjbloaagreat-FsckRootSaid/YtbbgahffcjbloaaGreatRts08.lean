/- Part of the road to RootRow: RStays2. -/
import Derived.Deep.DeepCutAuto
import Derived.Test.YtbbgahffcjbloaaGreatRts07
import Derived.Test.YtbbgahffcjbloaaGreatTws08
set_option linter.all false
set_option linter.unusedSimpArgs false
set_option linter.unusedVariables false
set_option linter.unusedSectionVars false
section
/- The reference's repair: an entry that may stay. -/
namespace Go.Proofs.YtbbgahffcjbloaaGreat
open Go.RowKit

/-- an inode's links -/
def upL (T : Nat → Option RT) (x : Nat) : Nat → Option RT := fun y => if y = x then (T x).map fun t => { t with i := setL (t.i 1 + 1) t.i } else T y
/-- an entry that is not bad: it stays with what is taken in then, or not -/
def stayR (g : Geo) (f : Nat → Nat) (S : RSt) (dr x : Nat) : Option RSt :=
  if inoAt g f x 0 = 0 then none
  else if inoAt g f x 0 = 2 then none
  else
    let S1 : RSt := if S.T x = none then { S with c := (cleanF g S.c (inoAt g f x)).2, T := fun y => if y = x then some ⟨setL 0 (cleanF g S.c (inoAt g f x)).1, [], dr, []⟩ else S.T y } else S
    match S1.T x with
    | some t => if 32000 ≤ t.i 1 then none else some { S1 with T := upL S1.T x }
    | none => none
/-- an inode's links go up by one -/
theorem RS.linked {g : Geo} {f : Nat → Nat} {L : RLoc} {w : World} {lb : Lab} {adr : Nat → Option Nat} {S : RSt} (h : RS g f L w lb adr S) {x B : Nat} {t : RT} (hx : adr x = some B) (ht : S.T x = some t) {u : Value} (hu : u = .int .i64 ((t.i 1 + 1 : Nat) : Int)) :
    RS g f L (w.setCell ⟨B, 1, none⟩ u) lb adr { S with T := upL S.T x } ∧ Mods (fun k => k = B) w (w.setCell ⟨B, 1, none⟩ u) := by
  subst hu
  have hm := set_mods w B 1 (.int .i64 ((t.i 1 + 1 : Nat) : Int))
  refine ⟨?_, hm⟩
  obtain ⟨dv, lv, dvs, hO⟩ := h.obj x B t hx ht
  have x1 := (h.in_ x (by rw [ht]; simp)).1
  have hl : ∀ k p, k = B → lb k = p → p = (x, 0) := fun k p e q => by rw [e, hO.lab] at q; exact q.symm
  have nz : ∀ q : Nat, ((0, q) : Nat × Nat) ≠ (x, 0) := fun q e => by have := congrArg Prod.fst e; simp at this; omega
  obtain ⟨ov, h1, h2⟩ := h.rp
  refine ⟨⟨ov, h1.mods hm fun e => nz _ (hl _ _ e h.lR), h2.step hm (Ext.refl _ _) fun k e _ q => nz _ (hl _ _ e q)⟩, h.dk.mods hm fun e => nz _ (hl _ _ e h.lD), { h.img with rd := fun k hk => (hm.cell h.img.lt fun e => nz _ (hl _ _ e h.lI)).trans (h.img.rd k hk) }, h.cl.mods hm fun e => nz _ (hl _ _ e h.lC), h.tt.mods hm fun e => nz _ (hl _ _ e h.lT), fun y => ?_, fun y B' t' a b => ?_, fun y hy => h.in_ y fun e => hy ?_, h.lR, h.lD, h.lC, h.lT, h.lI, fun k hk => h.hi k (by rw [size_set] at hk; exact hk)⟩
  · show adr y = none ↔ upL S.T x y = none
    unfold upL
    by_cases e : y = x
    · rw [if_pos e, e, hx, ht]; simp
    · rw [if_neg e]; exact h.nn y
  · replace b : upL S.T x y = some t' := b
    unfold upL at b
    by_cases e : y = x
    · rw [if_pos e, ht] at b
      rw [e, hx] at a
      cases a
      have bb : t' = { t with i := setL (t.i 1 + 1) t.i } := by simpa using b.symm
      subst bb
      rw [e]
      have own : ∀ p e' size v n xs, LRow w lb p e' size v n xs → p ≠ (x, 0) → LRow (w.setCell ⟨B, 1, none⟩ (.int .i64 ((t.i 1 + 1 : Nat) : Int))) lb p e' size v n xs := fun p e' size v n xs hr hp => hr.step hm (Ext.refl _ _) fun k e _ q => hp (hl _ _ e q)
      exact ⟨dv, lv, dvs, ⟨hO.blk.set 1 _, hO.lab, own _ _ _ _ _ _ hO.lead (by simp), own _ _ _ _ _ _ hO.dir (by simp), hO.len, fun b v d c1 c2 => own _ _ _ _ _ _ (hO.row b v d c1 c2) (by simp)⟩⟩
    · rw [if_neg e] at b
      obtain ⟨d, l, ds, ho⟩ := h.obj y B' t' a b
      exact ⟨d, l, ds, ho.step hm (Ext.refl _ _) fun k c1 _ c2 => by rw [c1, hO.lab] at c2; exact e c2.symm⟩
  · show upL S.T x y = none
    unfold upL
    by_cases q : y = x
    · rw [q, ht] at e; cases e
    · rw [if_neg q]; exact e
theorem keepE {w w' : World} {R D x : Nat} {s : ByteArray} (lR : R < w.heap.size) (c0 : w.cell? ⟨R, 0, none⟩ = some (.pointer (some ⟨D, 0, none⟩))) (hk : Blk 59 w' w.heap.size [.int .i64 (x : Int), .string s]) (hb : Below w.heap.size w w') :
    w'.cell? ⟨R, 0, none⟩ = some (.pointer (some ⟨D, 0, none⟩)) ∧ w'.cell? ⟨w.heap.size, 0, none⟩ = some (.int .i64 (x : Int)) ∧ Blk 59 w' w.heap.size [.int .i64 (x : Int), .string s] ∧ w.heap.size < w'.heap.size ∧ Below w.heap.size w w' :=
  ⟨(hb.cell (p := ⟨R, 0, none⟩) lR).trans c0, hk.cell 0, hk, hk.lt, hb⟩
theorem cutE13 {w w2 : World} {x A : Nat} {s : ByteArray} {i j : InoN} (hk : Blk 59 w2 w.heap.size [.int .i64 (x : Int), .string s]) (hb : Below w.heap.size w w2) (hI : Blk 56 w2 A (inoL j)) (hA : w.heap.size < A) :
    Blk 56 (((((((((((((w2.setCell ⟨A, 0, none⟩ (.int .i64 (i 0 : Nat))).setCell ⟨A, 1, none⟩ (.int .i64 (i 1 : Nat))).setCell ⟨A, 2, none⟩ (.int .i64 (i 2 : Nat))).setCell ⟨A, 3, none⟩ (.int .i64 (i 3 : Nat))).setCell ⟨A, 4, none⟩ (.int .i64 (i 4 : Nat))).setCell ⟨A, 5, none⟩ (.int .i64 (i 5 : Nat))).setCell ⟨A, 6, none⟩ (.int .i64 (i 6 : Nat))).setCell ⟨A, 7, none⟩ (.int .i64 (i 7 : Nat))).setCell ⟨A, 8, none⟩ (.int .i64 (i 8 : Nat))).setCell ⟨A, 9, none⟩ (.int .i64 (i 9 : Nat))).setCell ⟨A, 10, none⟩ (.int .i64 (i 10 : Nat))).setCell ⟨A, 11, none⟩ (.int .i64 (i 11 : Nat))).setCell ⟨A, 12, none⟩ (.int .i64 (i 12 : Nat))) A (inoL i) ∧ Blk 59 (((((((((((((w2.setCell ⟨A, 0, none⟩ (.int .i64 (i 0 : Nat))).setCell ⟨A, 1, none⟩ (.int .i64 (i 1 : Nat))).setCell ⟨A, 2, none⟩ (.int .i64 (i 2 : Nat))).setCell ⟨A, 3, none⟩ (.int .i64 (i 3 : Nat))).setCell ⟨A, 4, none⟩ (.int .i64 (i 4 : Nat))).setCell ⟨A, 5, none⟩ (.int .i64 (i 5 : Nat))).setCell ⟨A, 6, none⟩ (.int .i64 (i 6 : Nat))).setCell ⟨A, 7, none⟩ (.int .i64 (i 7 : Nat))).setCell ⟨A, 8, none⟩ (.int .i64 (i 8 : Nat))).setCell ⟨A, 9, none⟩ (.int .i64 (i 9 : Nat))).setCell ⟨A, 10, none⟩ (.int .i64 (i 10 : Nat))).setCell ⟨A, 11, none⟩ (.int .i64 (i 11 : Nat))).setCell ⟨A, 12, none⟩ (.int .i64 (i 12 : Nat))) w.heap.size [.int .i64 (x : Int), .string s] ∧ Below w.heap.size w (((((((((((((w2.setCell ⟨A, 0, none⟩ (.int .i64 (i 0 : Nat))).setCell ⟨A, 1, none⟩ (.int .i64 (i 1 : Nat))).setCell ⟨A, 2, none⟩ (.int .i64 (i 2 : Nat))).setCell ⟨A, 3, none⟩ (.int .i64 (i 3 : Nat))).setCell ⟨A, 4, none⟩ (.int .i64 (i 4 : Nat))).setCell ⟨A, 5, none⟩ (.int .i64 (i 5 : Nat))).setCell ⟨A, 6, none⟩ (.int .i64 (i 6 : Nat))).setCell ⟨A, 7, none⟩ (.int .i64 (i 7 : Nat))).setCell ⟨A, 8, none⟩ (.int .i64 (i 8 : Nat))).setCell ⟨A, 9, none⟩ (.int .i64 (i 9 : Nat))).setCell ⟨A, 10, none⟩ (.int .i64 (i 10 : Nat))).setCell ⟨A, 11, none⟩ (.int .i64 (i 11 : Nat))).setCell ⟨A, 12, none⟩ (.int .i64 (i 12 : Nat))) := by
  have h1 := put13_blk (i := i) hI
  have h2 := put13_other (B := A) i hk (by omega)
  have h3 := hb.trans (put13_below w2 i (by omega : w.heap.size ≤ A))
  unfold put13 at h1 h2 h3
  exact ⟨h1, h2, h3⟩
theorem keepE13 {w w2 : World} {R D x A : Nat} {s : ByteArray} {i : InoN} (lR : R < w.heap.size) (c0 : w.cell? ⟨R, 0, none⟩ = some (.pointer (some ⟨D, 0, none⟩))) (hk : Blk 59 w2 w.heap.size [.int .i64 (x : Int), .string s]) (hb : Below w.heap.size w w2) (hA : w.heap.size < A) :
    (((((((((((((w2.setCell ⟨A, 0, none⟩ (.int .i64 (i 0 : Nat))).setCell ⟨A, 1, none⟩ (.int .i64 (i 1 : Nat))).setCell ⟨A, 2, none⟩ (.int .i64 (i 2 : Nat))).setCell ⟨A, 3, none⟩ (.int .i64 (i 3 : Nat))).setCell ⟨A, 4, none⟩ (.int .i64 (i 4 : Nat))).setCell ⟨A, 5, none⟩ (.int .i64 (i 5 : Nat))).setCell ⟨A, 6, none⟩ (.int .i64 (i 6 : Nat))).setCell ⟨A, 7, none⟩ (.int .i64 (i 7 : Nat))).setCell ⟨A, 8, none⟩ (.int .i64 (i 8 : Nat))).setCell ⟨A, 9, none⟩ (.int .i64 (i 9 : Nat))).setCell ⟨A, 10, none⟩ (.int .i64 (i 10 : Nat))).setCell ⟨A, 11, none⟩ (.int .i64 (i 11 : Nat))).setCell ⟨A, 12, none⟩ (.int .i64 (i 12 : Nat))).cell? ⟨R, 0, none⟩ = some (.pointer (some ⟨D, 0, none⟩)) ∧ (((((((((((((w2.setCell ⟨A, 0, none⟩ (.int .i64 (i 0 : Nat))).setCell ⟨A, 1, none⟩ (.int .i64 (i 1 : Nat))).setCell ⟨A, 2, none⟩ (.int .i64 (i 2 : Nat))).setCell ⟨A, 3, none⟩ (.int .i64 (i 3 : Nat))).setCell ⟨A, 4, none⟩ (.int .i64 (i 4 : Nat))).setCell ⟨A, 5, none⟩ (.int .i64 (i 5 : Nat))).setCell ⟨A, 6, none⟩ (.int .i64 (i 6 : Nat))).setCell ⟨A, 7, none⟩ (.int .i64 (i 7 : Nat))).setCell ⟨A, 8, none⟩ (.int .i64 (i 8 : Nat))).setCell ⟨A, 9, none⟩ (.int .i64 (i 9 : Nat))).setCell ⟨A, 10, none⟩ (.int .i64 (i 10 : Nat))).setCell ⟨A, 11, none⟩ (.int .i64 (i 11 : Nat))).setCell ⟨A, 12, none⟩ (.int .i64 (i 12 : Nat))).cell? ⟨w.heap.size, 0, none⟩ = some (.int .i64 (x : Int)) ∧ Blk 59 (((((((((((((w2.setCell ⟨A, 0, none⟩ (.int .i64 (i 0 : Nat))).setCell ⟨A, 1, none⟩ (.int .i64 (i 1 : Nat))).setCell ⟨A, 2, none⟩ (.int .i64 (i 2 : Nat))).setCell ⟨A, 3, none⟩ (.int .i64 (i 3 : Nat))).setCell ⟨A, 4, none⟩ (.int .i64 (i 4 : Nat))).setCell ⟨A, 5, none⟩ (.int .i64 (i 5 : Nat))).setCell ⟨A, 6, none⟩ (.int .i64 (i 6 : Nat))).setCell ⟨A, 7, none⟩ (.int .i64 (i 7 : Nat))).setCell ⟨A, 8, none⟩ (.int .i64 (i 8 : Nat))).setCell ⟨A, 9, none⟩ (.int .i64 (i 9 : Nat))).setCell ⟨A, 10, none⟩ (.int .i64 (i 10 : Nat))).setCell ⟨A, 11, none⟩ (.int .i64 (i 11 : Nat))).setCell ⟨A, 12, none⟩ (.int .i64 (i 12 : Nat))) w.heap.size [.int .i64 (x : Int), .string s] ∧ w.heap.size < (((((((((((((w2.setCell ⟨A, 0, none⟩ (.int .i64 (i 0 : Nat))).setCell ⟨A, 1, none⟩ (.int .i64 (i 1 : Nat))).setCell ⟨A, 2, none⟩ (.int .i64 (i 2 : Nat))).setCell ⟨A, 3, none⟩ (.int .i64 (i 3 : Nat))).setCell ⟨A, 4, none⟩ (.int .i64 (i 4 : Nat))).setCell ⟨A, 5, none⟩ (.int .i64 (i 5 : Nat))).setCell ⟨A, 6, none⟩ (.int .i64 (i 6 : Nat))).setCell ⟨A, 7, none⟩ (.int .i64 (i 7 : Nat))).setCell ⟨A, 8, none⟩ (.int .i64 (i 8 : Nat))).setCell ⟨A, 9, none⟩ (.int .i64 (i 9 : Nat))).setCell ⟨A, 10, none⟩ (.int .i64 (i 10 : Nat))).setCell ⟨A, 11, none⟩ (.int .i64 (i 11 : Nat))).setCell ⟨A, 12, none⟩ (.int .i64 (i 12 : Nat))).heap.size ∧ Below w.heap.size w (((((((((((((w2.setCell ⟨A, 0, none⟩ (.int .i64 (i 0 : Nat))).setCell ⟨A, 1, none⟩ (.int .i64 (i 1 : Nat))).setCell ⟨A, 2, none⟩ (.int .i64 (i 2 : Nat))).setCell ⟨A, 3, none⟩ (.int .i64 (i 3 : Nat))).setCell ⟨A, 4, none⟩ (.int .i64 (i 4 : Nat))).setCell ⟨A, 5, none⟩ (.int .i64 (i 5 : Nat))).setCell ⟨A, 6, none⟩ (.int .i64 (i 6 : Nat))).setCell ⟨A, 7, none⟩ (.int .i64 (i 7 : Nat))).setCell ⟨A, 8, none⟩ (.int .i64 (i 8 : Nat))).setCell ⟨A, 9, none⟩ (.int .i64 (i 9 : Nat))).setCell ⟨A, 10, none⟩ (.int .i64 (i 10 : Nat))).setCell ⟨A, 11, none⟩ (.int .i64 (i 11 : Nat))).setCell ⟨A, 12, none⟩ (.int .i64 (i 12 : Nat))) := by
  have h := keepE lR c0 (put13_other i hk (by omega)) (hb.trans (put13_below w2 i (by omega : w.heap.size ≤ A)))
  unfold put13 at h
  exact h
set_option maxRecDepth 1000000 in
set_option maxHeartbeats 4000000 in
theorem rstays_ok (g : Geo) (f : Nat → Nat) (L : RLoc) (w : World) (lb : Lab) (adr : Nat → Option Nat) (S : RSt) (h : RS g f L w lb adr S) (dr B : Nat) (t : RT) (hd : adr dr = some B) (ht : S.T dr = some t) (x : Nat) (s : ByteArray) (hb : badN (nmR t) x s = false) (hP : S.T x = none → Plain g f x) :
    Calls Tryz.prog 100 #[.pointer (some ⟨L.R, 0, none⟩), .int .i64 dr, .agg #[.int .i64 x, .string s]] w fun e w' => (stayR g f S dr x = none → e = .returned (.bool false) ∧ Below w.heap.size w w') ∧ ∀ S', stayR g f S dr x = some S' → e = .returned (.bool true) ∧ RPost g f L w lb adr w' S' := by
  obtain ⟨ov, hRp, hov⟩ := h.rp
  have c2 := hRp.cell 2; have c0 := hRp.cell 0
  simp only [List.getElem?_cons_zero, List.getElem?_cons_succ] at c2 c0
  have lR := hRp.lt; have lT := h.tt.lt; have lD := h.dk.lt
  have kdr : dr < g.inodes + 1 := by have := (h.in_ dr (by rw [ht]; simp)).2; omega
  have ctx := h.tt.cell dr
  rw [adrL_get _ _ _ kdr, hd] at ctx
  simp only [Option.map_some] at ctx
  obtain ⟨dv, lv, dvs, hT⟩ := h.obj dr B t hd ht
  have NM := rnamed_c _ lb dr B t dv lv dvs (hT.step (mods_of_below (s := fun _ => False) ((Below.refl _ w).alloc (Nat.le_refl _) (.cells #[.int .i64 (x : Int), .string s] 59))) (Ext.refl _ _) (fun k e => e.elim)) s
  obtain ⟨e0, e1, e2, e3, e4, e5⟩ := badN_no hb
  unfold nmR at e5
  rw [e5] at NM
  obtain ⟨I, hI⟩ : ∃ I, I = inoAt g f x := ⟨_, rfl⟩
  have RI := fun W (hb : Below w.heap.size w W) => rinode_c g L.D L.b L.o L.N L.cap x f W (h.img.below hb h.img.lt) (h.dk.below hb lD)
  rw [← hI] at RI
  unfold inoV at RI
  have HNM := Lib.hid NM; have HRI := Lib.hid RI; have H := Lib.hid h; have HI := Lib.hid hI
  have S0 : Blk 59 (w.alloc (.cells #[.int .i64 (x : Int), .string s] 59)) w.heap.size [.int .i64 (x : Int), .string s] := Blk.newL _
  clear NM RI hT hRp hov h hd ht e5 hI hb
  go_enter Tryz.func100, Tryz.ntmps100
  go_upto_region 5 with (go_at_call 124; refine HNM.out.mono ?_; rintro e w2 ⟨rfl, rfl⟩)
  go_cut [9, 10] (fun s9 s10 wx => ∃ A z, s9 = .pointer (some ⟨A, 0, none⟩) ∧ s10 = .bool z ∧ w.heap.size < A ∧ Blk 56 wx A (inoL I) ∧ Blk 59 wx w.heap.size [.int .i64 (x : Int), .string s] ∧ Below w.heap.size w wx)
  case first =>
    go_region_held3 (fun w' => w'.cell? ⟨L.R, 0, none⟩ = some (.pointer (some ⟨L.D, 0, none⟩)) ∧ w'.cell? ⟨w.heap.size, 0, none⟩ = some (.int .i64 (x : Int)) ∧ Blk 59 w' w.heap.size [.int .i64 (x : Int), .string s] ∧ w.heap.size < w'.heap.size ∧ Below w.heap.size w w')
      (first
        | with_reducible exact keepE lR c0 S0.drew ((Below.refl _ _).alloc (Nat.le_refl _) _).drew
        | with_reducible exact keepE lR c0 (S0.alloc _).drew (((Below.refl _ _).alloc (Nat.le_refl _) _).alloc (by simp) _).drew
        | with_reducible exact keepE lR c0 hk2 hbw2
        | with_reducible exact keepE lR c0 (hk2.alloc _) (hbw2.alloc (by omega) _)
        | with_reducible exact keepE13 lR c0 hk2 hbw2 (by omega)
        | go_keep)
      (first | (go_at_call 32; go_split_ands; with_reducible refine (HRI.out _ (by assumption)).mono ?_; rintro e w2 ⟨rfl, hb2⟩; obtain ⟨hc2, hf2⟩ := bcell hb2; have hz2 := hb2.size; (have hk2 : Blk 59 w2 w.heap.size [.int .i64 (x : Int), .string s] := Blk.below (by assumption) hb2 (by assumption)); (have hbw2 : Below w.heap.size w w2 := Below.trans (by assumption) (hb2.mono (by omega)))))
    all_goals
      go_wp2_with fail
      go_meet
    · exact ⟨_, _, rfl, rfl, by omega, Blk.newL _, hk2.alloc _, hbw2.alloc (by omega) _⟩
    · refine ⟨_, _, rfl, rfl, by omega, ?_⟩
      with_reducible exact cutE13 hk2 hbw2 (((Blk.snd (e := 56) (w := w) (.cells #[.int .i64 (x : Int), .string s] 59) (inoL noIno)).drew).below hb2 (by simp)) (by omega)
  case rest =>
    obtain ⟨A, z, rfl, rfl, hA, hkI, hkE, hB⟩ := hcut
    have hz := hB.size
    have y0 := hkI.cell 0
    rw [inoL_get _ _ (by omega)] at y0
    have lA := hkI.lt; have lE := hkE.lt
    have ue0 : wc.cell? ⟨w.heap.size, 0, none⟩ = some (.int .i64 (x : Int)) := hkE.cell 0
    have hstay : stayR g f S dr x = if I 0 = 0 then none else if I 0 = 2 then none else
        match (if S.T x = none then { S with c := (cleanF g S.c I).2, T := fun y => if y = x then some ⟨setL 0 (cleanF g S.c I).1, [], dr, []⟩ else S.T y } else S : RSt).T x with
        | some t => if 32000 ≤ t.i 1 then none else some { (if S.T x = none then { S with c := (cleanF g S.c I).2, T := fun y => if y = x then some ⟨setL 0 (cleanF g S.c I).1, [], dr, []⟩ else S.T y } else S : RSt) with T := upL (if S.T x = none then { S with c := (cleanF g S.c I).2, T := fun y => if y = x then some ⟨setL 0 (cleanF g S.c I).1, [], dr, []⟩ else S.T y } else S : RSt).T x }
        | none => none := by rw [HI.out]; rfl
    by_cases k0 : I 0 = 0
    · have hs : stayR g f S dr x = none := by rw [hstay, if_pos k0]
      have t0 : (((I 0 : Nat) : Int) == 0) = true := by simp [k0]
      have HS := Lib.hid hs; have HB := Lib.hid hB
      clear hs hstay hB hkI hkE k0
      go_wp2_with fail
      go_ret
      exact ⟨fun _ => ⟨rfl, HB.out⟩, fun S' h => by rw [HS.out] at h; cases h⟩
    rw [if_neg k0] at hstay
    have tk0 : (((I 0 : Nat) : Int) == 0) = false := by simpa using k0
    obtain ⟨hgood, hk2⟩ := inoAt_kind (g := g) (f := f) (x := x) (by rw [← HI.out]; exact k0)
    have hx1 : 1 ≤ x ∧ x ≤ g.inodes := by
      simp only [inoGood, Bool.and_eq_true] at hgood
      exact Geo.iOk_iff.1 hgood.1
    have kx : x < g.inodes + 1 := by omega
    have kxi : (x : Int) < (g.inodes : Int) + 1 := by omega
    obtain ⟨ov, hRp, hov⟩ := H.out.rp
    have r2 : wc.cell? ⟨L.R, 2, none⟩ = some (.slice (some ⟨L.TB, 0, none⟩) (g.inodes + 1) L.tc) := (hRp.below hB lR).cell 2
    have tx := (H.out.tt.below hB lT).cell x
    rw [adrL_get _ _ _ kx] at tx
    clear hRp hov
    by_cases k2 : I 0 = 2
    · have hs : stayR g f S dr x = none := by rw [hstay, if_pos k2]
      have t2 : (((I 0 : Nat) : Int) == 2) = true := by simp [k2]
      have hin : S.T x ≠ none := fun e => (hP e).1 (by rw [← HI.out]; exact k2)
      obtain ⟨Bx, hBx⟩ : ∃ Bx, adr x = some Bx := by
        cases hq : adr x with
        | none => exact absurd ((H.out.nn x).1 hq) hin
        | some Bx => exact ⟨Bx, rfl⟩
      rw [hBx] at tx
      simp only [Option.map_some] at tx
      have HS := Lib.hid hs; have HB := Lib.hid hB
      clear hs hstay hB hkI hkE k0 k2 hin hBx hgood hk2 hP
      go_wp2_with fail
      refine wp_region_held_drew (S := fun (w' : World) => w'.cell? ⟨L.R, 2, none⟩ = some (.slice (some ⟨L.TB, 0, none⟩) (g.inodes + 1) L.tc) ∧ w'.cell? ⟨w.heap.size, 0, none⟩ = some (.int .i64 (x : Int)) ∧ w'.cell? ⟨L.TB, x, none⟩ = some (.pointer (some ⟨Bx, 0, none⟩))) (by kernel_rfl) ⟨r2, ue0, tx⟩ (fun hHeld => ?_)
      refine tkA (i := 0) (oi := ⟨_, _, _, _, _, _⟩) ?_
      simp only [putA, List.set]
      refine tkA (i := 1) (oi := ⟨_, _, _, _, _, _⟩) ?_
      simp only [putA, List.set]
      refine tkA (i := 2) (oi := ⟨_, _, _, _, _, _⟩) ?_
      simp only [putA, List.set]
      refine tkA (i := 3) (oi := ⟨_, _, _, _, _, _⟩) ?_
      simp only [putA, List.set]
      refine tkA (i := 4) (oi := ⟨_, _, _, _, _, _⟩) ?_
      simp only [putA, List.set]
      refine tkA (i := 5) (oi := ⟨_, _, _, _, _, _⟩) ?_
      simp only [putA, List.set]
      refine tkA (i := 6) (oi := ⟨_, _, _, _, _, _⟩) ?_
      simp only [putA, List.set]
      refine tkA (i := 7) (oi := ⟨_, _, _, _, _, _⟩) ?_
      simp only [putA, List.set]
      refine tkA (i := 8) (oi := ⟨_, _, _, _, _, _⟩) ?_
      simp only [putA, List.set]
      refine tkA (i := 9) (oi := ⟨_, _, _, _, _, _⟩) ?_
      simp only [putA, List.set]
      refine wpAnyH_take (i := 10) (oi := ⟨_, _, _, _, _, _⟩) (v := undef) rfl (by kernel_rfl) (by kernel_rfl) (by kernel_rfl) (fun _ _ _ h => h) (Or.inr ⟨by kernel_rfl, rfl⟩) (by assumption) ?_
      simp only [Act.put, List.setIfInBounds_toArray, List.set_cons_zero, List.set_cons_succ]
      refine wpAnyH_take (i := 11) (oi := ⟨_, _, _, _, _, _⟩) (v := undef) rfl (by kernel_rfl) (by kernel_rfl) (by kernel_rfl) (fun _ _ _ h => h) (Or.inr ⟨by kernel_rfl, rfl⟩) (by assumption) ?_
      simp only [Act.put, List.setIfInBounds_toArray, List.set_cons_zero, List.set_cons_succ]
      refine wpAnyH_take (i := 12) (oi := ⟨_, _, _, _, _, _⟩) (v := undef) rfl (by kernel_rfl) (by kernel_rfl) (by kernel_rfl) (fun _ _ _ h => h) (Or.inr ⟨by kernel_rfl, rfl⟩) (by assumption) ?_
      simp only [Act.put, List.setIfInBounds_toArray, List.set_cons_zero, List.set_cons_succ]
      refine wpAnyH_take (i := 13) (oi := ⟨_, _, _, _, _, _⟩) (v := undef) rfl (by kernel_rfl) (by kernel_rfl) (by kernel_rfl) (fun _ _ _ h => h) (Or.inr ⟨by kernel_rfl, rfl⟩) (by assumption) ?_
      simp only [Act.put, List.setIfInBounds_toArray, List.set_cons_zero, List.set_cons_succ]
      refine wpAnyH_take (i := 14) (oi := ⟨_, _, _, _, _, _⟩) (v := undef) rfl (by kernel_rfl) (by kernel_rfl) (by kernel_rfl) (fun _ _ _ h => h) (Or.inr ⟨by kernel_rfl, rfl⟩) (by assumption) ?_
      simp only [Act.put, List.setIfInBounds_toArray, List.set_cons_zero, List.set_cons_succ]
      refine wpAnyH_take (i := 15) (oi := ⟨_, _, _, _, _, _⟩) (v := undef) rfl (by kernel_rfl) (by kernel_rfl) (by kernel_rfl) (fun _ _ _ h => h) (Or.inr ⟨by kernel_rfl, rfl⟩) (by assumption) ?_
      simp only [Act.put, List.setIfInBounds_toArray, List.set_cons_zero, List.set_cons_succ]
      refine tkA (i := 16) (oi := ⟨_, _, _, _, _, _⟩) ?_
      simp only [putA, List.set]
      refine wpAnyH_done (by kernel_rfl) ?_ _
      clear hHeld
      go_wp2_with fail
      go_ret
      exact ⟨fun _ => ⟨rfl, HB.out.drew⟩, fun S' h => by rw [HS.out] at h; cases h⟩
    rw [if_neg k2] at hstay
    have tk2 : (((I 0 : Nat) : Int) == 2) = false := by simp; omega
    obtain ⟨S1, hS1⟩ : ∃ S1 : RSt, S1 = if S.T x = none then { S with c := (cleanF g S.c I).2, T := fun y => if y = x then some ⟨setL 0 (cleanF g S.c I).1, [], dr, []⟩ else S.T y } else S := ⟨_, rfl⟩
    rw [← hS1] at hstay
    have hnotE : ∀ lb' : Lab, Ext w lb lb' → ¬ Ours lb w.heap.size := fun _ _ e => e (H.out.hi _ (Nat.le_refl _))
    have TK : adr x = none → ∀ W, Below w.heap.size w W → Calls Tryz.prog 97 #[.pointer (some ⟨L.R, 0, none⟩), .int .i64 x, .int .i64 dr] W fun e w' => e = .returned (.bool true) ∧ RPost g f L w lb adr w' S1 ∧ Mods (Ours lb) W w' := fun hn W hb => by
      have hTn := (H.out.nn x).1 hn
      obtain ⟨p0, p1, p2⟩ := hP hTn
      refine (rtakef_c g f L W lb adr S (H.out.below hb) x dr hx1 hn (by rw [← HI.out]; exact k2) p1 p2).mono ?_
      rintro e w' ⟨h1, h2⟩
      rw [hS1, if_pos hTn, HI.out]
      have h3 := h2
      obtain ⟨_, _, _, _, _, h6⟩ := h3
      exact ⟨h1, h2.of_below hb H.out.hi, h6⟩
    have HTK := Lib.hid TK; have HS1 := Lib.hid hS1; have HST := Lib.hid hstay; have HB := Lib.hid hB; have HE := Lib.hid hkE
    clear TK hS1 hstay hB hkE hkI k0 k2 hP hgood hk2 hnotE
    cases hax : adr x with
    | none =>
      rw [hax] at tx
      simp only [Option.map_none] at tx
      have TKn := HTK.out hax
      have HTKn := Lib.hid TKn; have HAX := Lib.hid hax
      clear TKn hax
      go_wp2_with fail
      refine wp_region_held_drew (S := fun (w' : World) => w'.cell? ⟨L.R, 2, none⟩ = some (.slice (some ⟨L.TB, 0, none⟩) (g.inodes + 1) L.tc) ∧ w'.cell? ⟨w.heap.size, 0, none⟩ = some (.int .i64 (x : Int)) ∧ w'.cell? ⟨L.TB, x, none⟩ = some (.pointer none)) (by kernel_rfl) ⟨r2, ue0, tx⟩ (fun hHeld => ?_)
      refine tkA (i := 0) (oi := ⟨_, _, _, _, _, _⟩) ?_
      simp only [putA, List.set]
      refine tkA (i := 1) (oi := ⟨_, _, _, _, _, _⟩) ?_
      simp only [putA, List.set]
      refine tkA (i := 2) (oi := ⟨_, _, _, _, _, _⟩) ?_
      simp only [putA, List.set]
      refine tkA (i := 3) (oi := ⟨_, _, _, _, _, _⟩) ?_
      simp only [putA, List.set]
      refine tkA (i := 4) (oi := ⟨_, _, _, _, _, _⟩) ?_
      simp only [putA, List.set]
      refine tkA (i := 5) (oi := ⟨_, _, _, _, _, _⟩) ?_
      simp only [putA, List.set]
      refine tkA (i := 6) (oi := ⟨_, _, _, _, _, _⟩) ?_
      simp only [putA, List.set]
      refine tkA (i := 7) (oi := ⟨_, _, _, _, _, _⟩) ?_
      simp only [putA, List.set]
      refine tkA (i := 8) (oi := ⟨_, _, _, _, _, _⟩) ?_
      simp only [putA, List.set]
      refine wpAnyH_done (by kernel_rfl) ?_ _
      clear hHeld
      go_wp2_with (go_at_call 97; refine (HTKn.out _ HB.out.drew).mono ?_; rintro e W ⟨rfl, hP4, hm4⟩; have HP4 := Lib.hid hP4; have HM4 := Lib.hid hm4; clear hP4 hm4)
      obtain ⟨lb4, adr4, hS4, hx4, ha4, hM4⟩ := HP4.out
      have hE4 := HE.out.drew.mods HM4.out (fun e => e (H.out.hi _ (Nat.le_refl _)))
      have hTn := (H.out.nn x).1 HAX.out
      have hS1x : S1.T x = some ⟨setL 0 (cleanF g S.c I).1, [], dr, []⟩ := by rw [HS1.out, if_pos hTn]; exact if_pos rfl
      obtain ⟨Bx, hB4⟩ : ∃ Bx, adr4 x = some Bx := by
        cases hq : adr4 x with
        | none => have := (hS4.nn x).1 hq; rw [hS1x] at this; cases this
        | some Bx => exact ⟨Bx, rfl⟩
      have hn0 : ∀ t, S1.T x = some t → t.i 1 = 0 := fun t h => by rw [hS1x] at h; cases h; rfl
      have HN0 := Lib.hid hn0
      clear hTn hS1x hn0
      obtain ⟨t4, htx, hst⟩ : ∃ t4, S1.T x = some t4 ∧ stayR g f S dr x = if 32000 ≤ t4.i 1 then none else some { S1 with T := upL S1.T x } := by
        cases hq : S1.T x with
        | none => exact absurd ((hS4.nn x).2 hq) (by rw [hB4]; simp)
        | some t4 => exact ⟨t4, rfl, by rw [HST.out]; simp only [hq]⟩
      obtain ⟨dv4, lv4, dvs4, hO4⟩ := hS4.obj x Bx t4 hB4 htx
      obtain ⟨ov4, hRp4, hov4⟩ := hS4.rp
      have p2 : W.cell? ⟨L.R, 2, none⟩ = some (.slice (some ⟨L.TB, 0, none⟩) (g.inodes + 1) L.tc) := hRp4.cell 2
      have px := hS4.tt.cell x
      rw [adrL_get _ _ _ kx, hB4] at px
      simp only [Option.map_some] at px
      have p1 := hO4.blk.cell 1
      rw [inoL_more (by omega)] at p1
      have pe : W.cell? ⟨w.heap.size, 0, none⟩ = some (.int .i64 (x : Int)) := hE4.cell 0
      have pf1 := hO4.blk.frozen 1
      have lO := hO4.blk.lt; have lE4 := hE4.lt
      have nE : w.heap.size ≠ Bx := blkNe hE4 hO4.blk (by decide)
      obtain ⟨n4, hn4⟩ : ∃ n4, n4 = t4.i 1 := ⟨_, rfl⟩
      rw [← hn4] at p1 hst
      have HS4 := Lib.hid hS4; have HX4 := Lib.hid hx4; have HA4 := Lib.hid ha4; have HM4 := Lib.hid hM4; have HTX := Lib.hid htx; have HB4 := Lib.hid hB4; have HST2 := Lib.hid hst; have HO4 := Lib.hid hO4; have HN4 := Lib.hid hn4
      clear hS4 hx4 ha4 hM4 hE4 htx hst hO4 hRp4 hov4 hB4 hn4
      refine wp_region_held_drew (S := fun (w' : World) => w'.cell? ⟨L.R, 2, none⟩ = some (.slice (some ⟨L.TB, 0, none⟩) (g.inodes + 1) L.tc) ∧ w'.cell? ⟨w.heap.size, 0, none⟩ = some (.int .i64 (x : Int)) ∧ w'.cell? ⟨L.TB, x, none⟩ = some (.pointer (some ⟨Bx, 0, none⟩)) ∧ w'.cell? ⟨Bx, 1, none⟩ = some (.int .i64 (n4 : Nat))) (by kernel_rfl) ⟨p2, pe, px, p1⟩ (fun hHeld => ?_)
      refine tkA (i := 0) (oi := ⟨_, _, _, _, _, _⟩) ?_
      simp only [putA, List.set]
      refine tkA (i := 1) (oi := ⟨_, _, _, _, _, _⟩) ?_
      simp only [putA, List.set]
      refine tkA (i := 2) (oi := ⟨_, _, _, _, _, _⟩) ?_
      simp only [putA, List.set]
      refine tkA (i := 3) (oi := ⟨_, _, _, _, _, _⟩) ?_
      simp only [putA, List.set]
      refine tkA (i := 4) (oi := ⟨_, _, _, _, _, _⟩) ?_
      simp only [putA, List.set]
      refine tkA (i := 5) (oi := ⟨_, _, _, _, _, _⟩) ?_
      simp only [putA, List.set]
      refine tkA (i := 6) (oi := ⟨_, _, _, _, _, _⟩) ?_
      simp only [putA, List.set]
      refine tkA (i := 7) (oi := ⟨_, _, _, _, _, _⟩) ?_
      simp only [putA, List.set]
      refine tkA (i := 8) (oi := ⟨_, _, _, _, _, _⟩) ?_
      simp only [putA, List.set]
      refine tkA (i := 9) (oi := ⟨_, _, _, _, _, _⟩) ?_
      simp only [putA, List.set]
      refine tkA (i := 10) (oi := ⟨_, _, _, _, _, _⟩) ?_
      simp only [putA, List.set]
      refine tkA (i := 11) (oi := ⟨_, _, _, _, _, _⟩) ?_
      simp only [putA, List.set]
      refine tkA (i := 12) (oi := ⟨_, _, _, _, _, _⟩) ?_
      simp only [putA, List.set]
      refine wpAnyH_done (by kernel_rfl) ?_ _
      clear hHeld
      by_cases hl : 32000 ≤ n4
      · have tl : decide ((32000 : Int) ≤ (n4 : Int)) = true := by simp; omega
        have := HN0.out t4 HTX.out
        rw [← HN4.out] at this
        exfalso; simp at tl; omega
      · have tl : decide ((32000 : Int) ≤ (n4 : Int)) = false := by simp; omega
        have tl2 : ¬ (32000 : Int) ≤ (n4 : Int) := by omega
        clear hl
        go_wp2_with fail
        refine wp_region_held_drew (S := fun (w' : World) => w'.cell? ⟨L.R, 2, none⟩ = some (.slice (some ⟨L.TB, 0, none⟩) (g.inodes + 1) L.tc) ∧ w'.cell? ⟨w.heap.size, 0, none⟩ = some (.int .i64 (x : Int)) ∧ w'.cell? ⟨L.TB, x, none⟩ = some (.pointer (some ⟨Bx, 0, none⟩))) (by kernel_rfl) ⟨p2, pe, px⟩ (fun hHeld => ?_)
        refine tkA (i := 0) (oi := ⟨_, _, _, _, _, _⟩) ?_
        simp only [putA, List.set]
        refine tkA (i := 1) (oi := ⟨_, _, _, _, _, _⟩) ?_
        simp only [putA, List.set]
        refine tkA (i := 2) (oi := ⟨_, _, _, _, _, _⟩) ?_
        simp only [putA, List.set]
        refine tkA (i := 3) (oi := ⟨_, _, _, _, _, _⟩) ?_
        simp only [putA, List.set]
        refine tkA (i := 4) (oi := ⟨_, _, _, _, _, _⟩) ?_
        simp only [putA, List.set]
        refine tkA (i := 5) (oi := ⟨_, _, _, _, _, _⟩) ?_
        simp only [putA, List.set]
        refine tkA (i := 6) (oi := ⟨_, _, _, _, _, _⟩) ?_
        simp only [putA, List.set]
        refine tkA (i := 7) (oi := ⟨_, _, _, _, _, _⟩) ?_
        simp only [putA, List.set]
        refine tkA (i := 8) (oi := ⟨_, _, _, _, _, _⟩) ?_
        simp only [putA, List.set]
        refine tkA (i := 9) (oi := ⟨_, _, _, _, _, _⟩) ?_
        simp only [putA, List.set]
        refine tkA (i := 10) (oi := ⟨_, _, _, _, _, _⟩) ?_
        simp only [putA, List.set]
        refine wpAnyH_ready (rs := [11]) (by kernel_rfl) (by simp) ?_
        refine AllReadyH.cons rfl (fun K hK => ?_) AllReadyH.nil
        go_simp
        refine hK.out _ _ ?_ (fun hHeld => ?_)
        · exact hHeld
        clear hK K
        refine tkA (i := 12) (oi := ⟨_, _, _, _, _, _⟩) ?_
        simp only [putA, List.set]
        refine tkA (i := 13) (oi := ⟨_, _, _, _, _, _⟩) ?_
        simp only [putA, List.set]
        refine tkA (i := 14) (oi := ⟨_, _, _, _, _, _⟩) ?_
        simp only [putA, List.set]
        refine tkA (i := 15) (oi := ⟨_, _, _, _, _, _⟩) ?_
        simp only [putA, List.set]
        refine wpAnyH_ready (rs := [16]) (by kernel_rfl) (by simp) ?_
        refine AllReadyH.cons rfl (fun K hK => ?_) AllReadyH.nil
        go_simp
        obtain ⟨hS5, hm5⟩ := HS4.out.linked HB4.out HTX.out (u := .int .i64 (IntKind.i64.wrap ((n4 : Int) + 1))) (by rw [← HN4.out]; exact congrArg (Value.int .i64) (wrap_nat (n4 + 1) (by omega)))
        obtain ⟨ov5, hRp5, _⟩ := hS5.rp
        have px5 := hS5.tt.cell x
        rw [adrL_get _ _ _ kx, HB4.out] at px5
        refine hK.out _ _ ?_ (fun hHeld => ?_)
        · exact ⟨hRp5.cell 2, (hm5.cell lE4 nE).trans pe, px5⟩
        clear hK K
        refine wpAnyH_done (by kernel_rfl) ?_ _
        clear hHeld
        go_wp2_with fail
        go_ret
        refine ⟨fun h => ?_, fun S' h => ⟨rfl, ?_⟩⟩
        · rw [HST2.out, if_neg (by omega)] at h; cases h
        · rw [HST2.out, if_neg (by omega)] at h
          cases h
          have lB5 := HO4.out.lab
          exact ⟨lb4, adr4, hS5.drew.drew, HX4.out, HA4.out, (HM4.out.trans hm5 (fun i hi e => by
            subst e
            intro h2
            rw [← HX4.out _ hi, lB5] at h2
            have := congrArg Prod.fst h2
            simp at this; omega)).drew.drew⟩
    | some Bx =>
      rw [hax] at tx
      simp only [Option.map_some] at tx
      have hTn : S.T x ≠ none := fun e => by have := (H.out.nn x).2 e; rw [hax] at this; cases this
      have hS1S : S1 = S := by rw [HS1.out, if_neg hTn]
      have HAX := Lib.hid hax; have HSS := Lib.hid hS1S
      clear hax hTn hS1S
      go_wp2_with fail
      refine wp_region_held_drew (S := fun (w' : World) => w'.cell? ⟨L.R, 2, none⟩ = some (.slice (some ⟨L.TB, 0, none⟩) (g.inodes + 1) L.tc) ∧ w'.cell? ⟨w.heap.size, 0, none⟩ = some (.int .i64 (x : Int)) ∧ w'.cell? ⟨L.TB, x, none⟩ = some (.pointer (some ⟨Bx, 0, none⟩))) (by kernel_rfl) ⟨r2, ue0, tx⟩ (fun hHeld => ?_)
      refine tkA (i := 0) (oi := ⟨_, _, _, _, _, _⟩) ?_
      simp only [putA, List.set]
      refine tkA (i := 1) (oi := ⟨_, _, _, _, _, _⟩) ?_
      simp only [putA, List.set]
      refine tkA (i := 2) (oi := ⟨_, _, _, _, _, _⟩) ?_
      simp only [putA, List.set]
      refine tkA (i := 3) (oi := ⟨_, _, _, _, _, _⟩) ?_
      simp only [putA, List.set]
      refine tkA (i := 4) (oi := ⟨_, _, _, _, _, _⟩) ?_
      simp only [putA, List.set]
      refine tkA (i := 5) (oi := ⟨_, _, _, _, _, _⟩) ?_
      simp only [putA, List.set]
      refine tkA (i := 6) (oi := ⟨_, _, _, _, _, _⟩) ?_
      simp only [putA, List.set]
      refine tkA (i := 7) (oi := ⟨_, _, _, _, _, _⟩) ?_
      simp only [putA, List.set]
      refine tkA (i := 8) (oi := ⟨_, _, _, _, _, _⟩) ?_
      simp only [putA, List.set]
      refine wpAnyH_done (by kernel_rfl) ?_ _
      clear hHeld
      go_wp2_with fail
      obtain ⟨W, hW⟩ : ∃ W, W = wc.drew := ⟨_, rfl⟩
      rw [← hW]
      have hS4 : RS g f L W lb adr S1 := by rw [hW, HSS.out]; exact (H.out.below HB.out).drew
      have hx4 := Ext.refl w lb
      have ha4 : ∀ y B, adr y = some B → adr y = some B := fun _ _ e => e
      have hM4 : Mods (Ours lb) w W := by rw [hW]; exact (mods_of_below HB.out).drew
      have hE4 : Blk 59 W w.heap.size [.int .i64 (x : Int), .string s] := by rw [hW]; exact HE.out.drew
      have hB4 := HAX.out
      have hBW : Below w.heap.size w W := by rw [hW]; exact HB.out.drew
      have HBW := Lib.hid hBW
      clear hW hBW
      obtain ⟨t4, htx, hst⟩ : ∃ t4, S1.T x = some t4 ∧ stayR g f S dr x = if 32000 ≤ t4.i 1 then none else some { S1 with T := upL S1.T x } := by
        cases hq : S1.T x with
        | none => exact absurd ((hS4.nn x).2 hq) (by rw [hB4]; simp)
        | some t4 => exact ⟨t4, rfl, by rw [HST.out]; simp only [hq]⟩
      obtain ⟨dv4, lv4, dvs4, hO4⟩ := hS4.obj x Bx t4 hB4 htx
      obtain ⟨ov4, hRp4, hov4⟩ := hS4.rp
      have p2 : W.cell? ⟨L.R, 2, none⟩ = some (.slice (some ⟨L.TB, 0, none⟩) (g.inodes + 1) L.tc) := hRp4.cell 2
      have px := hS4.tt.cell x
      rw [adrL_get _ _ _ kx, hB4] at px
      simp only [Option.map_some] at px
      have p1 := hO4.blk.cell 1
      rw [inoL_more (by omega)] at p1
      have pe : W.cell? ⟨w.heap.size, 0, none⟩ = some (.int .i64 (x : Int)) := hE4.cell 0
      have pf1 := hO4.blk.frozen 1
      have lO := hO4.blk.lt; have lE4 := hE4.lt
      have nE : w.heap.size ≠ Bx := blkNe hE4 hO4.blk (by decide)
      obtain ⟨n4, hn4⟩ : ∃ n4, n4 = t4.i 1 := ⟨_, rfl⟩
      rw [← hn4] at p1 hst
      have HS4 := Lib.hid hS4; have HX4 := Lib.hid hx4; have HA4 := Lib.hid ha4; have HM4 := Lib.hid hM4; have HTX := Lib.hid htx; have HB4 := Lib.hid hB4; have HST2 := Lib.hid hst; have HO4 := Lib.hid hO4; have HN4 := Lib.hid hn4
      clear hS4 hx4 ha4 hM4 hE4 htx hst hO4 hRp4 hov4 hB4 hn4
      refine wp_region_held_drew (S := fun (w' : World) => w'.cell? ⟨L.R, 2, none⟩ = some (.slice (some ⟨L.TB, 0, none⟩) (g.inodes + 1) L.tc) ∧ w'.cell? ⟨w.heap.size, 0, none⟩ = some (.int .i64 (x : Int)) ∧ w'.cell? ⟨L.TB, x, none⟩ = some (.pointer (some ⟨Bx, 0, none⟩)) ∧ w'.cell? ⟨Bx, 1, none⟩ = some (.int .i64 (n4 : Nat))) (by kernel_rfl) ⟨p2, pe, px, p1⟩ (fun hHeld => ?_)
      refine tkA (i := 0) (oi := ⟨_, _, _, _, _, _⟩) ?_
      simp only [putA, List.set]
      refine tkA (i := 1) (oi := ⟨_, _, _, _, _, _⟩) ?_
      simp only [putA, List.set]
      refine tkA (i := 2) (oi := ⟨_, _, _, _, _, _⟩) ?_
      simp only [putA, List.set]
      refine tkA (i := 3) (oi := ⟨_, _, _, _, _, _⟩) ?_
      simp only [putA, List.set]
      refine tkA (i := 4) (oi := ⟨_, _, _, _, _, _⟩) ?_
      simp only [putA, List.set]
      refine tkA (i := 5) (oi := ⟨_, _, _, _, _, _⟩) ?_
      simp only [putA, List.set]
      refine tkA (i := 6) (oi := ⟨_, _, _, _, _, _⟩) ?_
      simp only [putA, List.set]
      refine tkA (i := 7) (oi := ⟨_, _, _, _, _, _⟩) ?_
      simp only [putA, List.set]
      refine tkA (i := 8) (oi := ⟨_, _, _, _, _, _⟩) ?_
      simp only [putA, List.set]
      refine tkA (i := 9) (oi := ⟨_, _, _, _, _, _⟩) ?_
      simp only [putA, List.set]
      refine tkA (i := 10) (oi := ⟨_, _, _, _, _, _⟩) ?_
      simp only [putA, List.set]
      refine tkA (i := 11) (oi := ⟨_, _, _, _, _, _⟩) ?_
      simp only [putA, List.set]
      refine tkA (i := 12) (oi := ⟨_, _, _, _, _, _⟩) ?_
      simp only [putA, List.set]
      refine wpAnyH_done (by kernel_rfl) ?_ _
      clear hHeld
      by_cases hl : 32000 ≤ n4
      · have tl : decide ((32000 : Int) ≤ (n4 : Int)) = true := by simp; omega
        have tl2 : (32000 : Int) ≤ (n4 : Int) := by omega
        clear hl
        go_wp2_with fail
        go_ret
        refine ⟨fun h => ⟨rfl, HBW.out.drew⟩, fun S' h => ?_⟩
        rw [HST2.out, if_pos (by omega)] at h; cases h
      · have tl : decide ((32000 : Int) ≤ (n4 : Int)) = false := by simp; omega
        have tl2 : ¬ (32000 : Int) ≤ (n4 : Int) := by omega
        clear hl
        go_wp2_with fail
        refine wp_region_held_drew (S := fun (w' : World) => w'.cell? ⟨L.R, 2, none⟩ = some (.slice (some ⟨L.TB, 0, none⟩) (g.inodes + 1) L.tc) ∧ w'.cell? ⟨w.heap.size, 0, none⟩ = some (.int .i64 (x : Int)) ∧ w'.cell? ⟨L.TB, x, none⟩ = some (.pointer (some ⟨Bx, 0, none⟩))) (by kernel_rfl) ⟨p2, pe, px⟩ (fun hHeld => ?_)
        refine tkA (i := 0) (oi := ⟨_, _, _, _, _, _⟩) ?_
        simp only [putA, List.set]
        refine tkA (i := 1) (oi := ⟨_, _, _, _, _, _⟩) ?_
        simp only [putA, List.set]
        refine tkA (i := 2) (oi := ⟨_, _, _, _, _, _⟩) ?_
        simp only [putA, List.set]
        refine tkA (i := 3) (oi := ⟨_, _, _, _, _, _⟩) ?_
        simp only [putA, List.set]
        refine tkA (i := 4) (oi := ⟨_, _, _, _, _, _⟩) ?_
        simp only [putA, List.set]
        refine tkA (i := 5) (oi := ⟨_, _, _, _, _, _⟩) ?_
        simp only [putA, List.set]
        refine tkA (i := 6) (oi := ⟨_, _, _, _, _, _⟩) ?_
        simp only [putA, List.set]
        refine tkA (i := 7) (oi := ⟨_, _, _, _, _, _⟩) ?_
        simp only [putA, List.set]
        refine tkA (i := 8) (oi := ⟨_, _, _, _, _, _⟩) ?_
        simp only [putA, List.set]
        refine tkA (i := 9) (oi := ⟨_, _, _, _, _, _⟩) ?_
        simp only [putA, List.set]
        refine tkA (i := 10) (oi := ⟨_, _, _, _, _, _⟩) ?_
        simp only [putA, List.set]
        refine wpAnyH_ready (rs := [11]) (by kernel_rfl) (by simp) ?_
        refine AllReadyH.cons rfl (fun K hK => ?_) AllReadyH.nil
        go_simp
        refine hK.out _ _ ?_ (fun hHeld => ?_)
        · exact hHeld
        clear hK K
        refine tkA (i := 12) (oi := ⟨_, _, _, _, _, _⟩) ?_
        simp only [putA, List.set]
        refine tkA (i := 13) (oi := ⟨_, _, _, _, _, _⟩) ?_
        simp only [putA, List.set]
        refine tkA (i := 14) (oi := ⟨_, _, _, _, _, _⟩) ?_
        simp only [putA, List.set]
        refine tkA (i := 15) (oi := ⟨_, _, _, _, _, _⟩) ?_
        simp only [putA, List.set]
        refine wpAnyH_ready (rs := [16]) (by kernel_rfl) (by simp) ?_
        refine AllReadyH.cons rfl (fun K hK => ?_) AllReadyH.nil
        go_simp
        obtain ⟨hS5, hm5⟩ := HS4.out.linked HB4.out HTX.out (u := .int .i64 (IntKind.i64.wrap ((n4 : Int) + 1))) (by rw [← HN4.out]; exact congrArg (Value.int .i64) (wrap_nat (n4 + 1) (by omega)))
        obtain ⟨ov5, hRp5, _⟩ := hS5.rp
        have px5 := hS5.tt.cell x
        rw [adrL_get _ _ _ kx, HB4.out] at px5
        refine hK.out _ _ ?_ (fun hHeld => ?_)
        · exact ⟨hRp5.cell 2, (hm5.cell lE4 nE).trans pe, px5⟩
        clear hK K
        refine wpAnyH_done (by kernel_rfl) ?_ _
        clear hHeld
        go_wp2_with fail
        go_ret
        refine ⟨fun h => ?_, fun S' h => ⟨rfl, ?_⟩⟩
        · rw [HST2.out, if_neg (by omega)] at h; cases h
        · rw [HST2.out, if_neg (by omega)] at h
          cases h
          have lB5 := HO4.out.lab
          exact ⟨lb, adr, hS5.drew.drew, HX4.out, HA4.out, (HM4.out.trans hm5 (fun i hi e => by
            subst e
            intro h2
            rw [← HX4.out _ hi, lB5] at h2
            have := congrArg Prod.fst h2
            simp at this; omega)).drew.drew⟩
end Go.Proofs.YtbbgahffcjbloaaGreat
end
