/- Part of the road to RootRow: RPush, REntr, RFix0. -/
import Derived.Deep.CutBlock
import Derived.Deep.AppendLies
import Derived.Test.YtbbgahffcjbloaaGreatRts08
set_option linter.all false
set_option linter.unusedSimpArgs false
set_option linter.unusedVariables false
set_option linter.unusedSectionVars false
section
/- The reference's repair: a directory's rows grow. -/
namespace Go.Proofs.YtbbgahffcjbloaaGreat
open Go.RowKit

theorem own_set1 {w : World} {base e g n cap : Nat} {xs : List Value} (h : w.ownsRow base e 1 (.slice (some ⟨g, 0, none⟩) n cap) n xs) {i : Nat} (hi : i < n) (u : Value) :
    (w.setCell ⟨g, i, none⟩ u).ownsRow base e 1 (.slice (some ⟨g, 0, none⟩) n cap) n (xs.set i u) := by
  obtain ⟨hl, h⟩ := h
  refine ⟨by rw [List.length_set]; exact hl, ?_⟩
  rcases h with ⟨h, _⟩ | ⟨g', cap', cur, hv, hb, hg, hc, hm, hs, ht⟩
  · cases h
  · cases hv
    refine .inr ⟨g, cap, cur.set! i u, rfl, hb, ?_, hc, hm, by simp; omega, ?_⟩
    · rw [heap_setCell_same w g i cur e u hg]; simp
    · rw [← ht]
      simp [List.take_set]
/-- the last row grows by an entry -/
def addLast (d : List (List (Nat × ByteArray))) (e : Nat × ByteArray) : List (List (Nat × ByteArray)) := d.dropLast ++ [d.getLastD [] ++ [e]]
theorem addLast_snoc (pre : List (List (Nat × ByteArray))) (row : List (Nat × ByteArray)) (e : Nat × ByteArray) : addLast (pre ++ [row]) e = pre ++ [row ++ [e]] := by
  simp [addLast]
def setDir (S : RSt) (x : Nat) (d : List (List (Nat × ByteArray))) : RSt := { S with T := fun y => if y = x then (S.T x).map fun t => { t with dir := d } else S.T y }
/-- an object of a repair has changed -/
theorem RS.object {g : Geo} {f : Nat → Nat} {L : RLoc} {w w' : World} {lb lb' : Lab} {adr : Nat → Option Nat} {S : RSt} (h : RS g f L w lb adr S) {x B : Nat} {t t' : RT} (hx : adr x = some B) (ht : S.T x = some t) {s : Nat → Prop} (hm : Mods s w w') (hs : ∀ k, s k → k < w.heap.size → (lb k).1 = x) (he : Ext w lb lb') (hhi : ∀ k, w'.heap.size ≤ k → lb' k = (0, 0)) {dv lv : Value} {dvs : List Value} (hO : TAt w' lb' x B t' dv lv dvs) :
    RPost g f L w lb adr w' { S with T := fun y => if y = x then some t' else S.T y } := by
  have x1 := (h.in_ x (by rw [ht]; simp)).1
  have nz : ∀ k q, s k → k < w.heap.size → lb k ≠ (0, q) := fun k q a b e => by have := hs k a b; rw [e] at this; simp at this; omega
  obtain ⟨ov, h1, h2⟩ := h.rp
  refine ⟨lb', adr, ⟨⟨ov, h1.mods hm fun e => nz _ _ e h1.lt h.lR, h2.step hm he fun k a b => nz _ _ a b⟩, h.dk.mods hm fun e => nz _ _ e h.dk.lt h.lD, { h.img with rd := fun k hk => (hm.cell h.img.lt fun e => nz _ _ e h.img.lt h.lI).trans (h.img.rd k hk) }, h.cl.mods hm fun e => nz _ _ e h.cl.lt h.lC, h.tt.mods hm fun e => nz _ _ e h.tt.lt h.lT, fun y => ?_, fun y B' t2 a b => ?_, fun y hy => ?_, ?_, ?_, ?_, ?_, ?_, hhi⟩, he, fun _ _ e => e, hm.mono fun k a b c => nz _ _ b a c⟩
  · dsimp only
    by_cases e : y = x
    · rw [if_pos e, e, hx]; simp
    · rw [if_neg e]; exact h.nn y
  · dsimp only at b
    by_cases e : y = x
    · rw [if_pos e] at b
      rw [e, hx] at a
      cases a; cases b
      rw [e]; exact ⟨dv, lv, dvs, hO⟩
    · rw [if_neg e] at b
      obtain ⟨d, l, ds, ho⟩ := h.obj y B' t2 a b
      exact ⟨d, l, ds, ho.step hm he fun k a b q => by rw [hs k a b] at q; exact e q.symm⟩
  · dsimp only at hy
    by_cases e : y = x
    · rw [e]; exact h.in_ x (by rw [ht]; simp)
    · rw [if_neg e] at hy; exact h.in_ y hy
  · exact (he _ h1.lt).trans h.lR
  · exact (he _ h.dk.lt).trans h.lD
  · exact (he _ h.cl.lt).trans h.lC
  · exact (he _ h.tt.lt).trans h.lT
  · exact (he _ h.img.lt).trans h.lI
theorem setDir_eq {S : RSt} {x : Nat} {t : RT} (ht : S.T x = some t) (d : List (List (Nat × ByteArray))) : setDir S x d = { S with T := fun y => if y = x then some { t with dir := d } else S.T y } := by
  unfold setDir; rw [ht]; rfl
/-- an entry is appended to the last row -/
theorem RS.push {g : Geo} {f : Nat → Nat} {L : RLoc} {w w3 : World} {lb : Lab} {adr : Nat → Option Nat} {S : RSt} (h : RS g f L w lb adr S) {x B G0 b capd : Nat} {t : RT} (hx : adr x = some B) (ht : S.T x = some t) {lv v : Value} {dvs : List Value} (hO : TAt w lb x B t (.slice (some ⟨G0, 0, none⟩) (b + 1) capd) lv dvs) {pre : List (List (Nat × ByteArray))} {row : List (Nat × ByteArray)} (hd : t.dir = pre ++ [row]) (hb : b = pre.length) (hv : dvs[b]? = some v) (e : Nat × ByteArray)
    {G cap : Nat} (ho : w3.ownsRow 0 59 2 (.slice (some ⟨G, 0, none⟩) (row.length + 1) cap) (row.length + 1) (entsV row ++ [.int .i64 (e.1 : Nat), .string e.2])) (hg : w.grownBy w3 v.ownBlock) (hG : v.ownBlock = some G ∨ w.heap.size ≤ G) {w' : World} (hw' : w' = w3.setCell ⟨G0, b, none⟩ (.slice (some ⟨G, 0, none⟩) (row.length + 1) cap)) :
    RPost g f L w lb adr w' (setDir S x (pre ++ [row ++ [e]])) := by
  subst hw'
  have hr := hO.row b v row hv (by rw [hd, hb]; simp)
  have lG0 : lb G0 = (x, 2) := hO.dir.2 G0 rfl
  have G0l := row_lt hO.dir.1 (k := G0) rfl
  have lG : ∀ k, v.ownBlock = some k → lb k = (x, 3 + b) := hr.2
  have hGG : G ≠ G0 := fun q => by
    rcases hG with h1 | h1
    · have := lG G h1; rw [q, lG0] at this; simp at this; omega
    · omega
  have hm3 : Mods (fun k => v.ownBlock = some k) w w3 := (Mods.refl (fun k => v.ownBlock = some k) w).grown hg fun _ e _ => e
  have hm : Mods (fun k => v.ownBlock = some k ∨ k = G0) w (w3.setCell ⟨G0, b, none⟩ (.slice (some ⟨G, 0, none⟩) (row.length + 1) cap)) := (hm3.mono fun _ _ e => .inl e).setCell _ (fun _ => .inr rfl) _
  have hz := hm.size
  have lGl := (own_len ho).2.1
  obtain ⟨lb', hlb'⟩ : ∃ lb' : Lab, lb' = fun k => if k = G then (x, 3 + b) else lb k := ⟨_, rfl⟩
  have lG' : lb' G = (x, 3 + b) := by rw [hlb']; exact if_pos rfl
  have he : Ext w lb lb' := fun k hk => by
    rw [hlb']; dsimp only
    by_cases q : k = G
    · rw [if_pos q]
      rcases hG with h1 | h1
      · rw [q]; exact (lG G h1).symm
      · omega
    · rw [if_neg q]
  rw [setDir_eq ht]
  have hl : ∀ k, (v.ownBlock = some k ∨ k = G0) → lb k = (x, 3 + b) ∨ lb k = (x, 2) := fun k hk => hk.elim (fun e => .inl (lG k e)) fun e => .inr (by rw [e]; exact lG0)
  have hB : lb B = (x, 0) := hO.lab
  refine h.object hx ht hm (fun k hk _ => by rcases hl k hk with e | e <;> rw [e]) he (fun k hk => ?_) (dv := .slice (some ⟨G0, 0, none⟩) (b + 1) capd) (lv := lv) (dvs := dvs.set b (.slice (some ⟨G, 0, none⟩) (row.length + 1) cap)) ⟨?_, (he B hO.blk.lt).trans hB, ?_, ?_, ?_, ?_⟩
  · rw [hlb']; dsimp only
    rw [size_set] at hk
    rw [if_neg (by omega)]
    exact h.hi k (by have := hm3.size; omega)
  · exact hO.blk.mods hm fun hk => by rcases hl B hk with e | e <;> rw [hB] at e <;> (have q := congrArg Prod.snd e; dsimp only at q; omega)
  · exact hO.lead.step hm he fun k hk _ e2 => by rcases hl k hk with e | e <;> rw [e] at e2 <;> (have q := congrArg Prod.snd e2; dsimp only at q; omega)
  · have h1 : w3.ownsRow 0 37 1 (.slice (some ⟨G0, 0, none⟩) (b + 1) capd) t.dir.length dvs := own_mods hO.dir.1 hm3 fun k hk e => by
      cases hk
      have := lG G0 e; rw [lG0] at this; simp at this; omega
    have hlen : t.dir.length = b + 1 := by rw [hd, hb]; simp
    rw [hlen] at h1
    have h2 := own_set1 h1 (i := b) (by omega) (.slice (some ⟨G, 0, none⟩) (row.length + 1) cap)
    refine ⟨?_, fun k hk => by cases hk; exact (he G0 G0l).trans lG0⟩
    show World.ownsRow _ 0 _ 1 _ (pre ++ [row ++ [e]]).length _
    rw [show (pre ++ [row ++ [e]]).length = b + 1 by rw [hb]; simp]
    exact h2
  · rw [List.length_set, hO.len, hd]; simp
  · intro b2 v2 d2 q1 q2
    dsimp only at q2
    by_cases hb2 : b2 = b
    · subst hb2
      have e1 : d2 = row ++ [e] := by rw [hb] at q2; simpa using q2.symm
      have e2 : v2 = .slice (some ⟨G, 0, none⟩) (row.length + 1) cap := by
        rw [List.getElem?_set_self (List.getElem?_eq_some_iff.1 hv).1] at q1
        simpa using q1.symm
      subst e1; subst e2
      refine ⟨?_, fun k hk => by cases hk; exact lG'⟩
      rw [entsV_snoc, List.length_append]
      exact own_mods ho (set_mods w3 G0 b2 _) fun k hk e => by cases hk; exact hGG e
    · rw [List.getElem?_set_ne (fun e => hb2 e.symm)] at q1
      have q3 : t.dir[b2]? = some d2 := by
        rw [hd]
        by_cases hl2 : b2 < pre.length
        · rw [List.getElem?_append_left hl2] at q2 ⊢; exact q2
        · rw [List.getElem?_eq_none (by simp; omega)] at q2; cases q2
      exact (hO.row b2 v2 d2 q1 q3).step hm he fun k hk _ e2 => by rcases hl k hk with e | e <;> rw [e] at e2 <;> (have q := congrArg Prod.snd e2; dsimp only at q; omega)
/-- a new row -/
theorem RS.newrow {g : Geo} {f : Nat → Nat} {L : RLoc} {w w3 : World} {lb : Lab} {adr : Nat → Option Nat} {S : RSt} (h : RS g f L w lb adr S) {x B : Nat} {t : RT} (hx : adr x = some B) (ht : S.T x = some t) {dv lv : Value} {dvs : List Value} (hO : TAt w lb x B t dv lv dvs)
    {G cap : Nat} (ho : w3.ownsRow 0 37 1 (.slice (some ⟨G, 0, none⟩) (t.dir.length + 1) cap) (t.dir.length + 1) (dvs ++ [.slice none 0 0])) (hg : w.grownBy w3 dv.ownBlock) (hG : dv.ownBlock = some G ∨ w.heap.size ≤ G) {w' : World} (hw' : w' = w3.setCell ⟨B, 13, none⟩ (.slice (some ⟨G, 0, none⟩) (t.dir.length + 1) cap)) :
    RPost g f L w lb adr w' (setDir S x (t.dir ++ [[]])) := by
  subst hw'
  have lG : ∀ k, dv.ownBlock = some k → lb k = (x, 2) := hO.dir.2
  have hB : lb B = (x, 0) := hO.lab
  have Bl := hO.blk.lt
  have hGB : G ≠ B := fun q => by
    rcases hG with h1 | h1
    · have := lG G h1; rw [q, hB] at this; simp at this
    · omega
  have hm3 : Mods (fun k => dv.ownBlock = some k) w w3 := (Mods.refl (fun k => dv.ownBlock = some k) w).grown hg fun _ e _ => e
  have hm : Mods (fun k => dv.ownBlock = some k ∨ k = B) w (w3.setCell ⟨B, 13, none⟩ (.slice (some ⟨G, 0, none⟩) (t.dir.length + 1) cap)) := (hm3.mono fun _ _ e => .inl e).setCell _ (fun _ => .inr rfl) _
  have hz := hm.size
  have lGl := (own_len ho).2.1
  obtain ⟨lb', hlb'⟩ : ∃ lb' : Lab, lb' = fun k => if k = G then (x, 2) else lb k := ⟨_, rfl⟩
  have lG' : lb' G = (x, 2) := by rw [hlb']; exact if_pos rfl
  have he : Ext w lb lb' := fun k hk => by
    rw [hlb']; dsimp only
    by_cases q : k = G
    · rw [if_pos q]
      rcases hG with h1 | h1
      · rw [q]; exact (lG G h1).symm
      · omega
    · rw [if_neg q]
  rw [setDir_eq ht]
  have hl : ∀ k, (dv.ownBlock = some k ∨ k = B) → lb k = (x, 2) ∨ lb k = (x, 0) := fun k hk => hk.elim (fun e => .inl (lG k e)) fun e => .inr (by rw [e]; exact hB)
  refine h.object hx ht hm (fun k hk _ => by rcases hl k hk with e | e <;> rw [e]) he (fun k hk => ?_) (dv := .slice (some ⟨G, 0, none⟩) (t.dir.length + 1) cap) (lv := lv) (dvs := dvs ++ [.slice none 0 0]) ⟨?_, (he B Bl).trans hB, ?_, ?_, ?_, ?_⟩
  · rw [hlb']; dsimp only
    rw [size_set] at hk
    rw [if_neg (by omega)]
    exact h.hi k (by have := hm3.size; omega)
  · have h1 := hO.blk.mods hm3 fun e => by have := lG B e; rw [hB] at this; simp at this
    exact h1.set 13 _
  · exact hO.lead.step hm he fun k hk _ e2 => by rcases hl k hk with e | e <;> rw [e] at e2 <;> (have q := congrArg Prod.snd e2; dsimp only at q; omega)
  · refine ⟨?_, fun k hk => by cases hk; exact lG'⟩
    show World.ownsRow _ 0 _ 1 _ (t.dir ++ [[]]).length _
    rw [List.length_append]
    exact own_mods ho (set_mods w3 B 13 _) fun k hk e => by cases hk; exact hGB e
  · simp [hO.len]
  · intro b2 v2 d2 q1 q2
    dsimp only at q2
    by_cases hb2 : b2 < t.dir.length
    · rw [List.getElem?_append_left (by rw [hO.len]; exact hb2)] at q1
      rw [List.getElem?_append_left hb2] at q2
      exact (hO.row b2 v2 d2 q1 q2).step hm he fun k hk _ e2 => by rcases hl k hk with e | e <;> rw [e] at e2 <;> (have q := congrArg Prod.snd e2; dsimp only at q; omega)
    · rw [List.getElem?_append_right (by rw [hO.len]; omega), hO.len] at q1
      rw [List.getElem?_append_right (by omega)] at q2
      obtain ⟨r, hr⟩ : ∃ r, r = b2 - t.dir.length := ⟨_, rfl⟩
      rw [← hr] at q1 q2
      match r, q1, q2 with
      | 0, q1, q2 =>
        cases q1; cases q2
        exact lrow_nil _ _ _ _ _
      | r + 1, q1, q2 => cases q1
end Go.Proofs.YtbbgahffcjbloaaGreat
end

section
/- The reference's repair: a directory's entries are gone over. -/
namespace Go.Proofs.YtbbgahffcjbloaaGreat
open Go.RowKit

def entStep (g : Geo) (f : Nat → Nat) (dr b : Nat) (S : RSt) (k : Nat) (e : Nat × ByteArray) : RSt :=
  match S.T dr with
  | none => S
  | some t =>
    if b = 0 ∧ k = 0 then setDir S dr (addLast t.dir (dr, ⟨#[46]⟩))
    else if b = 0 ∧ k = 1 then setDir S dr (addLast t.dir (t.up, ⟨#[46, 46]⟩))
    else if badN (nmR t) e.1 e.2 = true then setDir S dr (addLast t.dir (0, ⟨#[]⟩))
    else match stayR g f S dr e.1 with
      | none => setDir S dr (addLast t.dir (0, ⟨#[]⟩))
      | some S' => setDir S' dr (addLast t.dir e)
def entLoop (g : Geo) (f : Nat → Nat) (dr b : Nat) (E : Nat → Nat × ByteArray) (S : RSt) : Nat → RSt
  | 0 => S
  | k + 1 => entStep g f dr b (entLoop g f dr b E S k) k (E k)
def entBlk (g : Geo) (f : Nat → Nat) (dr : Nat) (S : RSt) (b : Nat) : RSt :=
  match S.T dr with
  | none => S
  | some t => entLoop g f dr b (blkE fun j => f (t.lead.getD b 0 * 1024 + j)) (setDir S dr (t.dir ++ [[]])) 32
def entAll (g : Geo) (f : Nat → Nat) (dr : Nat) (S : RSt) : Nat → RSt
  | 0 => S
  | b + 1 => entBlk g f dr (entAll g f dr S b) b
theorem RPost.trans {g : Geo} {f : Nat → Nat} {L : RLoc} {w w1 w2 : World} {lb lb1 : Lab} {adr adr1 : Nat → Option Nat} {S2 : RSt} (hx : Ext w lb lb1) (ha : ∀ y B, adr y = some B → adr1 y = some B) (hm : Mods (Ours lb) w w1) (h : RPost g f L w1 lb1 adr1 w2 S2) : RPost g f L w lb adr w2 S2 := by
  obtain ⟨lb2, adr2, h1, h2, h3, h4⟩ := h
  exact ⟨lb2, adr2, h1, hx.trans h2 hm.size, fun y B e => h3 y B (ha y B e), hm.trans h4 fun i hi e => by unfold Ours at e ⊢; rw [hx i hi] at e; exact e⟩
/-- the object of a directory: what stays the same of it -/
def DirOk (S : RSt) (dr up : Nat) (lead : List Nat) (d : List (List (Nat × ByteArray))) : Prop := ∃ t, S.T dr = some t ∧ t.up = up ∧ t.lead = lead ∧ t.dir = d
theorem stayR_dir {g : Geo} {f : Nat → Nat} {S S' : RSt} {dr x : Nat} {t : RT} (h : stayR g f S dr x = some S') (ht : S.T dr = some t) : S'.z = S.z ∧ ∃ t', S'.T dr = some t' ∧ t'.up = t.up ∧ t'.lead = t.lead ∧ t'.dir = t.dir := by
  unfold stayR at h
  split at h
  · cases h
  · split at h
    · cases h
    · by_cases hx : S.T x = none
      · rw [if_pos hx] at h
        have hne : dr ≠ x := fun e => by rw [e, hx] at ht; cases ht
        simp only [if_true] at h
        split at h
        · cases h
        · simp only [Option.some.injEq] at h
          subst h
          refine ⟨rfl, t, ?_, rfl, rfl, rfl⟩
          dsimp only [upL]
          rw [if_neg hne, if_neg hne]; exact ht
      · rw [if_neg hx] at h
        cases hq : S.T x with
        | none => exact absurd hq hx
        | some tx =>
          dsimp only at h
          rw [hq] at h
          dsimp only at h
          split at h
          · cases h
          · simp only [Option.some.injEq] at h
            subst h
            refine ⟨rfl, ?_⟩
            show ∃ t', upL S.T x dr = some t' ∧ _
            unfold upL
            by_cases e : dr = x
            · rw [if_pos e, hq]
              rw [e, hq] at ht
              cases ht
              exact ⟨_, rfl, rfl, rfl, rfl⟩
            · rw [if_neg e]; exact ⟨t, ht, rfl, rfl, rfl⟩
theorem entStep_0 {g : Geo} {f : Nat → Nat} {dr b : Nat} {S : RSt} {k : Nat} {e : Nat × ByteArray} {t : RT} (ht : S.T dr = some t) (h : b = 0 ∧ k = 0) : entStep g f dr b S k e = setDir S dr (addLast t.dir (dr, ⟨#[46]⟩)) := by
  unfold entStep; rw [ht]; dsimp only; rw [if_pos h]
theorem entStep_1 {g : Geo} {f : Nat → Nat} {dr b : Nat} {S : RSt} {k : Nat} {e : Nat × ByteArray} {t : RT} (ht : S.T dr = some t) (h : b = 0 ∧ k = 1) : entStep g f dr b S k e = setDir S dr (addLast t.dir (t.up, ⟨#[46, 46]⟩)) := by
  unfold entStep; rw [ht]; dsimp only; rw [if_neg (by omega), if_pos h]
theorem entStep_bad {g : Geo} {f : Nat → Nat} {dr b : Nat} {S : RSt} {k : Nat} {e : Nat × ByteArray} {t : RT} (ht : S.T dr = some t) (h : ¬ (b = 0 ∧ k < 2)) (hb : badN (nmR t) e.1 e.2 = true) : entStep g f dr b S k e = setDir S dr (addLast t.dir (0, ⟨#[]⟩)) := by
  unfold entStep; rw [ht]; dsimp only; rw [if_neg (by omega), if_neg (by omega), if_pos hb]
theorem entStep_none {g : Geo} {f : Nat → Nat} {dr b : Nat} {S : RSt} {k : Nat} {e : Nat × ByteArray} {t : RT} (ht : S.T dr = some t) (h : ¬ (b = 0 ∧ k < 2)) (hb : badN (nmR t) e.1 e.2 = false) (hs : stayR g f S dr e.1 = none) : entStep g f dr b S k e = setDir S dr (addLast t.dir (0, ⟨#[]⟩)) := by
  unfold entStep; rw [ht]; dsimp only; rw [if_neg (by omega), if_neg (by omega), hb, if_neg (by decide), hs]
theorem entStep_some {g : Geo} {f : Nat → Nat} {dr b : Nat} {S S' : RSt} {k : Nat} {e : Nat × ByteArray} {t : RT} (ht : S.T dr = some t) (h : ¬ (b = 0 ∧ k < 2)) (hb : badN (nmR t) e.1 e.2 = false) (hs : stayR g f S dr e.1 = some S') : entStep g f dr b S k e = setDir S' dr (addLast t.dir e) := by
  unfold entStep; rw [ht]; dsimp only; rw [if_neg (by omega), if_neg (by omega), hb, if_neg (by decide), hs]
theorem own_frozen {w : World} {base e size n g cap : Nat} {xs : List Value} (h : w.ownsRow base e size (.slice (some ⟨g, 0, none⟩) n cap) n xs) (i : Nat) : w.frozen? ⟨g, i, none⟩ = false := by
  rcases h.2 with ⟨h1, _⟩ | ⟨g', cap', cur, hv, _, hg, _⟩
  · cases h1
  · cases hv
    exact frozen_of_row w g i cur e hg
theorem infoSE : (Tryz.prog.info? 37).map (fun i => (i.zero, i.size, i.bytes)) = some (some (.slice none 0 0), 1, 24) := by kernel_rfl
set_option maxRecDepth 1000000 in
set_option maxHeartbeats 8000000 in
theorem rentries_c (g : Geo) (f : Nat → Nat) (L : RLoc) (w : World) (lb : Lab) (adr : Nat → Option Nat) (S : RSt) (h : RS g f L w lb adr S) (dr B : Nat) (hd : adr dr = some B) (up : Nat) (lead : List Nat) (hdo : DirOk S dr up lead []) (hz : S.z = false) (hll : lead.length ≤ 100000) (hlead : ∀ p ∈ lead, p < g.total)
    (hP : ∀ p ∈ lead, ∀ j, j < 32 → (blkE (fun q => f (p * 1024 + q)) j).1 = dr ∨ Plain g f (blkE (fun q => f (p * 1024 + q)) j).1) :
    Calls Tryz.prog 59 #[.pointer (some ⟨L.R, 0, none⟩), .int .i64 dr] w fun e w' => e = .returned (.tuple #[]) ∧ RPost g f L w lb adr w' (entAll g f dr S lead.length) := by
  obtain ⟨i0, hi, iz0, iz1, iz2⟩ := info_parts infoE
  obtain ⟨j0, hj0, hy0, hy1, hy2⟩ := info_parts infoSE
  obtain ⟨ov, hRp, hov⟩ := h.rp
  have c2 := hRp.cell 2
  simp only [List.getElem?_cons_zero, List.getElem?_cons_succ] at c2
  have lR := hRp.lt; have lT := h.tt.lt; have lD := h.dk.lt
  obtain ⟨t, ht, hup, hld, hdr⟩ := hdo
  have kdr : dr < g.inodes + 1 := by have := (h.in_ dr (by rw [ht]; simp)).2; omega
  have ctx := h.tt.cell dr
  rw [adrL_get _ _ _ kdr, hd] at ctx
  simp only [Option.map_some] at ctx
  have H := Lib.hid h; have HD := Lib.hid hd
  have hinv0 : DirOk S dr up lead [] ∧ S.z = false := ⟨⟨t, ht, hup, hld, hdr⟩, hz⟩
  have HI0 := Lib.hid hinv0
  have HLD := Lib.hid hlead; have HP := Lib.hid hP
  clear hRp hov h hd ht hup hld hdr hz hinv0 hlead hP
  go_enter Tryz.func59, Tryz.ntmps59
  go_wp2_with fail
  go_loopw [5] (fun b' wr => ∃ b : Nat, b ≤ lead.length ∧ b' = .int .i64 b ∧ (∃ d, DirOk (entAll g f dr S b) dr up lead d ∧ d.length = b) ∧ (entAll g f dr S b).z = false ∧ RPost g f L w lb adr wr (entAll g f dr S b)) (fun b' _ => lead.length - (intOf b').toNat)
  case atStart => exact ⟨0, Nat.zero_le _, rfl, ⟨[], HI0.out.1, rfl⟩, HI0.out.2, ⟨lb, adr, H.out, Ext.refl _ _, fun _ _ e => e, Mods.refl _ _⟩⟩
  case round =>
    obtain ⟨b, hb, rfl, ⟨d, hdo, hdl⟩, hzb, lb1, adr1, hS1, hx1, ha1, hm1⟩ := hrel
    obtain ⟨S1, hS1e⟩ : ∃ S1, S1 = entAll g f dr S b := ⟨_, rfl⟩
    rw [← hS1e] at hdo hzb hS1
    obtain ⟨t1, ht1, hup1, hld1, hdr1⟩ := hdo
    have hB1 := ha1 dr B HD.out
    obtain ⟨dv, lv, dvs, hO1⟩ := hS1.obj dr B t1 hB1 ht1
    obtain ⟨ov1, hRp1, hov1⟩ := hS1.rp
    obtain ⟨A, capl, rfl⟩ := own_form hO1.lead.1
    have b15 : wr.cell? ⟨B, 15, none⟩ = some (.slice A t1.lead.length capl) := hO1.blk.cell 15
    rw [hld1] at b15
    have lB1 := hO1.blk.lt
    have hz1 := hm1.size
    by_cases hlt : b < lead.length
    · obtain ⟨GA, capA, hA, _⟩ := own_some hO1.lead.1 (by rw [hld1]; omega)
      cases hA
      obtain ⟨p, hp⟩ : ∃ p, lead[b]? = some p := ⟨_, List.getElem?_eq_getElem hlt⟩
      have ca := own_at hO1.lead.1 (k := b) (u := .int .i64 (p : Nat)) (by rw [hld1]; simp [natsV, hp])
      have lGA := lt_of_cell ca
      have hpm := List.mem_of_getElem? hp
      have hpt := HLD.out p hpm
      have hpe : lead.getD b 0 = p := by rw [List.getD_eq_getElem?_getD, hp]; rfl
      have b0 : wr.cell? ⟨L.R, 0, none⟩ = some (.pointer (some ⟨L.D, 0, none⟩)) := hRp1.cell 0
      have b4 : wr.cell? ⟨L.R, 4, none⟩ = some (.bool S1.z) := hRp1.cell 4
      rw [hzb] at b4
      have lR1 := hRp1.lt
      have BC := fun W (hb : Below wr.heap.size wr W) => rblock_c g hS1.img.ok L.D L.b L.o L.N L.cap p hS1.img.n hS1.img.nc hS1.img.capb hpt W (hS1.dk.below hb hS1.dk.lt)
      have EC := fun W cp (hc : 1024 ≤ cp) (hb : Below wr.heap.size wr W) => rents_c L.b (L.o + p * 1024) cp (fun j => f (p * 1024 + j)) (fun j => hS1.img.byte _) W ((hS1.img.blk hpt).below hb) hc
      obtain ⟨E, hE⟩ : ∃ E, E = blkE fun j => f (p * 1024 + j) := ⟨_, rfl⟩
      rw [← hE] at EC
      have HBC := Lib.hid BC; have HEC := Lib.hid EC; have HS1 := Lib.hid hS1; have HO1 := Lib.hid hO1; have HX1 := Lib.hid hx1; have HA1 := Lib.hid ha1; have HM1 := Lib.hid hm1; have HB1 := Lib.hid hB1; have HT1 := Lib.hid ht1; have HU1 := Lib.hid hup1; have HL1 := Lib.hid hld1; have HDR := Lib.hid hdr1; have HZB := Lib.hid hzb; have HPE := Lib.hid hpe; have HE := Lib.hid hE; have HDL := Lib.hid hdl; have HSE := Lib.hid hS1e; have HPM := Lib.hid hpm
      clear BC EC hS1 hO1 hx1 ha1 hm1 hB1 ht1 hup1 hld1 hdr1 hzb hpe hE hdl hS1e hRp1 hov1 hpm hp hpt
      go_wp2_with fail
      refine wp_region_held_drew (S := fun (w' : World) => w'.cell? ⟨L.R, 0, none⟩ = some (.pointer (some ⟨L.D, 0, none⟩)) ∧ w'.cell? ⟨B, 15, none⟩ = some (.slice (some ⟨GA, 0, none⟩) lead.length capl) ∧ w'.cell? ⟨GA, b, none⟩ = some (.int .i64 (p : Nat))) (by kernel_rfl) ⟨b0, b15, ca⟩ (fun hHeld => ?_)
      refine tkA (i := 0) (oi := ⟨_, _, _, _, _, _⟩) ?_
      simp only [putA, List.set]
      refine tkA (i := 1) (oi := ⟨_, _, _, _, _, _⟩) ?_
      simp only [putA, List.set]
      refine tkA (i := 2) (oi := ⟨_, _, _, _, _, _⟩) ?_
      simp only [putA, List.set]
      refine tkA (i := 3) (oi := ⟨_, _, _, _, _, _⟩) ?_
      simp only [putA, List.set]
      refine tkA (i := 4) (oi := ⟨_, _, _, _, _, _⟩) ?_
      simp only [putA, List.set]
      refine tkA (i := 5) (oi := ⟨_, _, _, _, _, _⟩) ?_
      simp only [putA, List.set]
      refine tkA (i := 6) (oi := ⟨_, _, _, _, _, _⟩) ?_
      simp only [putA, List.set]
      refine tkA (i := 7) (oi := ⟨_, _, _, _, _, _⟩) ?_
      simp only [putA, List.set]
      refine tkA (i := 8) (oi := ⟨_, _, _, _, _, _⟩) ?_
      simp only [putA, List.set]
      refine tkA (i := 9) (oi := ⟨_, _, _, _, _, _⟩) ?_
      simp only [putA, List.set]
      refine tkA (i := 10) (oi := ⟨_, _, _, _, _, _⟩) ?_
      simp only [putA, List.set]
      refine wpAnyH_ready (rs := [11]) (by kernel_rfl) (by simp) ?_
      refine AllReadyH.cons rfl (fun K hK => ?_) AllReadyH.nil
      go_simp
      refine (HBC.out wr.drew (Below.refl _ _).drew).mono ?_
      rintro e w2 ⟨⟨cp, hcp, rfl⟩, rfl⟩
      refine hK.out _ _ ?_ (fun hHeld => ?_)
      · exact hHeld
      clear hK K
      refine wpAnyH_ready (rs := [12]) (by kernel_rfl) (by simp) ?_
      refine AllReadyH.cons rfl (fun K hK => ?_) AllReadyH.nil
      go_simp
      refine (HEC.out wr.drew cp hcp (Below.refl _ _).drew).mono ?_
      rintro e w2 ⟨v, rfl, hv, hb2⟩
      obtain ⟨LB, capv, rfl, hcv⟩ := own_some hv (by decide)
      have hbw : Below wr.heap.size wr w2 := (Below.refl wr.heap.size wr).drew.trans hb2
      refine hK.out _ _ ?_ (fun hHeld => ?_)
      · exact ⟨(hbw.cell (p := ⟨L.R, 0, none⟩) lR1).trans b0, (hbw.cell (p := ⟨B, 15, none⟩) lB1).trans b15, (hbw.cell (p := ⟨GA, b, none⟩) lGA).trans ca⟩
      clear hK K
      refine tkA (i := 13) (oi := ⟨_, _, _, _, _, _⟩) ?_
      simp only [putA, List.set]
      refine wpAnyH_done (by kernel_rfl) ?_ _
      have hz2 := hbw.size
      have e4 := (hbw.cell (p := ⟨L.R, 4, none⟩) lR1).trans b4
      have HV := Lib.hid hv; have HBW := Lib.hid hbw
      clear hHeld hb2 hv hbw
      go_upto_region 5 with fail
      go_cut [46] (fun s46 wx => s46 = .bool false ∧ wx = w2)
      case first =>
        by_cases hd1 : dr = 1
        · have td : (((dr : Nat) : Int) == 1) = true := by simp [hd1]
          clear hd1
          go_wp2_with fail
          go_meet
          exact ⟨rfl, rfl⟩
        · have td : (((dr : Nat) : Int) == 1) = false := by simp; omega
          clear hd1
          go_wp2_with fail
          go_meet
          exact ⟨rfl, rfl⟩
      case rest =>
      obtain ⟨rfl, rfl⟩ := hcut
      have hO2 := HO1.out.step (mods_of_below (s := fun _ => False) HBW.out) (Ext.refl _ _) (fun k e => e.elim)
      have b13 : wc.cell? ⟨B, 13, none⟩ = some dv := hO2.blk.cell 13
      have f13 := hO2.blk.frozen 13
      have lB2 := hO2.blk.lt
      have hdirl := own_max hO2.dir.1
      have HO2 := Lib.hid hO2
      have ndl : t1.dir.length ≤ 100000 := by have h1 : t1.dir.length = b := (by rw [HDR.out]; exact HDL.out); omega
      clear hO2 hdirl
      rw [← HDR.out] at HDL
      go_wp2_with (at_builtin; refine app_own2 [_] rfl _ _ 71 rfl 0 37 j0 (.slice none 0 0) 1 24 Tryz.underlying71 hj0 hy0 hy1 hy2 rfl (by decide) _ t1.dir.length _ rfl (by exact .inl HO2.out.dir.1) _ rfl (by simp) rfl (by simp [Value.oneCell']) (by unfold maxLen; omega) (by omega) (Nat.zero_le _) ?_
                   intro G cap3 w3 ho3 hg3 ha3 hl3
                   have hB3 := HO2.out.blk.grown hg3 (fun e => by have := HO2.out.dir.2 B e; rw [HO2.out.lab] at this; cases this)
                   have c13 : w3.cell? ⟨B, 13, none⟩ = some dv := hB3.cell 13
                   have g13 := hB3.frozen 13
                   have lB3 := hB3.lt
                   have HB3 := Lib.hid hB3; have HO3 := Lib.hid ho3; have HG3 := Lib.hid hg3; have HA3 := Lib.hid ha3
                   clear hB3 ho3 hg3 ha3)
      obtain ⟨w4, hw4⟩ : ∃ W, W = w3.setCell ⟨B, 13, none⟩ (.slice (some ⟨G, 0, none⟩) (t1.dir.length + 1) cap3) := ⟨_, rfl⟩
      obtain ⟨lb4, adr4, hS4, hx4, ha4, hm4⟩ := (HS1.out.below HBW.out).newrow HB1.out HT1.out HO2.out HO3.out HG3.out HA3.out hw4
      obtain ⟨S4, hS4e⟩ : ∃ S4, S4 = setDir S1 dr (t1.dir ++ [[]]) := ⟨_, rfl⟩
      rw [← hS4e] at hS4
      have hD4 : DirOk S4 dr up lead (t1.dir ++ [[]]) := by
        rw [hS4e, setDir_eq HT1.out]
        exact ⟨_, if_pos rfl, HU1.out, HL1.out, rfl⟩
      have hz4 : S4.z = false := by rw [hS4e]; exact HZB.out
      have hLB := own_len HV.out
      have lLB : lb1 LB = (0, 0) := HS1.out.hi LB hLB.1
      have hrow : ∀ wz, Mods (Ours lb4) w4 wz → ∀ j, j < 32 → wz.cell? ⟨LB, j * 2, none⟩ = some (.int .i64 ((E j).1 : Nat)) ∧ wz.cell? ⟨LB, j * 2 + 1, none⟩ = some (.string (E j).2) := fun wz hz j hj => by
        obtain ⟨q1, q2⟩ := entsL_get E 32 j hj
        have c1 := own_at HV.out q1
        have c2 := own_at HV.out q2
        have n1 : ¬ Ours lb1 LB := fun e => e lLB
        have n4 : ¬ Ours lb4 LB := fun e => e ((hx4 LB hLB.2.1).trans lLB)
        have l4 : LB < w4.heap.size := Nat.lt_of_lt_of_le hLB.2.1 hm4.size
        exact ⟨((hz.cell l4 n4).trans (hm4.cell hLB.2.1 n1)).trans c1, ((hz.cell l4 n4).trans (hm4.cell hLB.2.1 n1)).trans c2⟩
      have hB4 := ha4 dr B HB1.out
      have hz34 := hm4.size
      rw [← hw4]
      have lLB4 : LB < w4.heap.size := Nat.lt_of_lt_of_le hLB.2.1 hm4.size
      have HS4 := Lib.hid hS4; have HX4 := Lib.hid hx4; have HA4 := Lib.hid ha4; have HM4 := Lib.hid hm4; have HSE4 := Lib.hid hS4e; have HD4 := Lib.hid hD4; have HZ4 := Lib.hid hz4; have HROW := Lib.hid hrow; have HB4 := Lib.hid hB4
      clear hS4 hx4 ha4 hm4 hS4e hD4 hz4 hLB lLB hrow hB4 hw4
      go_wp2_with fail
      go_loopw [7] (fun i' wz => ∃ k : Nat, k ≤ 32 ∧ i' = .int .i64 k ∧ (∃ row, DirOk (entLoop g f dr b E S4 k) dr up lead (t1.dir ++ [row]) ∧ row.length = k) ∧ (entLoop g f dr b E S4 k).z = false ∧ ∃ wq, wq = wz ∧ RPost g f L w4 lb4 adr4 wq (entLoop g f dr b E S4 k)) (fun i' _ => 32 - (intOf i').toNat)
      case atStart => exact ⟨0, by omega, rfl, ⟨[], HD4.out, rfl⟩, HZ4.out, _, rfl, ⟨lb4, adr4, HS4.out, Ext.refl _ _, fun _ _ e => e, Mods.refl _ _⟩⟩
      case round =>
        obtain ⟨k, hk, rfl, ⟨row, hdo5, hrl⟩, hz5, wq, rfl, lb5, adr5, hS5, hx5, ha5, hm5⟩ := hrel
        obtain ⟨S5, hS5e⟩ : ∃ S5, S5 = entLoop g f dr b E S4 k := ⟨_, rfl⟩
        rw [← hS5e] at hdo5 hz5 hS5
        obtain ⟨t5, ht5, hup5, hld5, hdr5⟩ := hdo5
        have hB5 := ha5 dr B HB4.out
        by_cases hlk : k < 32
        · obtain ⟨c0, c1⟩ := HROW.out wq hm5 k hlk
          obtain ⟨e, he⟩ : ∃ e, e = E k := ⟨_, rfl⟩
          rw [← he] at c0 c1
          have hpl : e.1 = dr ∨ Plain g f e.1 := by rw [he, HE.out]; exact HP.out p HPM.out k hlk
          obtain ⟨dv5, lv5, dvs5, hO5⟩ := hS5.obj dr B t5 hB5 ht5
          have hstep : entLoop g f dr b E S4 (k + 1) = entStep g f dr b S5 k e := by rw [hS5e, he]; rfl
          have zq := hm5.size
          have lLB5 : LB < wq.heap.size := by omega
          have lB5 := hO5.blk.lt
          have q14 : wq.cell? ⟨B, 14, none⟩ = some (.int .i64 (t5.up : Nat)) := hO5.blk.cell 14
          rw [hup5] at q14
          have hBW1 : Below wq.heap.size wq (wq.alloc (.cells #[.int .i64 (e.1 : Nat), .string e.2] 59)) := (Below.refl _ wq).alloc (Nat.le_refl _) _
          have hE8 : Blk 59 (wq.alloc (.cells #[.int .i64 (e.1 : Nat), .string e.2] 59)) wq.heap.size [.int .i64 (e.1 : Nat), .string e.2] := Blk.newL _
          have kx1 : decide ((k : Int) < 32) = true := by simp; omega
          have HS5 := Lib.hid hS5; have HX5 := Lib.hid hx5; have HA5 := Lib.hid ha5; have HM5 := Lib.hid hm5; have HS5E := Lib.hid hS5e; have HSTEP := Lib.hid hstep; have HPL := Lib.hid hpl; have HO5 := Lib.hid hO5; have HT5 := Lib.hid ht5; have HU5 := Lib.hid hup5; have HL5 := Lib.hid hld5; have HD5 := Lib.hid hdr5; have HB5 := Lib.hid hB5; have HZ5 := Lib.hid hz5; have HRL := Lib.hid hrl; have HBW1 := Lib.hid hBW1; have HE8 := Lib.hid hE8
          clear hS5 hx5 ha5 hm5 hS5e hstep hpl hO5 ht5 hup5 hld5 hdr5 hB5 hz5 hrl he hBW1 hE8
          go_upto_block 4 with fail
          go_cut [9] (fun s9 wx => ∃ wy, wy = wx ∧ ∃ lb6 adr6 S6 t6 e6, lb6 wq.heap.size = (0, 0) ∧ RS g f L wy lb6 adr6 S6 ∧ Ext wq lb5 lb6 ∧ (∀ y B, adr5 y = some B → adr6 y = some B) ∧ Mods (Ours lb5) wq wy ∧ Blk 59 wy wq.heap.size [.int .i64 (e6.1 : Nat), .string e6.2] ∧ S6.T dr = some t6 ∧ t6.up = up ∧ t6.lead = lead ∧ t6.dir = t1.dir ++ [row] ∧ S6.z = false ∧ entStep g f dr b S5 k e = setDir S6 dr (addLast t6.dir e6))
          case first =>
            by_cases hb0 : b = 0 ∧ k < 2
            · obtain ⟨hb00, hk2⟩ := hb0
              have q1 : (((b : Nat) : Int) == 0) = true := by simp [hb00]
              by_cases hk0 : k = 0
              · have q2 : (((k : Nat) : Int) == 0) = true := by simp [hk0]
                have hst := entStep_0 (g := g) (f := f) (e := e) HT5.out ⟨hb00, hk0⟩
                have HST := Lib.hid hst
                clear hst hb00 hk0 hk2
                go_wp2_with fail
                go_meet
                exact ⟨_, rfl, lb5, adr5, S5, t5, (dr, ⟨#[46]⟩), HS5.out.hi _ (Nat.le_refl _), HS5.out.below ((Below.refl _ wq).alloc (Nat.le_refl _) _), Ext.refl _ _, fun _ _ e => e, mods_of_below ((Below.refl _ wq).alloc (Nat.le_refl _) _), Blk.newL _, HT5.out, HU5.out, HL5.out, HD5.out, HZ5.out, HST.out⟩
              · have q2 : (((k : Nat) : Int) == 0) = false := by simp; omega
                have q3 : (((k : Nat) : Int) == 1) = true := by simp; omega
                have hst := entStep_1 (g := g) (f := f) (e := e) HT5.out ⟨hb00, (by omega : k = 1)⟩
                rw [HU5.out] at hst
                have HST := Lib.hid hst
                clear hst hb00 hk0 hk2
                go_wp2_with fail
                go_meet
                exact ⟨_, rfl, lb5, adr5, S5, t5, (up, ⟨#[46, 46]⟩), HS5.out.hi _ (Nat.le_refl _), HS5.out.below ((Below.refl _ wq).alloc (Nat.le_refl _) _), Ext.refl _ _, fun _ _ e => e, mods_of_below ((Below.refl _ wq).alloc (Nat.le_refl _) _), Blk.newL _, HT5.out, HU5.out, HL5.out, HD5.out, HZ5.out, HST.out⟩
            · have HNB := Lib.hid hb0
              have hwq : wq.heap.size < (wq.alloc (.cells #[.int .i64 (e.1 : Nat), .string e.2] 59)).heap.size := by simp
              cases hbad : badN (nmR t5) e.1 e.2 with
              | true =>
                have sc := rstays_bad g f L _ lb5 adr5 S5 (HS5.out.below HBW1.out) dr B t5 HB5.out HT5.out e.1 e.2 hbad
                have hst := entStep_bad (g := g) (f := f) HT5.out hb0 hbad
                have HST := Lib.hid hst; have HSC := Lib.hid sc
                clear sc hst hbad hb0
                by_cases hbz : b = 0
                · have hk2 : ¬ k < 2 := fun q => HNB.out ⟨hbz, q⟩
                  have q1 : (((b : Nat) : Int) == 0) = true := by simp [hbz]
                  have q2 : (((k : Nat) : Int) == 0) = false := by simp; omega
                  have q3 : (((k : Nat) : Int) == 1) = false := by simp; omega
                  clear hbz hk2
                  go_wp2_with (go_at_call 100; refine HSC.out.mono ?_; rintro e7 w7 ⟨rfl, hb7⟩
                               have hE7 := HE8.out.below hb7 hwq
                               have x0 := hE7.cell 0; have x1 := hE7.cell 1; have g0 := hE7.frozen 0; have g1 := hE7.frozen 1; have l7 := hE7.lt
                               simp only [List.getElem?_cons_zero, List.getElem?_cons_succ] at x0 x1
                               have hB7 : Below wq.heap.size wq ((w7.setCell ⟨wq.heap.size, 0, none⟩ (.int .i64 0)).setCell ⟨wq.heap.size, 1, none⟩ (.string ⟨#[]⟩)) := ((HBW1.out.trans (hb7.mono (by simp))).setCell (p := ⟨wq.heap.size, 0, none⟩) (Nat.le_refl _) _).setCell (p := ⟨wq.heap.size, 1, none⟩) (Nat.le_refl _) _
                               have hEf := (hE7.set 0 (.int .i64 0)).set 1 (.string ⟨#[]⟩)
                               have HB7 := Lib.hid hB7; have HEF := Lib.hid hEf
                               clear hE7 hb7 hB7 hEf)
                  go_meet
                  exact ⟨_, rfl, lb5, adr5, S5, t5, (0, ⟨#[]⟩), HS5.out.hi _ (Nat.le_refl _), HS5.out.below HB7.out, Ext.refl _ _, fun _ _ e => e, mods_of_below HB7.out, HEF.out, HT5.out, HU5.out, HL5.out, HD5.out, HZ5.out, HST.out⟩
                · have q1 : (((b : Nat) : Int) == 0) = false := by simp; omega
                  clear hbz
                  go_wp2_with (go_at_call 100; refine HSC.out.mono ?_; rintro e7 w7 ⟨rfl, hb7⟩
                               have hE7 := HE8.out.below hb7 hwq
                               have x0 := hE7.cell 0; have x1 := hE7.cell 1; have g0 := hE7.frozen 0; have g1 := hE7.frozen 1; have l7 := hE7.lt
                               simp only [List.getElem?_cons_zero, List.getElem?_cons_succ] at x0 x1
                               have hB7 : Below wq.heap.size wq ((w7.setCell ⟨wq.heap.size, 0, none⟩ (.int .i64 0)).setCell ⟨wq.heap.size, 1, none⟩ (.string ⟨#[]⟩)) := ((HBW1.out.trans (hb7.mono (by simp))).setCell (p := ⟨wq.heap.size, 0, none⟩) (Nat.le_refl _) _).setCell (p := ⟨wq.heap.size, 1, none⟩) (Nat.le_refl _) _
                               have hEf := (hE7.set 0 (.int .i64 0)).set 1 (.string ⟨#[]⟩)
                               have HB7 := Lib.hid hB7; have HEF := Lib.hid hEf
                               clear hE7 hb7 hB7 hEf)
                  go_meet
                  exact ⟨_, rfl, lb5, adr5, S5, t5, (0, ⟨#[]⟩), HS5.out.hi _ (Nat.le_refl _), HS5.out.below HB7.out, Ext.refl _ _, fun _ _ e => e, mods_of_below HB7.out, HEF.out, HT5.out, HU5.out, HL5.out, HD5.out, HZ5.out, HST.out⟩
              | false =>
                have sc := rstays_ok g f L _ lb5 adr5 S5 (HS5.out.below HBW1.out) dr B t5 HB5.out HT5.out e.1 e.2 hbad (fun hn => HPL.out.resolve_left fun q => by rw [q, HT5.out] at hn; cases hn)
                cases hsr : stayR g f S5 dr e.1 with
                | none =>
                  have hst := entStep_none (g := g) (f := f) HT5.out hb0 hbad hsr
                  have sc2 := sc.mono fun e w' h => h.1 hsr
                  have HST := Lib.hid hst; have HSC := Lib.hid sc2
                  clear sc sc2 hst hbad hsr hb0
                  by_cases hbz : b = 0
                  · have hk2 : ¬ k < 2 := fun q => HNB.out ⟨hbz, q⟩
                    have q1 : (((b : Nat) : Int) == 0) = true := by simp [hbz]
                    have q2 : (((k : Nat) : Int) == 0) = false := by simp; omega
                    have q3 : (((k : Nat) : Int) == 1) = false := by simp; omega
                    clear hbz hk2
                    go_wp2_with (go_at_call 100; refine HSC.out.mono ?_; rintro e7 w7 ⟨rfl, hb7⟩
                                 have hE7 := HE8.out.below hb7 hwq
                                 have x0 := hE7.cell 0; have x1 := hE7.cell 1; have g0 := hE7.frozen 0; have g1 := hE7.frozen 1; have l7 := hE7.lt
                                 simp only [List.getElem?_cons_zero, List.getElem?_cons_succ] at x0 x1
                                 have hB7 : Below wq.heap.size wq ((w7.setCell ⟨wq.heap.size, 0, none⟩ (.int .i64 0)).setCell ⟨wq.heap.size, 1, none⟩ (.string ⟨#[]⟩)) := ((HBW1.out.trans (hb7.mono (by simp))).setCell (p := ⟨wq.heap.size, 0, none⟩) (Nat.le_refl _) _).setCell (p := ⟨wq.heap.size, 1, none⟩) (Nat.le_refl _) _
                                 have hEf := (hE7.set 0 (.int .i64 0)).set 1 (.string ⟨#[]⟩)
                                 have HB7 := Lib.hid hB7; have HEF := Lib.hid hEf
                                 clear hE7 hb7 hB7 hEf)
                    go_meet
                    exact ⟨_, rfl, lb5, adr5, S5, t5, (0, ⟨#[]⟩), HS5.out.hi _ (Nat.le_refl _), HS5.out.below HB7.out, Ext.refl _ _, fun _ _ e => e, mods_of_below HB7.out, HEF.out, HT5.out, HU5.out, HL5.out, HD5.out, HZ5.out, HST.out⟩
                  · have q1 : (((b : Nat) : Int) == 0) = false := by simp; omega
                    clear hbz
                    go_wp2_with (go_at_call 100; refine HSC.out.mono ?_; rintro e7 w7 ⟨rfl, hb7⟩
                                 have hE7 := HE8.out.below hb7 hwq
                                 have x0 := hE7.cell 0; have x1 := hE7.cell 1; have g0 := hE7.frozen 0; have g1 := hE7.frozen 1; have l7 := hE7.lt
                                 simp only [List.getElem?_cons_zero, List.getElem?_cons_succ] at x0 x1
                                 have hB7 : Below wq.heap.size wq ((w7.setCell ⟨wq.heap.size, 0, none⟩ (.int .i64 0)).setCell ⟨wq.heap.size, 1, none⟩ (.string ⟨#[]⟩)) := ((HBW1.out.trans (hb7.mono (by simp))).setCell (p := ⟨wq.heap.size, 0, none⟩) (Nat.le_refl _) _).setCell (p := ⟨wq.heap.size, 1, none⟩) (Nat.le_refl _) _
                                 have hEf := (hE7.set 0 (.int .i64 0)).set 1 (.string ⟨#[]⟩)
                                 have HB7 := Lib.hid hB7; have HEF := Lib.hid hEf
                                 clear hE7 hb7 hB7 hEf)
                    go_meet
                    exact ⟨_, rfl, lb5, adr5, S5, t5, (0, ⟨#[]⟩), HS5.out.hi _ (Nat.le_refl _), HS5.out.below HB7.out, Ext.refl _ _, fun _ _ e => e, mods_of_below HB7.out, HEF.out, HT5.out, HU5.out, HL5.out, HD5.out, HZ5.out, HST.out⟩
                | some S' =>
                  have hst := entStep_some (g := g) (f := f) HT5.out hb0 hbad hsr
                  have sc2 := sc.mono fun e w' h => h.2 S' hsr
                  obtain ⟨hz', t', ht', hu', hl', hd'⟩ := stayR_dir hsr HT5.out
                  rw [HD5.out] at hst
                  have HST := Lib.hid hst; have HSC := Lib.hid sc2
                  have HZ' := Lib.hid (hz'.trans HZ5.out); have HT' := Lib.hid ht'; have HU' := Lib.hid (hu'.trans HU5.out); have HL' := Lib.hid (hl'.trans HL5.out); have HD' := Lib.hid (hd'.trans HD5.out)
                  clear sc sc2 hst hbad hsr hb0 hz' ht' hu' hl' hd'
                  by_cases hbz : b = 0
                  · have hk2 : ¬ k < 2 := fun q => HNB.out ⟨hbz, q⟩
                    have q1 : (((b : Nat) : Int) == 0) = true := by simp [hbz]
                    have q2 : (((k : Nat) : Int) == 0) = false := by simp; omega
                    have q3 : (((k : Nat) : Int) == 1) = false := by simp; omega
                    clear hbz hk2
                    go_wp2_with (go_at_call 100; refine HSC.out.mono ?_; rintro e7 w7 ⟨rfl, hp7⟩
                                 have HP7 := Lib.hid hp7
                                 clear hp7)
                    go_meet
                    obtain ⟨lb7, adr7, hS7, hx7, ha7, hm7⟩ := HP7.out
                    exact ⟨_, rfl, lb7, adr7, S', t', e, (hx7 _ hwq).trans (HS5.out.hi _ (Nat.le_refl _)), hS7, fun q hq => hx7 q (by omega), ha7, (mods_of_below HBW1.out).trans hm7 (fun _ _ e => e), HE8.out.mods hm7 (fun q => q (HS5.out.hi _ (Nat.le_refl _))), HT'.out, HU'.out, HL'.out, HD'.out, HZ'.out, by rw [HD'.out]; exact HST.out⟩
                  · have q1 : (((b : Nat) : Int) == 0) = false := by simp; omega
                    clear hbz
                    go_wp2_with (go_at_call 100; refine HSC.out.mono ?_; rintro e7 w7 ⟨rfl, hp7⟩
                                 have HP7 := Lib.hid hp7
                                 clear hp7)
                    go_meet
                    obtain ⟨lb7, adr7, hS7, hx7, ha7, hm7⟩ := HP7.out
                    exact ⟨_, rfl, lb7, adr7, S', t', e, (hx7 _ hwq).trans (HS5.out.hi _ (Nat.le_refl _)), hS7, fun q hq => hx7 q (by omega), ha7, (mods_of_below HBW1.out).trans hm7 (fun _ _ e => e), HE8.out.mods hm7 (fun q => q (HS5.out.hi _ (Nat.le_refl _))), HT'.out, HU'.out, HL'.out, HD'.out, HZ'.out, by rw [HD'.out]; exact HST.out⟩
          case rest =>
          obtain ⟨wy, rfl, lb6, adr6, S6, t6, e6, lE6, hS6, hx6, ha6, hm6, hE6, ht6, hu6, hl6, hd6, hz6, hst⟩ := hcut
          have hB6 := ha6 dr B HB5.out
          obtain ⟨dv6, lv6, dvs6, hO6⟩ := hS6.obj dr B t6 hB6 ht6
          have hdl6 : t6.dir.length = b + 1 := by rw [hd6, List.length_append, HDL.out]; rfl
          have hOD := hO6.dir
          rw [hdl6] at hOD
          obtain ⟨G0, capd, rfl, _⟩ := own_some hOD.1 (by omega)
          obtain ⟨v6, hv6⟩ : ∃ v, dvs6[b]? = some v := ⟨_, List.getElem?_eq_getElem (by rw [hO6.len, hdl6]; omega)⟩
          have hbl : b = t1.dir.length := HDL.out.symm
          have hr6 := hO6.row b v6 row hv6 (by rw [hd6, hbl]; simp)
          obtain ⟨Av, capv6, rfl⟩ := own_form hr6.1
          have x13 : wy.cell? ⟨B, 13, none⟩ = some (.slice (some ⟨G0, 0, none⟩) (b + 1) capd) := hO6.blk.cell 13
          have xg := own_at hOD.1 hv6
          have x0 : wy.cell? ⟨wq.heap.size, 0, none⟩ = some (.int .i64 (e6.1 : Nat)) := hE6.cell 0
          have x1 : wy.cell? ⟨wq.heap.size, 1, none⟩ = some (.string e6.2) := hE6.cell 1
          have lG0 := lt_of_cell xg
          have fG0 : ∀ i, wy.frozen? ⟨G0, i, none⟩ = false := fun i => own_frozen hOD.1 i
          have lE8 := hE6.lt; have lB6 := hO6.blk.lt
          have nvE : (Value.slice Av row.length capv6).ownBlock ≠ some wq.heap.size := fun q => by have := hr6.2 _ q; rw [lE6] at this; have q2 := congrArg Prod.snd this; dsimp only at q2; omega
          have nvB : (Value.slice Av row.length capv6).ownBlock ≠ some B := fun q => by have := hr6.2 _ q; rw [hO6.lab] at this; have q2 := congrArg Prod.snd this; dsimp only at q2; omega
          have nvG : (Value.slice Av row.length capv6).ownBlock ≠ some G0 := fun q => by have h1 := hr6.2 _ q; have h2 := hOD.2 G0 rfl; rw [h2] at h1; have q2 := congrArg Prod.snd h1; dsimp only at q2; omega
          have nGB : G0 ≠ B := fun q => by have h2 := hOD.2 G0 rfl; rw [q, hO6.lab] at h2; have q2 := congrArg Prod.snd h2; dsimp only at q2; omega
          have nGE : G0 ≠ wq.heap.size := fun q => by have h2 := hOD.2 G0 rfl; rw [q, lE6] at h2; have q2 := congrArg Prod.snd h2; dsimp only at q2; omega
          have bi : (b : Int) < (b : Int) + 1 := by omega
          have hrl32 : row.length ≤ 32 := by have := HRL.out; omega
          have hm6z := hm6.size
          have HS6 := Lib.hid hS6; have HX6 := Lib.hid hx6; have HA6 := Lib.hid ha6; have HM6 := Lib.hid hm6; have HE6 := Lib.hid hE6; have HT6 := Lib.hid ht6; have HU6 := Lib.hid hu6; have HL6 := Lib.hid hl6; have HD6 := Lib.hid hd6; have HZ6 := Lib.hid hz6; have HST6 := Lib.hid hst; have HO6 := Lib.hid hO6; have HR6 := Lib.hid hr6; have HB6 := Lib.hid hB6; have HV6 := Lib.hid hv6; have HOD := Lib.hid hOD; have HBL := Lib.hid hbl; have NVE := Lib.hid nvE; have NVB := Lib.hid nvB; have NVG := Lib.hid nvG; have HLE6 := Lib.hid lE6
          clear hS6 hx6 ha6 hm6 hE6 ht6 hu6 hl6 hd6 hz6 hst hO6 hr6 hB6 hv6 hOD hdl6 hbl nvE nvB nvG lE6
          obtain ⟨WA, hWA⟩ : ∃ W, W = (wy.alloc (.cells #[.int .i64 (e6.1 : Nat), .string e6.2] 59)).drew := ⟨_, rfl⟩
          have hBWA : Below wy.heap.size wy WA := by rw [hWA]; exact ((Below.refl _ wy).alloc (Nat.le_refl _) _).drew
          have hnews : ∀ (j : Nat) (u : Value), ([.int .i64 (e6.1 : Nat), .string e6.2] : List Value)[j]? = some u → WA.cell? ((⟨wy.heap.size, 0, none⟩ : Addr).add j) = some u := by
            rw [hWA]; exact cells_new2 wy wy.heap.size (.int .i64 (e6.1 : Nat)) (.string e6.2) 59 rfl
          have hzA : WA.heap.size = wy.heap.size + 1 := by rw [hWA]; simp [World.drew]
          have cA : ∀ a : Addr, a.block < wy.heap.size → WA.cell? a = wy.cell? a := fun a ha => hBWA.cell ha
          have fA : ∀ a : Addr, a.block < wy.heap.size → WA.frozen? a = wy.frozen? a := fun a ha => hBWA.frozen ha
          have HWA := Lib.hid hWA; have HBWA := Lib.hid hBWA; have HNW := Lib.hid hnews; have HZA := Lib.hid hzA; have HCA := Lib.hid cA; have HFA := Lib.hid fA
          clear hWA hBWA hnews hzA cA fA
          go_wp2_with fail
          refine wp_region_held_drew (S := fun (w' : World) => w'.cell? ⟨B, 13, none⟩ = some (.slice (some ⟨G0, 0, none⟩) (b + 1) capd) ∧ w'.cell? ⟨wq.heap.size, 0, none⟩ = some (.int .i64 (e6.1 : Nat)) ∧ w'.cell? ⟨wq.heap.size, 1, none⟩ = some (.string e6.2)) (by kernel_rfl) ⟨x13, x0, x1⟩ (fun hHeld => ?_)
          refine tkA (i := 0) (oi := ⟨_, _, _, _, _, _⟩) ?_
          simp only [putA, List.set]
          refine tkA (i := 1) (oi := ⟨_, _, _, _, _, _⟩) ?_
          simp only [putA, List.set]
          refine tkA (i := 2) (oi := ⟨_, _, _, _, _, _⟩) ?_
          simp only [putA, List.set]
          refine tkA (i := 3) (oi := ⟨_, _, _, _, _, _⟩) ?_
          simp only [putA, List.set]
          refine tkA (i := 4) (oi := ⟨_, _, _, _, _, _⟩) ?_
          simp only [putA, List.set]
          refine tkA (i := 5) (oi := ⟨_, _, _, _, _, _⟩) ?_
          simp only [putA, List.set]
          refine tkA (i := 6) (oi := ⟨_, _, _, _, _, _⟩) ?_
          simp only [putA, List.set]
          refine tkA (i := 7) (oi := ⟨_, _, _, _, _, _⟩) ?_
          simp only [putA, List.set]
          refine tkA (i := 8) (oi := ⟨_, _, _, _, _, _⟩) ?_
          simp only [putA, List.set]
          refine tkA (i := 9) (oi := ⟨_, _, _, _, _, _⟩) ?_
          simp only [putA, List.set]
          refine tkA (i := 10) (oi := ⟨_, _, _, _, _, _⟩) ?_
          simp only [putA, List.set]
          refine tkA (i := 12) (oi := ⟨_, _, _, _, _, _⟩) ?_
          simp only [putA, List.set]
          refine wpAnyH_ready (rs := [11, 13]) (by kernel_rfl) (by simp) ?_
          refine AllReadyH.cons rfl (fun K hK => ?_) (AllReadyH.cons rfl (fun K hK => ?_) AllReadyH.nil)
          · go_simp
            refine hK.out _ _ hHeld (fun hHeld => ?_)
            clear hK K hHeld
            have sA : WA.cell? ⟨B, 13, none⟩ = some (.slice (some ⟨G0, 0, none⟩) (b + 1) capd) ∧ WA.cell? ⟨wq.heap.size, 0, none⟩ = some (.int .i64 (e6.1 : Nat)) ∧ WA.cell? ⟨wq.heap.size, 1, none⟩ = some (.string e6.2) := ⟨(HCA.out _ lB6).trans x13, (HCA.out _ lE8).trans x0, (HCA.out _ lE8).trans x1⟩
            refine wpAnyH_ready (rs := [13]) (by kernel_rfl) (by simp) ?_
            refine AllReadyH.cons rfl (fun K hK => ?_) AllReadyH.nil
            go_simp
            rw [← HWA.out]
            refine hK.out _ _ sA (fun hHeld => ?_)
            clear hK K hHeld
            refine wpAnyH_ready (rs := [14]) (by kernel_rfl) (by simp) ?_
            refine AllReadyH.cons rfl (fun K hK => ?_) AllReadyH.nil
            refine step_append_lies _ rfl _ _ 37 rfl 0 59 i0 (.agg #[.int .i64 0, .string ⟨#[]⟩]) 2 24 Tryz.underlying37 hi iz0 iz1 iz2 rfl (by decide) _ row.length (entsV row) rfl (own_below HR6.out.1 HBWA.out) ⟨wy.heap.size, 0, none⟩ 1 1 [.int .i64 (e6.1 : Nat), .string e6.2] rfl rfl HNW.out (by simp [Value.oneCell']) (by omega) (by unfold maxLen; omega) (by omega) (Nat.zero_le _) _ rfl ?_
            intro G8 cap8 w8 ho8 hg8 ha8 hl8
            have hz8 := hg8.size
            have zA := HZA.out
            have a8 : (Value.slice Av row.length capv6).ownBlock = some G8 ∨ WA.heap.size ≤ G8 := ha8.imp id fun e => by omega
            have s8 : w8.cell? ⟨B, 13, none⟩ = some (.slice (some ⟨G0, 0, none⟩) (b + 1) capd) ∧ w8.cell? ⟨wq.heap.size, 0, none⟩ = some (.int .i64 (e6.1 : Nat)) ∧ w8.cell? ⟨wq.heap.size, 1, none⟩ = some (.string e6.2) :=
              ⟨(hg8.cell_far ⟨B, 13, none⟩ (by show B < WA.heap.size; omega) (fun q => NVB.out q.symm)).trans sA.1, (hg8.cell_far ⟨wq.heap.size, 0, none⟩ (by show wq.heap.size < WA.heap.size; omega) (fun q => NVE.out q.symm)).trans sA.2.1, (hg8.cell_far ⟨wq.heap.size, 1, none⟩ (by show wq.heap.size < WA.heap.size; omega) (fun q => NVE.out q.symm)).trans sA.2.2⟩
            have xg8 := (hg8.cell_far ⟨G0, b, none⟩ (by show G0 < WA.heap.size; omega) (fun q => NVG.out q.symm)).trans ((HCA.out ⟨G0, b, none⟩ lG0).trans xg)
            have fg8 := (hg8.frozen_far ⟨G0, b, none⟩ (by show G0 < WA.heap.size; omega) (fun q => NVG.out q.symm)).trans ((HFA.out ⟨G0, b, none⟩ lG0).trans (fG0 b))
            have lG8 : G0 < w8.heap.size := by omega
            have lB8 : B < w8.heap.size := by omega
            have lE88 : wq.heap.size < w8.heap.size := by omega
            have HO8 := Lib.hid ho8; have HG8 := Lib.hid hg8; have HA8 := Lib.hid a8
            clear zA hz8
            refine hK.out _ _ s8 (fun hHeld => ?_)
            clear hK K
            refine tkA (i := 15) (oi := ⟨_, _, _, _, _, _⟩) ?_
            simp only [putA, List.set]
            refine wpAnyH_ready (rs := [16]) (by kernel_rfl) (by simp) ?_
            refine AllReadyH.cons rfl (fun K hK => ?_) AllReadyH.nil
            go_simp
            have hms := set_mods w8 G0 b (.slice (some ⟨G8, 0, none⟩) (row.length + 1) cap8)
            refine hK.out _ _ ⟨(hms.cell lB8 (fun q => nGB q.symm)).trans s8.1, (hms.cell lE88 (fun q => nGE q.symm)).trans s8.2.1, (hms.cell lE88 (fun q => nGE q.symm)).trans s8.2.2⟩ (fun hHeld => ?_)
            clear hK K hms
            refine wpAnyH_done (by kernel_rfl) ?_ _
            have hN := (HS6.out.below HBWA.out).push HB6.out HT6.out (HO6.out.step (mods_of_below (s := fun _ => False) HBWA.out) (Ext.refl _ _) (fun k e => e.elim)) HD6.out HBL.out HV6.out e6 HO8.out HG8.out HA8.out rfl
            have HN := Lib.hid hN
            clear hN hHeld s8 xg8 fg8 sA
            go_wp2_with fail
            go_roundw
            case rel =>
              have hst2 : entLoop g f dr b E S4 (k + 1) = setDir S6 dr (t1.dir ++ [row ++ [e6]]) := by rw [HSTEP.out, HST6.out, HD6.out, addLast_snoc]
              refine ⟨k + 1, by omega, by go_num, ⟨row ++ [e6], ?_, by rw [List.length_append, HRL.out]; rfl⟩, by rw [hst2]; exact HZ6.out, _, rfl, ?_⟩
              · rw [hst2, setDir_eq HT6.out]
                exact ⟨_, if_pos rfl, HU6.out, HL6.out, rfl⟩
              · rw [hst2]
                exact RPost.trans HX5.out HA5.out HM5.out (RPost.trans HX6.out HA6.out HM6.out (HN.out.of_below HBWA.out HS6.out.hi))
            case measure => simp [intOf]; omega
          · go_simp
            have sA : WA.cell? ⟨B, 13, none⟩ = some (.slice (some ⟨G0, 0, none⟩) (b + 1) capd) ∧ WA.cell? ⟨wq.heap.size, 0, none⟩ = some (.int .i64 (e6.1 : Nat)) ∧ WA.cell? ⟨wq.heap.size, 1, none⟩ = some (.string e6.2) := ⟨(HCA.out _ lB6).trans x13, (HCA.out _ lE8).trans x0, (HCA.out _ lE8).trans x1⟩
            rw [← HWA.out]
            refine hK.out _ _ sA (fun hHeld => ?_)
            clear hK K
            refine wpAnyH_ready (rs := [11]) (by kernel_rfl) (by simp) ?_
            refine AllReadyH.cons rfl (fun K hK => ?_) AllReadyH.nil
            have xgA := (HCA.out ⟨G0, b, none⟩ lG0).trans xg
            go_simp
            refine hK.out _ _ sA (fun hHeld => ?_)
            clear hK K hHeld xgA
            refine wpAnyH_ready (rs := [14]) (by kernel_rfl) (by simp) ?_
            refine AllReadyH.cons rfl (fun K hK => ?_) AllReadyH.nil
            refine step_append_lies _ rfl _ _ 37 rfl 0 59 i0 (.agg #[.int .i64 0, .string ⟨#[]⟩]) 2 24 Tryz.underlying37 hi iz0 iz1 iz2 rfl (by decide) _ row.length (entsV row) rfl (own_below HR6.out.1 HBWA.out) ⟨wy.heap.size, 0, none⟩ 1 1 [.int .i64 (e6.1 : Nat), .string e6.2] rfl rfl HNW.out (by simp [Value.oneCell']) (by omega) (by unfold maxLen; omega) (by omega) (Nat.zero_le _) _ rfl ?_
            intro G8 cap8 w8 ho8 hg8 ha8 hl8
            have hz8 := hg8.size
            have zA := HZA.out
            have a8 : (Value.slice Av row.length capv6).ownBlock = some G8 ∨ WA.heap.size ≤ G8 := ha8.imp id fun e => by omega
            have s8 : w8.cell? ⟨B, 13, none⟩ = some (.slice (some ⟨G0, 0, none⟩) (b + 1) capd) ∧ w8.cell? ⟨wq.heap.size, 0, none⟩ = some (.int .i64 (e6.1 : Nat)) ∧ w8.cell? ⟨wq.heap.size, 1, none⟩ = some (.string e6.2) :=
              ⟨(hg8.cell_far ⟨B, 13, none⟩ (by show B < WA.heap.size; omega) (fun q => NVB.out q.symm)).trans sA.1, (hg8.cell_far ⟨wq.heap.size, 0, none⟩ (by show wq.heap.size < WA.heap.size; omega) (fun q => NVE.out q.symm)).trans sA.2.1, (hg8.cell_far ⟨wq.heap.size, 1, none⟩ (by show wq.heap.size < WA.heap.size; omega) (fun q => NVE.out q.symm)).trans sA.2.2⟩
            have xg8 := (hg8.cell_far ⟨G0, b, none⟩ (by show G0 < WA.heap.size; omega) (fun q => NVG.out q.symm)).trans ((HCA.out ⟨G0, b, none⟩ lG0).trans xg)
            have fg8 := (hg8.frozen_far ⟨G0, b, none⟩ (by show G0 < WA.heap.size; omega) (fun q => NVG.out q.symm)).trans ((HFA.out ⟨G0, b, none⟩ lG0).trans (fG0 b))
            have lG8 : G0 < w8.heap.size := by omega
            have lB8 : B < w8.heap.size := by omega
            have lE88 : wq.heap.size < w8.heap.size := by omega
            have HO8 := Lib.hid ho8; have HG8 := Lib.hid hg8; have HA8 := Lib.hid a8
            clear zA hz8
            refine hK.out _ _ s8 (fun hHeld => ?_)
            clear hK K
            refine tkA (i := 15) (oi := ⟨_, _, _, _, _, _⟩) ?_
            simp only [putA, List.set]
            refine wpAnyH_ready (rs := [16]) (by kernel_rfl) (by simp) ?_
            refine AllReadyH.cons rfl (fun K hK => ?_) AllReadyH.nil
            go_simp
            have hms := set_mods w8 G0 b (.slice (some ⟨G8, 0, none⟩) (row.length + 1) cap8)
            refine hK.out _ _ ⟨(hms.cell lB8 (fun q => nGB q.symm)).trans s8.1, (hms.cell lE88 (fun q => nGE q.symm)).trans s8.2.1, (hms.cell lE88 (fun q => nGE q.symm)).trans s8.2.2⟩ (fun hHeld => ?_)
            clear hK K hms
            refine wpAnyH_done (by kernel_rfl) ?_ _
            have hN := (HS6.out.below HBWA.out).push HB6.out HT6.out (HO6.out.step (mods_of_below (s := fun _ => False) HBWA.out) (Ext.refl _ _) (fun k e => e.elim)) HD6.out HBL.out HV6.out e6 HO8.out HG8.out HA8.out rfl
            have HN := Lib.hid hN
            clear hN hHeld s8 xg8 fg8 sA
            go_wp2_with fail
            go_roundw
            case rel =>
              have hst2 : entLoop g f dr b E S4 (k + 1) = setDir S6 dr (t1.dir ++ [row ++ [e6]]) := by rw [HSTEP.out, HST6.out, HD6.out, addLast_snoc]
              refine ⟨k + 1, by omega, by go_num, ⟨row ++ [e6], ?_, by rw [List.length_append, HRL.out]; rfl⟩, by rw [hst2]; exact HZ6.out, _, rfl, ?_⟩
              · rw [hst2, setDir_eq HT6.out]
                exact ⟨_, if_pos rfl, HU6.out, HL6.out, rfl⟩
              · rw [hst2]
                exact RPost.trans HX5.out HA5.out HM5.out (RPost.trans HX6.out HA6.out HM6.out (HN.out.of_below HBWA.out HS6.out.hi))
            case measure => simp [intOf]; omega
        · obtain rfl : k = 32 := by omega
          have HS5 := Lib.hid hS5; have HX5 := Lib.hid hx5; have HA5 := Lib.hid ha5; have HM5 := Lib.hid hm5; have HS5E := Lib.hid hS5e
          have hfin : entAll g f dr S (b + 1) = S5 := by
            show entBlk g f dr (entAll g f dr S b) b = S5
            unfold entBlk
            rw [← HSE.out, HT1.out]
            dsimp only
            rw [HL1.out, HPE.out, ← HE.out, ← HSE4.out, hS5e]
          have hd6 : DirOk S5 dr up lead (t1.dir ++ [row]) := ⟨t5, ht5, hup5, hld5, hdr5⟩
          have hlen6 : (t1.dir ++ [row]).length = b + 1 := by rw [List.length_append, HDL.out]; rfl
          have HF := Lib.hid hfin; have HD6 := Lib.hid hd6; have HL6 := Lib.hid hlen6; have HZ5 := Lib.hid hz5
          clear hS5 hx5 ha5 hm5 hS5e hfin hd6 hlen6 ht5 hup5 hld5 hdr5 hB5 hz5 hrl hk hlk
          go_wp2_with fail
          go_roundw
          case rel =>
            refine ⟨b + 1, by omega, by go_num, ⟨_, by rw [HF.out]; exact HD6.out, HL6.out⟩, by rw [HF.out]; exact HZ5.out, ?_⟩
            rw [HF.out]
            have p5 : RPost g f L w4 lb4 adr4 _ S5 := ⟨lb5, adr5, HS5.out, HX5.out, HA5.out, HM5.out⟩
            have p4 := RPost.trans HX4.out HA4.out HM4.out p5
            exact RPost.trans HX1.out HA1.out HM1.out (p4.of_below HBW.out HS1.out.hi)
          case measure => simp [intOf]; omega
    · have hbe : b = lead.length := by omega
      have HS1 := Lib.hid hS1; have HX1 := Lib.hid hx1; have HA1 := Lib.hid ha1; have HM1 := Lib.hid hm1; have HSE := Lib.hid hS1e
      have HBE := Lib.hid hbe
      clear hS1 hO1 hx1 ha1 hm1 hB1 ht1 hup1 hld1 hdr1 hzb hdl hS1e hRp1 hov1 hbe
      go_wp2_with fail
      refine bodyPost_end (results_none rfl _ _ _) rfl ?_
      refine ⟨rfl, ?_⟩
      rw [← HBE.out, ← HSE.out]
      exact ⟨lb1, adr1, HS1.out, HX1.out, HA1.out, HM1.out⟩
end Go.Proofs.YtbbgahffcjbloaaGreat
end

section
/- The reference's repair of an image is laid. -/
namespace Go.Proofs.YtbbgahffcjbloaaGreat
open Go.RowKit

theorem boolsL_rep (n : Nat) : boolsL (fun _ => false) n = List.replicate n (.bool false) := by
  apply List.ext_getElem?
  intro k
  by_cases h : k < n
  · rw [boolsL_get _ _ _ h]; simp [h]
  · rw [List.getElem?_eq_none (by simp [boolsL]; omega), List.getElem?_eq_none (by simp; omega)]
theorem adrL_rep (n : Nat) : adrL (fun _ => none) n = List.replicate n (.pointer none) := by
  apply List.ext_getElem?
  intro k
  by_cases h : k < n
  · rw [adrL_get _ _ _ h]; simp [h]
  · rw [List.getElem?_eq_none (by simp [adrL]; omega), List.getElem?_eq_none (by simp; omega)]
theorem infoB : (Tryz.prog.info? 4).map (fun i => (i.zero, i.size, i.bytes)) = some (some (.bool false), 1, 1) := by kernel_rfl
theorem infoT : (Tryz.prog.info? 70).map (fun i => (i.zero, i.size, i.bytes)) = some (some (.pointer none), 1, 8) := by kernel_rfl
/-- what was laid of a repair -/
structure Laid (g : Geo) (b o N cap : Nat) (w : World) (od oc ot : Option Nat) (w' : World) : Prop where
  below : Below w.heap.size w w'
  d : ∀ D, od = some D → w.heap.size ≤ D ∧ Dk g D b o N cap w'
  c : ∀ C, oc = some C → w.heap.size ≤ C ∧ Blk 4 w' C (boolsL (fun _ => false) g.blocks)
  t : ∀ T, ot = some T → w.heap.size ≤ T ∧ Blk 70 w' T (adrL (fun _ => none) (g.inodes + 1))
theorem Laid.step {g : Geo} {b o N cap : Nat} {w w1 w2 : World} {od oc ot : Option Nat} (h : Laid g b o N cap w od oc ot w1) (hb : Below w1.heap.size w1 w2) : Laid g b o N cap w od oc ot w2 :=
  ⟨h.below.trans (hb.mono h.below.size), fun D e => ⟨(h.d D e).1, (h.d D e).2.below hb (h.d D e).2.lt⟩, fun D e => ⟨(h.c D e).1, (h.c D e).2.below hb (h.c D e).2.lt⟩, fun D e => ⟨(h.t D e).1, (h.t D e).2.below hb (h.t D e).2.lt⟩⟩
theorem Laid.disk {g : Geo} {b o N cap : Nat} {w w1 : World} {oc ot : Option Nat} (h : Laid g b o N cap w none oc ot w1) : Laid g b o N cap w (some w1.heap.size) oc ot (w1.alloc (.cells #[.slice (some ⟨b, o, none⟩) N cap, .int .i64 g.gr, .int .i64 g.ino, .int .i64 g.da] 81)) := by
  have h2 := h.step ((Below.refl _ w1).alloc (Nat.le_refl _) (.cells #[.slice (some ⟨b, o, none⟩) N cap, .int .i64 g.gr, .int .i64 g.ino, .int .i64 g.da] 81))
  exact ⟨h2.below, fun D e => by cases e; exact ⟨h.below.size, Blk.newL _⟩, h2.c, h2.t⟩
theorem Laid.claim {g : Geo} {b o N cap : Nat} {w w1 : World} {od ot : Option Nat} (h : Laid g b o N cap w od none ot w1) : Laid g b o N cap w od (some w1.heap.size) ot (w1.alloc (.cells (madeCells #[.bool false] g.blocks) 4)) := by
  have h2 := h.step ((Below.refl _ w1).alloc (Nat.le_refl _) (.cells (madeCells #[.bool false] g.blocks) 4))
  refine ⟨h2.below, h2.d, fun D e => by
    cases e
    refine ⟨h.below.size, ?_⟩
    have e1 := madeCells_one (.bool false) rfl g.blocks
    rw [Nat.mul_one] at e1
    rw [boolsL_rep, ← e1]
    exact heap_alloc_new w1 _, h2.t⟩
theorem Laid.takens {g : Geo} {b o N cap : Nat} {w w1 : World} {od oc : Option Nat} (h : Laid g b o N cap w od oc none w1) : Laid g b o N cap w od oc (some w1.heap.size) (w1.alloc (.cells (madeCells #[.pointer none] (g.inodes + 1)) 70)) := by
  have h2 := h.step ((Below.refl _ w1).alloc (Nat.le_refl _) (.cells (madeCells #[.pointer none] (g.inodes + 1)) 70))
  refine ⟨h2.below, h2.d, h2.c, fun D e => by
    cases e
    refine ⟨h.below.size, ?_⟩
    have e1 := madeCells_one (.pointer none) rfl (g.inodes + 1)
    rw [Nat.mul_one] at e1
    rw [adrL_rep, ← e1]
    exact heap_alloc_new w1 _⟩
/-- the repair laid, nothing taken in -/
def rs0 : RSt := ⟨fun _ => false, fun _ => none, [], false⟩
def lab0 (R D C T : Nat) : Lab := fun k => if k = R then (0, 1) else if k = D then (0, 2) else if k = C then (0, 3) else if k = T then (0, 4) else (0, 0)
theorem Laid.rs {g : Geo} {f : Nat → Nat} {b o N cap : Nat} {w w1 : World} {D C T : Nat} (h : Laid g b o N cap w (some D) (some C) (some T) w1) (hI : ImgOk g b o N cap f w) :
    RS g f ⟨w1.heap.size, D, C, g.blocks, T, g.inodes + 1, b, o, N, cap⟩ (w1.alloc (.cells #[.pointer (some ⟨D, 0, none⟩), .slice (some ⟨C, 0, none⟩) g.blocks g.blocks, .slice (some ⟨T, 0, none⟩) (g.inodes + 1) (g.inodes + 1), .slice none 0 0, .bool false] 69)) (lab0 w1.heap.size D C T) (fun _ => none) rs0 := by
  obtain ⟨hd1, hd2⟩ := h.d D rfl
  obtain ⟨hc1, hc2⟩ := h.c C rfl
  obtain ⟨ht1, ht2⟩ := h.t T rfl
  have nDC : D ≠ C := blkNe hd2 hc2 (by decide)
  have nDT : D ≠ T := blkNe hd2 ht2 (by decide)
  have nCT : C ≠ T := blkNe hc2 ht2 (by decide)
  have lD := hd2.lt; have lC := hc2.lt; have lT := ht2.lt; have lb := hI.lt; have hz := h.below.size
  have hb : Below w1.heap.size w1 (w1.alloc (.cells #[.pointer (some ⟨D, 0, none⟩), .slice (some ⟨C, 0, none⟩) g.blocks g.blocks, .slice (some ⟨T, 0, none⟩) (g.inodes + 1) (g.inodes + 1), .slice none 0 0, .bool false] 69)) := (Below.refl _ w1).alloc (Nat.le_refl _) _
  refine ⟨⟨_, Blk.newL _, lrow_nil _ _ _ _ _⟩, hd2.below hb lD, (hI.below h.below lb).below hb (by omega), hc2.below hb lC, ht2.below hb lT, fun x => by simp [rs0], fun x B t e => by (cases e), fun x hx => absurd rfl hx, ?_, ?_, ?_, ?_, ?_, fun k hk => ?_⟩
  · exact if_pos rfl
  · show lab0 _ _ _ _ D = _
    unfold lab0; rw [if_neg (by omega), if_pos rfl]
  · show lab0 _ _ _ _ C = _
    unfold lab0; rw [if_neg (by omega), if_neg (fun e => nDC e.symm), if_pos rfl]
  · show lab0 _ _ _ _ T = _
    unfold lab0; rw [if_neg (by omega), if_neg (fun e => nDT e.symm), if_neg (fun e => nCT e.symm), if_pos rfl]
  · show lab0 _ _ _ _ b = _
    unfold lab0; rw [if_neg (by omega), if_neg (by omega), if_neg (by omega), if_neg (by omega)]
  · simp at hk
    unfold lab0; rw [if_neg (by omega), if_neg (by omega), if_neg (by omega), if_neg (by omega)]
end Go.Proofs.YtbbgahffcjbloaaGreat
end
