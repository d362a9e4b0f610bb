/- Part of the road to RootRow: RNode, RSup, RSup2, RUse, RRaw, RLike, LawN, RLike2, LikeG, GenB. -/
import Derived.Deep.RegionHeld3
import Derived.Deep.RegionLawGrows
import Derived.StillTailTactics
import Derived.BigQuiet
import Derived.Deep.QuietTactic
import Derived.Deep.DeepCutAuto
import Derived.Test.YtbbgahffcjbloaaGreatRts10
import Derived.Test.YtbbgahffcjbloaaGreatRts11
import Derived.Test.YtbbgahffcjbloaaGreatRts04
import Derived.Test.YtbbgahffcjbloaaGreatTws04
import Derived.Test.YtbbgahffcjbloaaGreatTws03
import Derived.Test.YtbbgahffcjbloaaGreatTws01
import Derived.Test.YtbbgahffcjbloaaGreatTws06
import Derived.Test.YtbbgahffcjbloaaGreatTws08
set_option linter.all false
set_option linter.unusedSimpArgs false
set_option linter.unusedVariables false
set_option linter.unusedSectionVars false
section
/- The reference's tree of an image: nodes in memory. -/
namespace Go.Proofs.YtbbgahffcjbloaaGreat
open Go.RowKit

structure Nd where
  ino : Nat
  kind : Nat
  links : Nat
  size : Nat
  blocks : List PartT
  slots : List (Nat × ByteArray)
def slotsK (t : RT) : Nat → List (Nat × ByteArray)
  | 0 => []
  | k + 1 => slotsK t k ++ (t.dir.getD k []).drop (if k = 0 then 2 else 0)
def ndF (f : Nat → Nat) (x : Nat) (t : RT) : Nd := ⟨x, t.i 0, t.i 1, t.i 2, if t.i 0 = 1 then partsK f t.i 8 else [], slotsK t t.dir.length⟩
/-- the nodes of what was taken in -/
def rawK (f : Nat → Nat) (S : RSt) : Nat → List Nd
  | 0 => []
  | n + 1 => match S.T (n + 1) with
    | some t => rawK f S n ++ [ndF f (n + 1) t]
    | none => rawK f S n
theorem rawK_length (f : Nat → Nat) (S : RSt) : ∀ n, (rawK f S n).length ≤ n
  | 0 => Nat.le_refl _
  | n + 1 => by
    have := rawK_length f S n
    unfold rawK
    split
    · rw [List.length_append]; show _ + 1 ≤ _; omega
    · omega
theorem infoNode : (Tryz.prog.info? 39).map (fun i => (i.zero, i.size, i.bytes)) = some (some (.agg #[.int .i64 0, .int .i64 0, .int .i64 0, .int .i64 0, .slice none 0 0, .slice none 0 0]), 6, 80) := by kernel_rfl
def ndV (nd : Nd) (x : Value × Value) : List Value := [.int .i64 (nd.ino : Nat), .int .i64 (nd.kind : Nat), .int .i64 (nd.links : Nat), .int .i64 (nd.size : Nat), x.1, x.2]
structure NodeAt (w : World) (base : Nat) (nd : Nd) (x : Value × Value) : Prop where
  parts : PartsAt w base x.1 nd.blocks
  slots : w.ownsRow base 59 2 x.2 nd.slots.length (entsV nd.slots)
structure NodesAt (w : World) (base : Nat) (v : Value) (l : List Nd) : Prop where
  ex : ∃ xs : List (Value × Value), xs.length = l.length ∧ w.ownsRow base 39 6 v l.length ((l.zip xs).flatMap fun p => ndV p.1 p.2) ∧ ∀ (i : Nat) (nd : Nd) (x : Value × Value), l[i]? = some nd → xs[i]? = some x → NodeAt w base nd x
/-- blocks of these kinds have not changed -/
def Calm (w : World) (s : Nat → Prop) : Prop := ∀ k, s k → k < w.heap.size → ∀ ys e fr, w.heap[k]? = some (.cells ys e fr) → e ≠ 5 ∧ e ≠ 90 ∧ e ≠ 59
theorem NodeAt.lower {w : World} {base base' : Nat} {nd : Nd} {x : Value × Value} (h : NodeAt w base nd x) (hb : base' ≤ base) : NodeAt w base' nd x := ⟨h.parts.lower hb, own_mono h.slots hb⟩
theorem NodeAt.mods {s : Nat → Prop} {w w' : World} {base : Nat} {nd : Nd} {x : Value × Value} (h : NodeAt w base nd x) (hm : Mods s w w') (hc : Calm w s) : NodeAt w' base nd x := by
  refine ⟨h.parts.mods hm (fun k hk hs => ?_) (fun k ys fr hk hs => ?_), own_mods h.slots hm fun k hk hs => ?_⟩
  · obtain ⟨xs, ho, _⟩ := h.parts
    obtain ⟨ys, fr, h2⟩ := own_block_tag ho hk
    exact (hc k hs (row_lt ho hk) ys _ fr h2).2.1 rfl
  · exact (hc k hs (Array.getElem?_eq_some_iff.1 hk).1 ys _ fr hk).1 rfl
  · obtain ⟨ys, fr, h2⟩ := own_block_tag h.slots hk
    exact (hc k hs (row_lt h.slots hk) ys _ fr h2).2.2 rfl
theorem NodesAt.nil (w : World) (base : Nat) : NodesAt w base (.slice none 0 0) [] := ⟨[], rfl, World.ownsRow_nil _ _ _ _, fun i nd x h => by cases h⟩
theorem NodesAt.mods {s : Nat → Prop} {w w' : World} {base : Nat} {v : Value} {l : List Nd} (h : NodesAt w base v l) (hm : Mods s w w') (hc : Calm w s) (hv : ∀ k, v.ownBlock = some k → ¬ s k) : NodesAt w' base v l := by
  obtain ⟨xs, h1, h2, h3⟩ := h
  exact ⟨xs, h1, own_mods h2 hm hv, fun i nd x a b => (h3 i nd x a b).mods hm hc⟩
theorem NodesAt.lower {w : World} {base base' : Nat} {v : Value} {l : List Nd} (h : NodesAt w base v l) (hb : base' ≤ base) : NodesAt w base' v l := by
  obtain ⟨xs, h1, h2, h3⟩ := h
  exact ⟨xs, h1, own_mono h2 hb, fun i nd x a b => (h3 i nd x a b).lower hb⟩
theorem NodesAt.below {w w' : World} {base : Nat} {v : Value} {l : List Nd} (h : NodesAt w base v l) (hb : Below w.heap.size w w') : NodesAt w' base v l :=
  h.mods (mods_of_below (s := fun _ => False) hb) (fun _ e => e.elim) (fun _ _ e => e)
/-- a node is appended -/
theorem NodesAt.snoc {w w3 : World} {base : Nat} {v : Value} {l : List Nd} (h : NodesAt w base v l) (nd : Nd) (x : Value × Value) (hn : NodeAt w base nd x) {G cap : Nat} (xs : List (Value × Value)) (hx1 : xs.length = l.length) (hx3 : ∀ (i : Nat) (nd : Nd) (x : Value × Value), l[i]? = some nd → xs[i]? = some x → NodeAt w base nd x)
    (ho0 : w.ownsRow base 39 6 v l.length ((l.zip xs).flatMap fun p => ndV p.1 p.2)) (ho : w3.ownsRow base 39 6 (.slice (some ⟨G, 0, none⟩) (l.length + 1) cap) (l.length + 1) (((l.zip xs).flatMap fun p => ndV p.1 p.2) ++ ndV nd x)) (hg : w.grownBy w3 v.ownBlock) : NodesAt w3 base (.slice (some ⟨G, 0, none⟩) (l.length + 1) cap) (l ++ [nd]) := by
  have hm : Mods (fun k => v.ownBlock = some k) w w3 := (Mods.refl _ w).grown hg fun _ e _ => e
  have hc : Calm w (fun k => v.ownBlock = some k) := fun k hk hl ys e fr h1 => by
    obtain ⟨ys2, fr2, h2⟩ := own_block_tag ho0 hk
    rw [h1] at h2
    have := tag_inj h2
    subst this
    decide
  refine ⟨xs ++ [x], by simp [hx1], ?_, fun i nd2 x2 a b => ?_⟩
  · rw [List.length_append, List.zip_append hx1.symm, List.flatMap_append]
    exact ho
  · by_cases hil : i < l.length
    · rw [List.getElem?_append_left hil] at a
      rw [List.getElem?_append_left (by omega)] at b
      exact (hx3 i nd2 x2 a b).mods hm hc
    · rw [List.getElem?_append_right (by omega)] at a
      rw [List.getElem?_append_right (by omega), hx1] at b
      obtain ⟨r, hr⟩ : ∃ r, r = i - l.length := ⟨_, rfl⟩
      rw [← hr] at a b
      match r, a, b with
      | 0, a, b => cases a; cases b; exact hn.mods hm hc
      | r + 1, a, b => cases a
theorem entsV_drop (d : List (Nat × ByteArray)) : ∀ n, (entsV d).drop (n * 2) = entsV (d.drop n) := by
  induction d with
  | nil => intro n; simp [entsV]
  | cons a d ih =>
    intro n
    cases n with
    | zero => simp
    | succ n =>
      have e : entsV (a :: d) = .int .i64 (a.1 : Nat) :: .string a.2 :: entsV d := rfl
      rw [e, show (n + 1) * 2 = n * 2 + 1 + 1 by omega, List.drop_succ_cons, List.drop_succ_cons, ih n, List.drop_succ_cons]
theorem entsV_append (a b : List (Nat × ByteArray)) : entsV (a ++ b) = entsV a ++ entsV b := by simp [entsV, List.flatMap_append]
theorem entsV_one (d : List (Nat × ByteArray)) : ∀ u ∈ entsV d, u.oneCell' = true := by
  intro u hu
  simp only [entsV, List.mem_flatMap] at hu
  obtain ⟨e, _, he⟩ := hu
  simp only [cellsE, List.mem_cons, List.not_mem_nil, or_false] at he
  rcases he with rfl | rfl <;> rfl
end Go.Proofs.YtbbgahffcjbloaaGreat
end

section
/- The reference's superblock, read. -/
namespace Go.Proofs.YtbbgahffcjbloaaGreat
open Go.RowKit

theorem anyH_mono2 {P : Program} {md : Region.Mode} {ops : Array Oper} {Q : Exit → Act → World → Prop} {S : World → Prop} (S' : World → Prop) (hS : ∀ w, S' w → S w) : ∀ (fuel : Nat) (listed : Array Bool) (a : Act) (w : World), wpAnyH P md ops Q S' fuel listed a w → wpAnyH P md ops Q S fuel listed a w
  | 0, _, _, _, h => h
  | fuel + 1, _, _, _, h => ⟨h.1, fun i hi => wpOp_mono (fun a' w' h' => ⟨hS w' h'.1, anyH_mono2 S' hS fuel _ a' w' h'.2⟩) (h.2 i hi)⟩
theorem below_undrew {B : Nat} {a b : World} (h : Below B a.drew b) : Below B a b := ⟨h.os, h.tape, h.output, h.size, h.block⟩
set_option maxRecDepth 100000 in
set_option maxHeartbeats 2000000 in
theorem rsread_ok (B o cap : Nat) (f : Nat → Nat) (hf : ∀ k, f k < 256) (w : World) (h : RdB w B o 1024 f) (hok : supOk f = true) :
    Calls Tryz.prog 55 #[.slice (some ⟨B, o, none⟩) 1024 cap] w fun e w' => e = .returned (.tuple #[.agg #[.int .i64 (supG f).gr, .int .i64 (supG f).ino, .int .i64 (supG f).da], .bool true]) ∧ Below w.heap.size w w' := by
  have hBl := lt_of_cell (h 0 (by omega))
  obtain ⟨G, hG⟩ : ∃ G, G = supG f := ⟨_, rfl⟩
  rw [← hG]
  have hok2 : G.okB = true ∧ eqB (superF G) f 1024 = true := by rw [hG]; simpa [supOk] using hok
  have hGok := Geo.okB_iff.1 hok2.1
  have v1 : ∀ W c, RdB W B o 1024 f → Calls Tryz.prog 96 #[.slice (some ⟨B, o, none⟩) 1024 c, .int .i64 8, .int .i64 4] W fun e w' => e = .returned (.int .i64 G.gr) ∧ W = w' := fun W c h => by
    rw [hG]; exact rnum_c B o 1024 c 8 4 f W hf h (by omega) (by omega) (by omega)
  have v2 : ∀ W c, RdB W B o 1024 f → Calls Tryz.prog 96 #[.slice (some ⟨B, o, none⟩) 1024 c, .int .i64 12, .int .i64 4] W fun e w' => e = .returned (.int .i64 G.ino) ∧ W = w' := fun W c h => by
    rw [hG]; exact rnum_c B o 1024 c 12 4 f W hf h (by omega) (by omega) (by omega)
  have v3 : ∀ W c, RdB W B o 1024 f → Calls Tryz.prog 96 #[.slice (some ⟨B, o, none⟩) 1024 c, .int .i64 16, .int .i64 4] W fun e w' => e = .returned (.int .i64 G.da) ∧ W = w' := fun W c h => by
    rw [hG]; exact rnum_c B o 1024 c 16 4 f W hf h (by omega) (by omega) (by omega)
  have hb0 : Below w.heap.size w (w.alloc (.cells #[.int .i64 0, .int .i64 0, .int .i64 0] 24)) := (Below.refl _ _).alloc (Nat.le_refl _) _
  have hb1 : Below w.heap.size w ((w.alloc (.cells #[.int .i64 0, .int .i64 0, .int .i64 0] 24)).alloc (.cells #[.int .i64 G.gr, .int .i64 G.ino, .int .i64 G.da] 24)) := hb0.alloc (by simp) _
  have HB0 := Lib.hid hb0; have HB1 := Lib.hid hb1
  have V1 := Lib.hid v1; have V2 := Lib.hid v2; have V3 := Lib.hid v3; have HG := Lib.hid hG; have HR := Lib.hid h; have HE := Lib.hid hok2.2; have HOK := Lib.hid hGok
  have HF := Lib.hid hf
  clear v1 v2 v3 hG h hok hok2 hGok hb0 hb1
  go_enter Tryz.func55, Tryz.ntmps55
  go_wp2_with (first
    | (go_at_call 96; with_reducible refine (V1.out _ _ (HR.out.below HB0.out)).mono ?_; rintro e w2 ⟨rfl, rfl⟩)
    | (go_at_call 96; with_reducible refine (V2.out _ _ (HR.out.below HB0.out)).mono ?_; rintro e w2 ⟨rfl, rfl⟩)
    | (go_at_call 96; with_reducible refine (V3.out _ _ (HR.out.below HB0.out)).mono ?_; rintro e w2 ⟨rfl, rfl⟩)
    | (go_at_call 74; refine (rcheck_ok G HOK.out _).mono ?_; rintro e w2 ⟨rfl, hb⟩))
  obtain ⟨W, hW⟩ : ∃ W, W = (w.alloc (.cells #[.int .i64 0, .int .i64 0, .int .i64 0] 24)).alloc (.cells #[.int .i64 G.gr, .int .i64 G.ino, .int .i64 G.da] 24) := ⟨_, rfl⟩
  have hkG : Blk 24 W (w.heap.size + 1) [.int .i64 G.gr, .int .i64 G.ino, .int .i64 G.da] := by rw [hW]; exact Blk.snd _ _
  have hk0 : Blk 24 W w.heap.size [.int .i64 0, .int .i64 0, .int .i64 0] := by rw [hW]; exact Blk.fst _ _
  have hbw : Below w.heap.size w w2 := by
    have h1 := HB1.out; rw [← hW] at h1 hb; exact h1.trans (hb.mono h1.size)
  rw [← hW] at hb
  have hkG2 := hkG.below hb hkG.lt
  have hk02 := hk0.below hb hk0.lt
  have g0 := hkG2.cell 0; have g1 := hkG2.cell 1; have g2 := hkG2.cell 2
  simp only [List.getElem?_cons_zero, List.getElem?_cons_succ] at g0 g1 g2
  have CV := fun W (hr : RdB W B o 1024 f) => conv_str (P := Tryz.prog) W 25 9 5 B o 1024 cap f HF.out hr Tryz.underlying25 Tryz.underlying5 Tryz.underlying9
  have cv := CV w2.drew (HR.out.below hbw.drew)
  have hbl2 := hkG2.lt
  have HBW := Lib.hid hbw; have HKG := Lib.hid hkG2; have HK0 := Lib.hid hk02; have HCV := Lib.hid CV
  clear hb hkG hk0 hbw hkG2 hk02 hW CV
  refine wp_region_held_drew (S := (fun (w' : World) => w'.cell? ⟨w.heap.size + 1, 0, none⟩ = some (.int .i64 G.gr) ∧ w'.cell? ⟨w.heap.size + 1, 1, none⟩ = some (.int .i64 G.ino) ∧ w'.cell? ⟨w.heap.size + 1, 2, none⟩ = some (.int .i64 G.da) ∧ (convert 25 9 (.slice (some ⟨B, o, none⟩) 1024 cap)).run Tryz.prog w' = .ok (.string (strOf f 1024)) w')) (by kernel_rfl) ⟨g0, g1, g2, cv⟩ (fun hHeld => ?_)
  refine tkA (i := 0) (oi := ⟨_, _, _, _, _, _⟩) ?_
  simp only [putA, List.set]
  refine tkA (i := 1) (oi := ⟨_, _, _, _, _, _⟩) ?_
  simp only [putA, List.set]
  refine tkA (i := 2) (oi := ⟨_, _, _, _, _, _⟩) ?_
  simp only [putA, List.set]
  refine tkA (i := 3) (oi := ⟨_, _, _, _, _, _⟩) ?_
  simp only [putA, List.set]
  refine tkA (i := 6) (oi := ⟨_, _, _, _, _, _⟩) ?_
  simp only [putA, List.set]
  refine tkA (i := 7) (oi := ⟨_, _, _, _, _, _⟩) ?_
  simp only [putA, List.set]
  refine wpAnyH_ready (rs := [4]) (by kernel_rfl) (by simp) ?_
  refine AllReadyH.cons rfl (fun K hK => ?_) AllReadyH.nil
  go_simp
  refine (rsuper_c G HOK.out _).mono ?_
  rintro e w3 ⟨P, pc, rfl, ho, hb⟩
  have hb' := below_undrew hb
  have hkG3 := HKG.out.below hb' HKG.out.lt
  have hk03 := HK0.out.below hb' HK0.out.lt
  have hbw3 := HBW.out.trans (hb'.mono HBW.out.size)
  have k0 := hkG3.cell 0; have k1 := hkG3.cell 1; have k2 := hkG3.cell 2
  simp only [List.getElem?_cons_zero, List.getElem?_cons_succ] at k0 k1 k2
  have cv3 := HCV.out w3 (HR.out.below hbw3)
  have cs3 := conv_str (P := Tryz.prog) w3 25 9 5 P 0 1024 pc (superF G) (superF_lt G) (own_rdB ho) Tryz.underlying25 Tryz.underlying5 Tryz.underlying9
  have te : ((strOf (superF G) 1024).toList == (strOf f 1024).toList) = true := by
    rw [str_eq (superF_lt G) HF.out, decide_eq_true_eq]
    exact ⟨rfl, by have := HE.out; simpa [eqB] using this⟩
  refine hK.out _ _ ?_ (fun hHeld => ?_)
  · exact ⟨k0, k1, k2, cv3⟩
  refine anyH_mono2 (fun (w' : World) => (w'.cell? ⟨w.heap.size + 1, 0, none⟩ = some (.int .i64 G.gr) ∧ w'.cell? ⟨w.heap.size + 1, 1, none⟩ = some (.int .i64 G.ino) ∧ w'.cell? ⟨w.heap.size + 1, 2, none⟩ = some (.int .i64 G.da) ∧ (convert 25 9 (.slice (some ⟨B, o, none⟩) 1024 cap)).run Tryz.prog w' = .ok (.string (strOf f 1024)) w') ∧ (convert 25 9 (.slice (some ⟨P, 0, none⟩) 1024 pc)).run Tryz.prog w' = .ok (.string (strOf (superF G) 1024)) w') (fun _ h => h.1) _ _ _ _ ?_
  have hHeld2 : (fun (w' : World) => (w'.cell? ⟨w.heap.size + 1, 0, none⟩ = some (.int .i64 G.gr) ∧ w'.cell? ⟨w.heap.size + 1, 1, none⟩ = some (.int .i64 G.ino) ∧ w'.cell? ⟨w.heap.size + 1, 2, none⟩ = some (.int .i64 G.da) ∧ (convert 25 9 (.slice (some ⟨B, o, none⟩) 1024 cap)).run Tryz.prog w' = .ok (.string (strOf f 1024)) w') ∧ (convert 25 9 (.slice (some ⟨P, 0, none⟩) 1024 pc)).run Tryz.prog w' = .ok (.string (strOf (superF G) 1024)) w') w3 := ⟨⟨k0, k1, k2, cv3⟩, cs3⟩
  clear hK K hHeld
  refine tkA (i := 5) (oi := ⟨_, _, _, _, _, _⟩) ?_
  simp only [putA, List.set]
  refine tkA (i := 8) (oi := ⟨_, _, _, _, _, _⟩) ?_
  simp only [putA, List.set]
  refine tkA (i := 9) (oi := ⟨_, _, _, _, _, _⟩) ?_
  simp only [putA, List.set]
  refine wpAnyH_done (by kernel_rfl) ?_ _
  have HB3 := Lib.hid hbw3
  have m0 := hk03.cell 0; have m1 := hk03.cell 1; have m2 := hk03.cell 2
  have f0 := hk03.frozen 0; have f1 := hk03.frozen 1; have f2 := hk03.frozen 2
  simp only [List.getElem?_cons_zero, List.getElem?_cons_succ] at m0 m1 m2
  have hl3 := hk03.lt; have hlg3 := hkG3.lt
  clear hb hb' hkG3 hk03 hbw3 ho cv3 cs3 hHeld2
  go_wp2
  refine bodyPost_ret (v := .tuple #[.agg #[.int .i64 G.gr, .int .i64 G.ino, .int .i64 G.da], .bool true]) ?_ rfl ?_
  · simp [results, Tryz.results55, go_sem, hl3, m0, m1, m2, f0, f1, f2]
  · exact ⟨rfl, ((HB3.out.setCell (p := ⟨w.heap.size, 0, none⟩) (Nat.le_refl _) _).setCell (p := ⟨w.heap.size, 1, none⟩) (Nat.le_refl _) _).setCell (p := ⟨w.heap.size, 2, none⟩) (Nat.le_refl _) _⟩
end Go.Proofs.YtbbgahffcjbloaaGreat
end

section
/- The reference's superblock, read: none. -/
namespace Go.Proofs.YtbbgahffcjbloaaGreat
open Go.RowKit

end Go.Proofs.YtbbgahffcjbloaaGreat
end

section
/- The reference's Usable. -/
namespace Go.Proofs.YtbbgahffcjbloaaGreat
open Go.RowKit

set_option maxRecDepth 100000 in
set_option maxHeartbeats 2000000 in
theorem rusable_ok (B o N cap : Nat) (f : Nat → Nat) (hf : ∀ k, f k < 256) (w : World) (h : RdB w B o N f) (hcap : N ≤ cap) (hcb : cap ≤ 9223372036854775807) (hok : ofOk f N = true) :
    Calls Tryz.prog 25 #[.slice (some ⟨B, o, none⟩) N cap] w fun e w' => e = .returned (.tuple #[.agg #[.int .i64 (supG f).gr, .int .i64 (supG f).ino, .int .i64 (supG f).da], .bool true]) ∧ Below w.heap.size w w' := by
  have hok2 : 1024 ≤ N ∧ supOk f = true ∧ N = (supG f).total * 1024 := by simpa [ofOk] using hok
  obtain ⟨q1, q2, q3⟩ := hok2
  obtain ⟨G, hG⟩ : ∃ G, G = supG f := ⟨_, rfl⟩
  rw [← hG] at q3 ⊢
  have hGok : G.Ok := by rw [hG]; apply Geo.okB_iff.1; have := q2; simp only [supOk, Bool.and_eq_true] at this; exact this.1
  have R := fun W (hW : Below w.heap.size w W) => rsread_ok B o cap f hf W (((h.below hW).sub 0 1024 (by omega)) |> fun h => by simpa using h) q2
  rw [← hG] at R
  have hb0 : Below w.heap.size w (w.alloc (.cells #[.int .i64 0, .int .i64 0, .int .i64 0] 24)) := (Below.refl _ _).alloc (Nat.le_refl _) _
  have hk0 : Blk 24 (w.alloc (.cells #[.int .i64 0, .int .i64 0, .int .i64 0] 24)) w.heap.size [.int .i64 0, .int .i64 0, .int .i64 0] := Blk.new w _
  have t1 : decide (N < 1024) = false := by simp; omega
  have t2 : decide ((N : Int) < 1024) = false := by simp; omega
  have c1 : (1024 : Int) ≤ (cap : Int) := by omega
  have t3 : (((N : Nat) : Int) == 1024 * (G.total : Int)) = true := by rw [beq_iff_eq, q3]; simp; omega
  have n1 : (1024 : Int) * (G.total : Int) = (N : Int) := by rw [q3]; simp; omega
  have HR := Lib.hid R; have HB0 := Lib.hid hb0; have HK0 := Lib.hid hk0; have HOK := Lib.hid hGok; have HQ := Lib.hid q3
  clear R hb0 hk0 hGok hok q3 q2 h hG
  go_enter Tryz.func25, Tryz.ntmps25
  go_wp2_with (first
    | (go_at_call 55; refine (HR.out _ HB0.out).mono ?_; rintro e w2 ⟨rfl, hb⟩; have HB2 := Lib.hid (HB0.out.trans (hb.mono HB0.out.size)); have HK2 := Lib.hid (HK0.out.below hb HK0.out.lt); clear hb)
    | (go_at_call 56; refine (rtotal_c G HOK.out _).mono ?_; rintro e w3 ⟨rfl, hb⟩; have hba : Below w2.heap.size w2 (w2.alloc (.cells #[.int .i64 G.gr, .int .i64 G.ino, .int .i64 G.da] 24)) := (Below.refl _ _).alloc (Nat.le_refl _) _; have hk2 := (HK2.out.below hba HK2.out.lt); have hk3 := hk2.below hb hk2.lt; have hg2 : Blk 24 (w2.alloc (.cells #[.int .i64 G.gr, .int .i64 G.ino, .int .i64 G.da] 24)) w2.heap.size [.int .i64 G.gr, .int .i64 G.ino, .int .i64 G.da] := Blk.new w2 _; have hg3 := hg2.below hb hg2.lt; have HB3 := Lib.hid ((HB2.out.trans (hba.mono HB2.out.size)).trans (hb.mono (Nat.le_trans HB2.out.size hba.size))); have m0 := hk3.cell 0; have m1 := hk3.cell 1; have m2 := hk3.cell 2; have f0 := hk3.frozen 0; have f1 := hk3.frozen 1; have f2 := hk3.frozen 2; have g0 := hg3.cell 0; have g1 := hg3.cell 1; have g2 := hg3.cell 2; have hl3 := hk3.lt; have hlg := hg3.lt; simp only [List.getElem?_cons_zero, List.getElem?_cons_succ] at m0 m1 m2 g0 g1 g2; clear hba hk2 hk3 hg2 hg3 hb))
  refine bodyPost_ret (v := .tuple #[.agg #[.int .i64 G.gr, .int .i64 G.ino, .int .i64 G.da], .bool true]) ?_ rfl ?_
  · simp [results, Tryz.results25, go_sem, hl3, m0, m1, m2, f0, f1, f2]
  · exact ⟨rfl, ((HB3.out.setCell (p := ⟨w.heap.size, 0, none⟩) (Nat.le_refl _) _).setCell (p := ⟨w.heap.size, 1, none⟩) (Nat.le_refl _) _).setCell (p := ⟨w.heap.size, 2, none⟩) (Nat.le_refl _) _⟩
end Go.Proofs.YtbbgahffcjbloaaGreat
end

section
/- The reference's tree of an image that is wholly right (one group, no indirect blocks). -/
namespace Go.Proofs.YtbbgahffcjbloaaGreat
open Go.RowKit

/-- an image that its repair leaves as it is -/
structure RawOk (g : Geo) (f : Nat → Nat) (N : Nat) : Prop where
  one : g.gr = 1
  of : ofOk f N = true
  sup : supG f = g
  fix : FixOk g f
  im : ImOk g (fixR g f)
  same : ∀ k, k < N → imgR g (fixR g f) f k = f k
  few : ∀ x t, (fixR g f).T x = some t → t.dir.length ≤ 100000
  direct : ∀ x t, (fixR g f).T x = some t → t.i 11 = 0 ∧ t.i 12 = 0 ∧ ∀ k, k < 8 → t.i (3 + k) < g.total
theorem slotsK_length {t : RT} (h : ∀ d ∈ t.dir, d.length = 32) : ∀ k, (slotsK t k).length ≤ 32 * k
  | 0 => Nat.le_refl _
  | k + 1 => by
    have ih := slotsK_length h k
    unfold slotsK
    rw [List.length_append, List.length_drop]
    have : (t.dir.getD k []).length ≤ 32 := by
      rw [List.getD_eq_getElem?_getD]
      cases hq : t.dir[k]? with
      | none => simp
      | some d => have := h d (List.mem_of_getElem? hq); simp; omega
    omega
set_option maxRecDepth 1000000 in
set_option maxHeartbeats 8000000 in
theorem rraw_c (g : Geo) (f : Nat → Nat) (b o N cap : Nat) (w : World) (hI : ImgOk g b o N cap f w) (hR : RawOk g f N) :
    Calls Tryz.prog 12 #[.slice (some ⟨b, o, none⟩) N cap] w fun e w' => ∃ v, e = .returned (.tuple #[v, .int .i64 0]) ∧ NodesAt w' w.heap.size v (rawK f (fixR g f) g.inodes) ∧ Below w.heap.size w w' := by
  have hg := hI.ok
  have hil := hg.inodes_le
  obtain ⟨i0, hi, iz0, iz1, iz2⟩ := info_parts infoE
  obtain ⟨j0, hj0, hy0, hy1, hy2⟩ := info_parts infoNode
  have lb := hI.lt
  have US := rusable_ok b o N cap f hI.byte w hI.rd hI.nc hI.capb hR.of
  rw [hR.sup] at US
  have FX := fun W (hb : Below w.heap.size w W) => rfix_c g hg f b o N cap W (hI.below hb lb) hR.fix
  have eby : bytesL (imgR g (fixR g f) f) N = bytesL f N := bytesL_congr hR.same
  have IM' := fun W L lb' adr (h : RS g f L W lb' adr (fixR g f)) (hN : L.N = N) => rimage_c g hR.one f L W lb' adr (fixR g f) h hR.im
  have CV := fun W G c (hr : RdB W G 0 N f) => conv_str (P := Tryz.prog) W 25 9 5 G 0 N c f hI.byte hr Tryz.underlying25 Tryz.underlying5 Tryz.underlying9
  have CB := fun W (hb : Below w.heap.size w W) => conv_str (P := Tryz.prog) W 25 9 5 b o N cap f hI.byte (hI.rd.below hb) Tryz.underlying25 Tryz.underlying5 Tryz.underlying9
  have HUS := Lib.hid US; have HFX := Lib.hid FX; have HIM := Lib.hid IM'; have HEB := Lib.hid eby; have HCV := Lib.hid CV; have HCB := Lib.hid CB; have HR := Lib.hid hR; have HI := Lib.hid hI
  clear US FX IM' eby CV CB hR hI
  go_enter Tryz.func12, Tryz.ntmps12
  go_upto_region 5 with (first
    | (go_at_call 25; refine HUS.out.mono ?_; rintro e w2 ⟨rfl, hb2⟩; have HB2 := Lib.hid hb2; have hz2 := hb2.size; clear hb2)
    | (go_at_call 26; refine (HFX.out _ (HB2.out.alloc hz2 _)).mono ?_; rintro e w3 ⟨R, D, C, T, lb3, adr3, rfl, hS3, hb3⟩; have HS3 := Lib.hid hS3; have HB3 := Lib.hid ((HB2.out.alloc hz2 (.cells #[.int .i64 g.gr, .int .i64 g.ino, .int .i64 g.da] 24)).trans (hb3.mono (by simp; omega))); clear hS3 hb3))
  have hcb3 := HCB.out w3 HB3.out
  refine wp_region_held_drew (S := fun (w' : World) => (convert 25 9 (.slice (some ⟨b, o, none⟩) N cap)).run Tryz.prog w' = .ok (.string (strOf f N)) w') (by kernel_rfl) (HCB.out w3.drew HB3.out.drew) (fun hHeld => ?_)
  refine tkA (i := 0) (oi := ⟨_, _, _, _, _, _⟩) ?_
  simp only [putA, List.set]
  refine tkA (i := 3) (oi := ⟨_, _, _, _, _, _⟩) ?_
  simp only [putA, List.set]
  refine tkA (i := 4) (oi := ⟨_, _, _, _, _, _⟩) ?_
  simp only [putA, List.set]
  refine wpAnyH_ready (rs := [1]) (by kernel_rfl) (by simp) ?_
  refine AllReadyH.cons rfl (fun K hK => ?_) AllReadyH.nil
  go_simp
  refine (HIM.out w3.drew _ _ _ HS3.out.drew rfl).mono ?_
  rintro e w4 ⟨G, capG, rfl, ho4, hb4, hS4⟩
  rw [HEB.out] at ho4
  have hB4 : Below w.heap.size w w4 := HB3.out.trans (((Below.refl w3.heap.size w3).drew.trans hb4).mono HB3.out.size)
  have cb4 := HCB.out w4 hB4
  have cg4 := HCV.out w4 G capG (own_rdB ho4)
  refine hK.out _ _ cb4 (fun hHeld => ?_)
  clear hK K
  refine anyH_mono2 (fun (w' : World) => (convert 25 9 (.slice (some ⟨b, o, none⟩) N cap)).run Tryz.prog w' = .ok (.string (strOf f N)) w' ∧ (convert 25 9 (.slice (some ⟨G, 0, none⟩) N capG)).run Tryz.prog w' = .ok (.string (strOf f N)) w') (fun _ h => h.1) _ _ _ _ ?_
  have hHeld2 : (fun (w' : World) => (convert 25 9 (.slice (some ⟨b, o, none⟩) N cap)).run Tryz.prog w' = .ok (.string (strOf f N)) w' ∧ (convert 25 9 (.slice (some ⟨G, 0, none⟩) N capG)).run Tryz.prog w' = .ok (.string (strOf f N)) w') w4 := ⟨cb4, cg4⟩
  clear hHeld
  refine tkA (i := 2) (oi := ⟨_, _, _, _, _, _⟩) ?_
  simp only [putA, List.set]
  refine tkA (i := 5) (oi := ⟨_, _, _, _, _, _⟩) ?_
  simp only [putA, List.set]
  refine wpAnyH_done (by kernel_rfl) ?_ _
  have HS4 := Lib.hid hS4; have HB4 := Lib.hid hB4
  clear hHeld2 cb4 cg4 hcb3 hb4 ho4 hS4 hB4
  go_wp2_with fail
  obtain ⟨S, hS⟩ : ∃ S, S = fixR g f := ⟨_, rfl⟩
  have hS4 := HS4.out
  have hdir := HR.out.direct
  have himg := HR.out.im
  have hfew := HR.out.few
  rw [← hS] at hS4 hdir himg hfew
  have HSE := Lib.hid hS
  have HS4 := Lib.hid hS4; have HDI := Lib.hid hdir; have HIMK := Lib.hid himg; have HFEW := Lib.hid hfew
  clear hS hS4 hdir himg hfew
  have hz4 := HB4.out.size
  go_loopw [7, 8] (fun out' x' wr => ∃ n : Nat, n ≤ g.inodes ∧ x' = .int .i64 ((n : Int) + 1) ∧ ∃ wq, wq = wr ∧ RS g f ⟨R, D, C, g.blocks, T, g.inodes + 1, b, o, N, cap⟩ wq lb3 adr3 S ∧ Below w4.heap.size w4 wq ∧ NodesAt wq w4.heap.size out' (rawK f S n)) (fun _ x' _ => g.inodes + 1 - (intOf x').toNat)
  case atStart => exact ⟨0, Nat.zero_le _, rfl, _, rfl, HS4.out, Below.refl _ _, NodesAt.nil _ _⟩
  case round =>
    obtain ⟨n, hn, rfl, wx, rfl, hSx, hBx, hNx⟩ := hrel
    obtain ⟨ovx, hRpx, _⟩ := hSx.rp
    have r2 : wx.cell? ⟨R, 2, none⟩ = some (.slice (some ⟨T, 0, none⟩) (g.inodes + 1) (g.inodes + 1)) := hRpx.cell 2
    have lR : R < wx.heap.size := hRpx.lt
    have lT : T < wx.heap.size := hSx.tt.lt
    by_cases hlt : n < g.inodes
    · obtain ⟨x, hx⟩ : ∃ x, x = n + 1 := ⟨_, rfl⟩
      have hxi : ((n : Int) + 1) = (x : Int) := by omega
      rw [hxi]
      have kxi : (x : Int) < (g.inodes : Int) + 1 := by omega
      have tx : wx.cell? ⟨T, x, none⟩ = _ := hSx.tt.cell x
      rw [adrL_get _ _ _ (by omega)] at tx
      have HX := Lib.hid hx
      clear hxi hx hRpx hn
      cases hax : adr3 x with
      | none =>
        have hTn := (hSx.nn x).1 hax
        rw [hax] at tx
        simp only [Option.map_none] at tx
        have hrk : rawK f S x = rawK f S n := by
          rw [HX.out]
          show (match S.T (n + 1) with | some t => _ | none => _) = _
          rw [← HX.out, hTn]
        have HSx := Lib.hid hSx; have HBx := Lib.hid hBx; have HNx := Lib.hid hNx; have HRK := Lib.hid hrk
        clear hTn hax hSx hBx hNx hrk
        go_wp2_with fail
        go_roundw
        case rel => have := HX.out; exact ⟨x, by omega, rfl, _, rfl, HSx.out, HBx.out, by rw [HRK.out]; exact HNx.out⟩
        case measure => have := HX.out; simp [intOf]; omega
      | some B =>
        obtain ⟨t, ht⟩ : ∃ t, S.T x = some t := by
          cases hq : S.T x with
          | none => have := (hSx.nn x).2 hq; rw [hax] at this; cases this
          | some t => exact ⟨t, rfl⟩
        rw [hax] at tx
        simp only [Option.map_some] at tx
        obtain ⟨dv, lv, dvs, hO⟩ := hSx.obj x B t hax ht
        have y0 := hO.blk.cell 0; have y1 := hO.blk.cell 1; have y2 := hO.blk.cell 2
        rw [inoL_more (by omega)] at y0 y1 y2
        have lB := hO.blk.lt
        have HSx := Lib.hid hSx; have HBx := Lib.hid hBx; have HNx := Lib.hid hNx; have HT := Lib.hid ht; have HAX := Lib.hid hax; have HO := Lib.hid hO
        clear hSx hBx hNx ht hax hO
        go_wp2_with fail
        refine wp_region_held_drew (S := fun (w' : World) => w'.cell? ⟨B, 0, none⟩ = some (.int .i64 (t.i 0 : Nat)) ∧ w'.cell? ⟨B, 1, none⟩ = some (.int .i64 (t.i 1 : Nat)) ∧ w'.cell? ⟨B, 2, none⟩ = some (.int .i64 (t.i 2 : Nat))) (by kernel_rfl) ⟨y0, y1, y2⟩ (fun hHeld => ?_)
        refine tkA (i := 0) (oi := ⟨_, _, _, _, _, _⟩) ?_
        simp only [putA, List.set]
        refine tkA (i := 1) (oi := ⟨_, _, _, _, _, _⟩) ?_
        simp only [putA, List.set]
        refine tkA (i := 2) (oi := ⟨_, _, _, _, _, _⟩) ?_
        simp only [putA, List.set]
        refine tkA (i := 3) (oi := ⟨_, _, _, _, _, _⟩) ?_
        simp only [putA, List.set]
        refine tkA (i := 4) (oi := ⟨_, _, _, _, _, _⟩) ?_
        simp only [putA, List.set]
        refine tkA (i := 5) (oi := ⟨_, _, _, _, _, _⟩) ?_
        simp only [putA, List.set]
        refine tkA (i := 6) (oi := ⟨_, _, _, _, _, _⟩) ?_
        simp only [putA, List.set]
        refine tkA (i := 7) (oi := ⟨_, _, _, _, _, _⟩) ?_
        simp only [putA, List.set]
        refine tkA (i := 8) (oi := ⟨_, _, _, _, _, _⟩) ?_
        simp only [putA, List.set]
        refine tkA (i := 9) (oi := ⟨_, _, _, _, _, _⟩) ?_
        simp only [putA, List.set]
        refine tkA (i := 10) (oi := ⟨_, _, _, _, _, _⟩) ?_
        simp only [putA, List.set]
        refine tkA (i := 11) (oi := ⟨_, _, _, _, _, _⟩) ?_
        simp only [putA, List.set]
        refine tkA (i := 12) (oi := ⟨_, _, _, _, _, _⟩) ?_
        simp only [putA, List.set]
        refine tkA (i := 13) (oi := ⟨_, _, _, _, _, _⟩) ?_
        simp only [putA, List.set]
        refine tkA (i := 14) (oi := ⟨_, _, _, _, _, _⟩) ?_
        simp only [putA, List.set]
        refine tkA (i := 15) (oi := ⟨_, _, _, _, _, _⟩) ?_
        simp only [putA, List.set]
        refine tkA (i := 16) (oi := ⟨_, _, _, _, _, _⟩) ?_
        simp only [putA, List.set]
        refine wpAnyH_ready (rs := [17]) (by kernel_rfl) (by simp) ?_
        refine AllReadyH.cons rfl (fun K hK => ?_) AllReadyH.nil
        go_simp
        have hbA : Below wx.heap.size wx (wx.alloc (.cells #[.int .i64 0, .int .i64 0, .int .i64 0, .int .i64 0, .slice none 0 0, .slice none 0 0] 39)).drew := ((Below.refl _ wx).alloc (Nat.le_refl _) _).drew
        refine hK.out _ _ ⟨(hbA.cell (p := ⟨B, 0, none⟩) lB).trans y0, (hbA.cell (p := ⟨B, 1, none⟩) lB).trans y1, (hbA.cell (p := ⟨B, 2, none⟩) lB).trans y2⟩ (fun hHeld => ?_)
        clear hK K hbA
        refine wpAnyH_ready (rs := [18]) (by kernel_rfl) (by simp) ?_
        refine AllReadyH.cons rfl (fun K hK => ?_) AllReadyH.nil
        go_simp
        obtain ⟨wE, hwE⟩ : ∃ W, W = (wx.alloc (.cells #[.int .i64 (x : Nat), .int .i64 (t.i 0 : Nat), .int .i64 (t.i 1 : Nat), .int .i64 (t.i 2 : Nat), .slice none 0 0, .slice none 0 0] 39)).drew := ⟨_, rfl⟩
        have hBE : Below wx.heap.size wx wE := by rw [hwE]; exact ((Below.refl _ wx).alloc (Nat.le_refl _) _).drew
        have kE : Blk 39 wE wx.heap.size [.int .i64 (x : Nat), .int .i64 (t.i 0 : Nat), .int .i64 (t.i 1 : Nat), .int .i64 (t.i 2 : Nat), .slice none 0 0, .slice none 0 0] := by rw [hwE]; exact (Blk.newL _).drew
        rw [← hwE]
        refine hK.out _ _ ⟨(hBE.cell (p := ⟨B, 0, none⟩) lB).trans y0, (hBE.cell (p := ⟨B, 1, none⟩) lB).trans y1, (hBE.cell (p := ⟨B, 2, none⟩) lB).trans y2⟩ (fun hHeld => ?_)
        clear hK K
        refine wpAnyH_done (by kernel_rfl) ?_ _
        have hzE := hBE.size
        have lE10 := kE.lt
        have hrow32 : ∀ d ∈ t.dir, d.length = 32 := fun d hd => ((HIMK.out.dir x t HT.out).2.2 d hd).1
        have hfw := HFEW.out x t HT.out
        have HBE := Lib.hid hBE; have HKE := Lib.hid kE; have HROW := Lib.hid hrow32
        clear hHeld hwE hBE kE hrow32
        go_wp2_with fail
        go_loopw [11] (fun k' wz => ∃ k : Nat, k ≤ t.dir.length ∧ k' = .int .i64 k ∧ ∃ wq, wq = wz ∧ ∃ sv, Blk 39 wq wx.heap.size [.int .i64 (x : Nat), .int .i64 (t.i 0 : Nat), .int .i64 (t.i 1 : Nat), .int .i64 (t.i 2 : Nat), .slice none 0 0, sv] ∧ wq.ownsRow wE.heap.size 59 2 sv (slotsK t k).length (entsV (slotsK t k)) ∧ Mods (fun q => q = wx.heap.size) wE wq) (fun k' _ => t.dir.length - (intOf k').toNat)
        case atStart => exact ⟨0, Nat.zero_le _, rfl, _, rfl, _, HKE.out, World.ownsRow_nil _ _ _ _, Mods.refl _ _⟩
        case round =>
          obtain ⟨k, hk, rfl, wk, rfl, sv, hkk, hsv, hmk⟩ := hrel
          have hSk : RS g f ⟨R, D, C, g.blocks, T, g.inodes + 1, b, o, N, cap⟩ wk lb3 adr3 S := (HSx.out.below HBE.out).free hmk fun q e _ => by
            subst e
            exact ⟨HSx.out.hi _ (Nat.le_refl _), fun e => by have := HBx.out.size; dsimp only at e; omega⟩
          obtain ⟨dvk, lvk, dvsk, hOk⟩ := hSk.obj x B t HAX.out HT.out
          obtain ⟨A, capd, rfl⟩ := own_form hOk.dir.1
          have n13 : wk.cell? ⟨B, 13, none⟩ = some (.slice A t.dir.length capd) := hOk.blk.cell 13
          have lBk := hOk.blk.lt
          by_cases hkl : k < t.dir.length
          · obtain ⟨GD, cpd, hA, _⟩ := own_some hOk.dir.1 (by omega)
            cases hA
            obtain ⟨d, hd⟩ : ∃ d, t.dir[k]? = some d := ⟨_, List.getElem?_eq_getElem hkl⟩
            obtain ⟨v, hv⟩ : ∃ v, dvsk[k]? = some v := ⟨_, List.getElem?_eq_getElem (by rw [hOk.len]; exact hkl)⟩
            have hr := hOk.row k v d hv hd
            have hd32 := HROW.out d (List.mem_of_getElem? hd)
            rw [hd32] at hr
            obtain ⟨LBk, cv, rfl, hcv⟩ := own_some hr.1 (by decide)
            have cgd := own_at hOk.dir.1 hv
            have lgd := lt_of_cell cgd
            have hdde : t.dir.getD k [] = d := by rw [List.getD_eq_getElem?_getD, hd]; rfl
            obtain ⟨fr, hfr⟩ : ∃ fr, fr = if k = 0 then 2 else 0 := ⟨_, rfl⟩
            have hfr2 : fr ≤ 2 := by rw [hfr]; split <;> omega
            have hsK : slotsK t (k + 1) = slotsK t k ++ d.drop fr := by
              show slotsK t k ++ (t.dir.getD k []).drop (if k = 0 then 2 else 0) = _
              rw [hdde, ← hfr]
            have hkl2 : (k : Int) < (t.dir.length : Int) := by omega
            have hf3 : (fr : Int) ≤ 32 := by omega
            have hf4 : ¬ cv = fr := by omega
            have hsl := slotsK_length HROW.out k
            have hsB := own_base hsv
            have nGD : sv.ownBlock ≠ some GD := fun q => by
              obtain ⟨ys, f1, h1⟩ := own_block_tag hOk.dir.1 (show Value.ownBlock (.slice (some ⟨GD, 0, none⟩) t.dir.length capd) = some GD from rfl)
              obtain ⟨ys2, f2, h2⟩ := own_block_tag hsv q
              rw [h1] at h2
              exact absurd (tag_inj h2) (by decide)
            have nNB : sv.ownBlock ≠ some wx.heap.size := fun q => by have := hsB _ q; omega
            have lB0 : B < wx.heap.size := HO.out.blk.lt
            have nB : sv.ownBlock ≠ some B := fun q => by have := hsB _ q; omega
            have nGN : wx.heap.size ≠ GD := fun q => by
              obtain ⟨ys, f1, h1⟩ := own_block_tag hOk.dir.1 (show Value.ownBlock (.slice (some ⟨GD, 0, none⟩) t.dir.length capd) = some GD from rfl)
              have h2 : wk.heap[wx.heap.size]? = _ := hkk
              rw [q, h1] at h2
              exact absurd (tag_inj h2) (by decide)
            have hnew : ∀ j u, (entsV (d.drop fr))[j]? = some u → wk.drew.cell? ((⟨LBk, fr * 2, none⟩ : Addr).add j) = some u := fun j u hj => by
              rw [← entsV_drop, List.getElem?_drop] at hj
              have := own_at hr.1 hj
              have ea : (⟨LBk, fr * 2, none⟩ : Addr).add j = ⟨LBk, fr * 2 + j, none⟩ := by unfold Addr.add; split <;> simp_all
              rw [ea]
              exact this
            have hln : (d.drop fr).length = 32 - fr := by rw [List.length_drop, hd32]
            have hln2 : (entsV (d.drop fr)).length = (32 - fr) * 2 := by rw [entsV_length, hln]
            have s0 : wk.drew.cell? ⟨B, 13, none⟩ = some (.slice (some ⟨GD, 0, none⟩) t.dir.length capd) ∧ wk.drew.cell? ⟨GD, k, none⟩ = some (.slice (some ⟨LBk, 0, none⟩) 32 cv) := ⟨n13, cgd⟩
            have q5 : wk.drew.cell? ⟨wx.heap.size, 5, none⟩ = some sv := hkk.cell 5
            have HKK := Lib.hid hkk.drew; have HSV := Lib.hid (own_below hsv (Below.refl _ wk).drew); have HMK := Lib.hid hmk.drew; have HSK := Lib.hid hsK; have HFR := Lib.hid hfr; have HN := Lib.hid hnew; have HL := Lib.hid hln2; have HLN := Lib.hid hln; have HSB := Lib.hid hsB
            clear hOk hSk hmk hr hd hv hsv hkk hsK hdde hfr hnew hln2 hln hsB cgd hd32
            go_upto_if 74 with fail
            go_cut [12] (fun s12 w0 => s12 = .int .i64 (fr : Nat) ∧ wk = w0)
            case first =>
              by_cases h0 : k = 0
              · have t1 : ((k : Int) == 0) = true := by simp [h0]
                have E := Lib.hid (show fr = 2 by rw [HFR.out, if_pos h0])
                clear h0
                go_wp2_with fail
                go_meet
                rw [E.out]
                exact ⟨rfl, rfl⟩
              · have t1 : ((k : Int) == 0) = false := by simp [h0]
                have E := Lib.hid (show fr = 0 by rw [HFR.out, if_neg h0])
                clear h0
                go_wp2_with fail
                go_meet
                rw [E.out]
                exact ⟨rfl, rfl⟩
            case rest =>
            obtain ⟨rfl, rfl⟩ := hcut
            go_wp2_with fail
            refine wp_region_held_drew (S := fun (w' : World) => w'.cell? ⟨B, 13, none⟩ = some (.slice (some ⟨GD, 0, none⟩) t.dir.length capd) ∧ w'.cell? ⟨GD, k, none⟩ = some (.slice (some ⟨LBk, 0, none⟩) 32 cv)) (by kernel_rfl) s0 (fun hHeld => ?_)
            obtain ⟨wD, hwD⟩ : ∃ W, W = wk.drew := ⟨_, rfl⟩
            have HHKK := HKK.out; have HHSV := HSV.out; have HHMK := HMK.out; have HHN := HN.out
            rw [← hwD] at s0 q5 HHKK HHSV HHMK HHN
            rw [← hwD]
            have lND : wx.heap.size < wD.heap.size := HHKK.lt
            have lBD : B < wD.heap.size := lt_of_cell s0.1
            have lGD : GD < wD.heap.size := lt_of_cell s0.2
            have hzD := HHMK.size
            have HKK := Lib.hid HHKK; have HSV := Lib.hid HHSV; have HMK := Lib.hid HHMK; have HN := Lib.hid HHN
            clear HHKK HHSV HHMK HHN hHeld hwD
            refine tkA (i := 0) (oi := ⟨_, _, _, _, _, _⟩) ?_
            simp only [putA, List.set]
            refine tkA (i := 2) (oi := ⟨_, _, _, _, _, _⟩) ?_
            simp only [putA, List.set]
            refine tkA (i := 3) (oi := ⟨_, _, _, _, _, _⟩) ?_
            simp only [putA, List.set]
            refine tkA (i := 4) (oi := ⟨_, _, _, _, _, _⟩) ?_
            simp only [putA, List.set]
            refine tkA (i := 5) (oi := ⟨_, _, _, _, _, _⟩) ?_
            simp only [putA, List.set]
            refine tkA (i := 6) (oi := ⟨_, _, _, _, _, _⟩) ?_
            simp only [putA, List.set]
            refine tkA (i := 7) (oi := ⟨_, _, _, _, _, _⟩) ?_
            simp only [putA, List.set]
            refine tkA (i := 8) (oi := ⟨_, _, _, _, _, _⟩) ?_
            simp only [putA, List.set]
            refine tkA (i := 9) (oi := ⟨_, _, _, _, _, _⟩) ?_
            simp only [putA, List.set]
            refine tkA (i := 10) (oi := ⟨_, _, _, _, _, _⟩) ?_
            simp only [putA, List.set]
            refine wpAnyH_ready (rs := [1]) (by kernel_rfl) (by simp) ?_
            refine AllReadyH.cons rfl (fun K hK => ?_) AllReadyH.nil
            go_simp
            refine hK.out _ _ s0 (fun hHeld => ?_)
            clear hK K
            refine wpAnyH_ready (rs := [11]) (by kernel_rfl) (by simp) ?_
            refine AllReadyH.cons rfl (fun K hK => ?_) AllReadyH.nil
            refine step_append_lies _ rfl _ _ 37 rfl wE.heap.size 59 i0 (.agg #[.int .i64 0, .string ⟨#[]⟩]) 2 24 Tryz.underlying37 hi iz0 iz1 iz2 rfl (by decide) sv (slotsK t k).length (entsV (slotsK t k)) rfl HSV.out ⟨LBk, fr * 2, none⟩ (32 - fr) (cv - fr) (entsV (d.drop fr)) rfl HL.out HN.out (entsV_one _) (by omega) (by unfold maxLen; omega) (by omega) (by omega) _ rfl ?_
            intro G8 cap8 w8 ho8 hg8 ha8 hl8
            have hz8 := hg8.size
            have s8 : w8.cell? ⟨B, 13, none⟩ = some (.slice (some ⟨GD, 0, none⟩) t.dir.length capd) ∧ w8.cell? ⟨GD, k, none⟩ = some (.slice (some ⟨LBk, 0, none⟩) 32 cv) := ⟨(hg8.cell_far ⟨B, 13, none⟩ lBD (fun q => nB q.symm)).trans s0.1, (hg8.cell_far ⟨GD, k, none⟩ lGD (fun q => nGD q.symm)).trans s0.2⟩
            have k8 := HKK.out.grown hg8 nNB
            have f8 := k8.frozen 5
            have c8 : w8.cell? ⟨wx.heap.size, 5, none⟩ = some sv := k8.cell 5
            have l8 := k8.lt
            have nG8 : G8 ≠ wx.heap.size := fun q => by
              rcases ha8 with e | e
              · exact nNB (by rw [e, q])
              · omega
            have hmF := (HMK.out.grown hg8 (fun q e hq => by have := HSB.out q e; omega)).setCell ⟨wx.heap.size, 5, none⟩ (fun _ => rfl) (.slice (some ⟨G8, 0, none⟩) ((slotsK t k).length + (32 - fr)) cap8)
            have hms := set_mods w8 wx.heap.size 5 (.slice (some ⟨G8, 0, none⟩) ((slotsK t k).length + (32 - fr)) cap8)
            have hoF := own_mods ho8 hms (fun q hq e => by cases hq; exact nG8 e)
            have sF := And.intro ((hms.cell (o := 13) (show B < w8.heap.size by omega) (fun q => by omega)).trans s8.1) ((hms.cell (o := k) (show GD < w8.heap.size by omega) (fun q => nGN q.symm)).trans s8.2)
            have HKF := Lib.hid (k8.set 5 (.slice (some ⟨G8, 0, none⟩) ((slotsK t k).length + (32 - fr)) cap8)); have HMF := Lib.hid hmF; have HOF := Lib.hid hoF
            clear k8 hmF hms hoF ho8 hg8 ha8
            refine hK.out _ _ s8 (fun hHeld => ?_)
            clear hK K
            refine tkA (i := 12) (oi := ⟨_, _, _, _, _, _⟩) ?_
            simp only [putA, List.set]
            refine wpAnyH_ready (rs := [13]) (by kernel_rfl) (by simp) ?_
            refine AllReadyH.cons rfl (fun K hK => ?_) AllReadyH.nil
            go_simp
            refine hK.out _ _ sF (fun hHeld => ?_)
            clear hK K
            refine wpAnyH_done (by kernel_rfl) ?_ _
            clear hHeld s8 s0 sF
            go_wp2_with fail
            go_roundw
            case rel => exact ⟨k + 1, by omega, by go_num, _, rfl, _, HKF.out, by rw [HSK.out, List.length_append, entsV_append, HLN.out]; exact HOF.out, HMF.out⟩
            case measure => simp [intOf]; omega
          · obtain rfl : k = t.dir.length := by omega
            have y0 : wk.cell? ⟨B, 0, none⟩ = some (.int .i64 (t.i 0 : Nat)) := by
              have := hOk.blk.cell 0
              rwa [inoL_more (by omega)] at this
            obtain ⟨d11, d12, dl⟩ := HDI.out x t HT.out
            have PC := rparts_c g f ⟨R, D, C, g.blocks, T, g.inodes + 1, b, o, N, cap⟩ wk lb3 adr3 S hSk x B t HAX.out HT.out d11 d12 dl
            dsimp only at PC
            have hkl3 : ¬ ((t.dir.length : Int) < (t.dir.length : Int)) := by omega
            have hzk := hmk.size
            have hsB := own_base hsv
            have fk := hkk.frozen 4
            have lk := hkk.lt
            have HPC := Lib.hid PC; have HKK := Lib.hid hkk; have HSV := Lib.hid hsv; have HMK := Lib.hid hmk; have HSB := Lib.hid hsB
            clear PC hOk hSk hmk hsv hkk hsB d11 d12 dl hkl hk
            obtain ⟨P6, hP6e⟩ : ∃ P, P = (if t.i 0 = 1 then partsK f t.i 8 else []) := ⟨_, rfl⟩
            have HPE := Lib.hid hP6e
            clear hP6e
            go_upto_if 93 with fail
            go_cut [] (fun w0 => ∃ wq, wq = w0 ∧ ∃ v6, Blk 39 wq wx.heap.size [.int .i64 (x : Nat), .int .i64 (t.i 0 : Nat), .int .i64 (t.i 1 : Nat), .int .i64 (t.i 2 : Nat), v6, sv] ∧ PartsAt wq w4.heap.size v6 P6 ∧ wq.ownsRow wE.heap.size 59 2 sv (slotsK t t.dir.length).length (entsV (slotsK t t.dir.length)) ∧ Mods (fun q => q = wx.heap.size) wE wq)
            case first =>
              by_cases h0 : t.i 0 = 1
              · have t1 : ((t.i 0 : Int) == 1) = true := by simp [h0]
                have E := Lib.hid h0
                clear h0
                go_wp2_with (go_at_call 28; refine HPC.out.mono ?_; rintro e w5 ⟨v5, rfl, hP5, hb5⟩; obtain ⟨xs5, ho5, -⟩ := id hP5; obtain ⟨A5, cp5, rfl⟩ := own_form ho5; clear ho5; have k5 := HKK.out.below hb5 lk; have l5 := k5.lt; have f5 := k5.frozen 4; have c5 : w5.cell? ⟨wx.heap.size, 4, none⟩ = some (.slice none 0 0) := k5.cell 4; have HP5 := Lib.hid hP5; have HB5 := Lib.hid hb5; have HK5 := Lib.hid k5; clear hP5 hb5 k5)
                go_meet
                rw [HPE.out, if_pos E.out]
                have hms := set_mods w5 wx.heap.size 4 (.slice A5 (partsK f t.i 8).length cp5)
                refine ⟨_, rfl, _, HK5.out.set 4 _, ?_, own_mods (own_below HSV.out HB5.out) hms (fun q hq e => by have := HSB.out q hq; omega), (HMK.out.trans (mods_of_below (s := fun _ => False) HB5.out) (fun _ _ e => e.elim)).setCell ⟨wx.heap.size, 4, none⟩ (fun _ => rfl) _⟩
                have hP6 := HP5.out.mods hms (fun q hq e => by have := HP5.out.base_le q hq; omega) (fun q ys fr hq e => by
                  subst e
                  have h2 : w5.heap[wx.heap.size]? = _ := HK5.out
                  rw [hq] at h2
                  exact absurd (tag_inj h2) (by decide))
                exact hP6.lower (by have := HBx.out.size; have := HBE.out.size; omega)
              · have t1 : ((t.i 0 : Int) == 1) = false := by simp; omega
                have E := Lib.hid h0
                clear h0
                go_wp2_with fail
                go_meet
                rw [HPE.out, if_neg E.out]
                exact ⟨_, rfl, _, HKK.out, PartsAt.nil _ _, HSV.out, HMK.out⟩
            case rest =>
            obtain ⟨w6, rfl, v6, k6, hP6, hs6, hm6⟩ := hcut
            obtain ⟨xs6, ho6, hr6⟩ := id hP6
            obtain ⟨A6, cp6, rfl⟩ := own_form ho6
            obtain ⟨A7, cp7, rfl⟩ := own_form hs6
            clear ho6 hr6
            have c0 := k6.cell 0; have c1 := k6.cell 1; have c2 := k6.cell 2; have c3 := k6.cell 3; have c4 := k6.cell 4; have c5 := k6.cell 5
            simp only [List.getElem?_cons_zero, List.getElem?_cons_succ] at c0 c1 c2 c3 c4 c5
            have hz6 := hm6.size
            have lN6 := k6.lt
            have hN6 : NodesAt w6 w4.heap.size _ (rawK f S n) := (HNx.out.below HBE.out).mods hm6 (fun q e hl ys e2 fr h1 => by
              subst e
              have h2 : wE.heap[wx.heap.size]? = _ := HKE.out
              rw [h1] at h2
              have := tag_inj h2
              subst this
              decide) (fun q hq e => by
              obtain ⟨xs, hx1, ho0, hx3⟩ := HNx.out
              have := row_lt ho0 hq
              omega)
            have hzx := HBx.out.size
            obtain ⟨xs, hx1, ho0, hx3⟩ := id hN6
            have hrl := rawK_length f S n
            have hrx : rawK f S x = rawK f S n ++ [ndF f x t] := by
              rw [HX.out]
              show (match S.T (n + 1) with | some t => rawK f S n ++ [ndF f (n + 1) t] | none => rawK f S n) = _
              rw [← HX.out, HT.out]
            have hob := own_base ho0
            have hzE6 : w4.heap.size ≤ wE.heap.size := by have := HBE.out.size; omega
            have hnd : NodeAt w6 w4.heap.size (ndF f x t) (.slice A6 P6.length cp6, .slice A7 (slotsK t t.dir.length).length cp7) := ⟨by rw [show (ndF f x t).blocks = P6 from HPE.out.symm]; exact hP6, own_mono hs6 hzE6⟩
            have HO0 := Lib.hid ho0; have HX1 := Lib.hid hx1; have HX3 := Lib.hid hx3; have HN6 := Lib.hid hN6; have HRX := Lib.hid hrx; have HND := Lib.hid hnd; have HM6 := Lib.hid hm6; have HOB := Lib.hid hob
            clear ho0 hx1 hx3 hN6 hrx hnd hm6 hP6 hs6 k6 hob
            have h63 : (rawK f S n).length + 1 ≤ maxLen := by unfold maxLen; omega
            have hbb : ((rawK f S n).length + 1) * 80 ≤ 140737488355328 := by omega
            have hbase : w4.heap.size ≤ w6.heap.size := by omega
            have hone : ∀ u ∈ [Value.int .i64 (x : Nat), .int .i64 (t.i 0 : Nat), .int .i64 (t.i 1 : Nat), .int .i64 (t.i 2 : Nat), .slice A6 P6.length cp6, .slice A7 (slotsK t t.dir.length).length cp7], u.oneCell' = true := by simp [Value.oneCell']
            have H63 := Lib.hid h63; have HBB := Lib.hid hbb; have HBS := Lib.hid hbase; have HON := Lib.hid hone
            clear h63 hbb hbase hone
            have nN7 := lN6
            go_wp2_with (at_builtin; refine app_own2 [Value.int .i64 (x : Nat), .int .i64 (t.i 0 : Nat), .int .i64 (t.i 1 : Nat), .int .i64 (t.i 2 : Nat), .slice A6 P6.length cp6, .slice A7 (slotsK t t.dir.length).length cp7] rfl _ _ 31 rfl w4.heap.size 39 j0 _ 6 80 Tryz.underlying31 hj0 hy0 hy1 hy2 rfl (by decide) _ (rawK f S n).length _ rfl (by exact .inl HO0.out) w6.heap.size rfl rfl rfl HON.out H63.out HBB.out HBS.out ?_; intro G7 cap7 w7 ho7 hg7 ha7 hl7; have HO7 := Lib.hid ho7; have HG7 := Lib.hid hg7; clear ho7 hg7 ha7)
            go_roundw
            case rel =>
              have hm7 : Mods (fun q => w4.heap.size ≤ q) wE w7 := (HM6.out.mono (t := fun q => w4.heap.size ≤ q) (fun q _ e => by subst e; omega)).grown HG7.out (fun q e _ => HOB.out q e)
              have hS7 : RS g f ⟨R, D, C, g.blocks, T, g.inodes + 1, b, o, N, cap⟩ w7 lb3 adr3 S := (HSx.out.below HBE.out).free hm7 fun q e _ => ⟨HS4.out.hi q e, fun e2 => by dsimp only at e2; omega⟩
              have hB7 : Below w4.heap.size w4 w7 := Below.mods (HBx.out.trans (HBE.out.mono hzx)) hm7 (fun q hq e => by omega) (by omega)
              have := HX.out
              exact ⟨x, by omega, rfl, _, rfl, hS7, hB7, by rw [HRX.out]; exact NodesAt.snoc HN6.out (ndF f x t) _ HND.out xs HX1.out HX3.out HO0.out HO7.out HG7.out⟩
            case measure => have := HX.out; simp [intOf]; omega
    · obtain rfl : n = g.inodes := by omega
      have hxn : ¬ (g.inodes : Int) + 1 < (g.inodes : Int) + 1 := by omega
      have HBx := Lib.hid hBx; have HNx := Lib.hid hNx
      clear hSx hBx hNx hRpx hlt hn
      go_wp2_with fail
      go_ret2
      rw [← HSE.out]
      obtain ⟨xs, hx1, ho0, hx3⟩ := HNx.out
      exact ⟨_, rfl, NodesAt.lower ⟨xs, hx1, ho0, hx3⟩ HB4.out.size, HB4.out.trans (HBx.out.mono HB4.out.size)⟩
end Go.Proofs.YtbbgahffcjbloaaGreat
end

section
/- The reference's repair of an image that is wholly right: a root and files that are named in a row. -/
namespace Go.Proofs.YtbbgahffcjbloaaGreat
open Go.RowKit

def rowN (n d : Nat) : List (Nat × ByteArray) := (List.range d).map (entN n)
theorem rowN_succ (n d : Nat) : rowN n (d + 1) = rowN n d ++ [entN n d] := by simp [rowN, List.range_succ]
theorem rowN_length (n d : Nat) : (rowN n d).length = d := by simp [rowN]
def fileR (g : Geo) (f : Nat → Nat) (cs : Nat → Nat → Bool) (k : Nat) : RT := ⟨setL 1 (setL 0 (cleanF g (cs k) (inoAt g f (k + 2))).1), [], 1, []⟩
def rootIR (g : Geo) (f : Nat → Nat) : InoN := setL 2 (cutF g (rootC g f).1 (rootC g f).2).1
def TS (g : Geo) (f : Nat → Nat) (cs : Nat → Nat → Bool) (n d k : Nat) : Nat → Option RT := fun x => if x = 1 then some ⟨rootIR g f, [rowN n d], 1, [3]⟩ else if 2 ≤ x ∧ x < k + 2 then some (fileR g f cs (x - 2)) else none
/-- an inode with at most one pointer, at place a, is left as it is -/
theorem clean_one {g : Geo} {c : Nat → Bool} {I : InoN} {a P : Nat} (ha : a < 8) (c2 : cI I 2 = I 2) (hP : I (3 + a) = P) (hz : ∀ j, 3 ≤ j → j < 13 → j ≠ 3 + a → I j = 0) (hk : P = 0 ∨ (g.dOk P = true ∧ c (g.dNo P) = false ∧ a < cntN (I 2))) (hd : g.dOk 0 = false) :
    (cleanF g c I).2 = (fun x => if g.dOk P = true ∧ x = g.dNo P then true else c x) ∧ ∀ j, j < 13 → (cleanF g c I).1 j = I j := by
  have ck : ∀ j, cI I j = I j := fun j => by
    by_cases hj : j = 2
    · rw [hj]; exact c2
    · unfold cI; rw [if_neg hj]
  have K : ∀ k, k ≤ 8 → (∀ j, (cl8 g (I 2) (cI I, c) k).1 j = I j) ∧ (cl8 g (I 2) (cI I, c) k).2 = (fun x => if a < k ∧ g.dOk P = true ∧ x = g.dNo P then true else c x) := by
    intro k
    induction k with
    | zero => intro _; exact ⟨ck, by funext x; rw [if_neg (by omega)]; rfl⟩
    | succ k ih =>
      intro hk8
      obtain ⟨i1, i2⟩ := ih (by omega)
      unfold cl8
      rw [i1 (3 + k), i2]
      by_cases hka : k = a
      · subst hka
        rw [hP]
        rcases hk with e | ⟨e1, e2, e3⟩
        · have e' : keepO g (fun x => if k < k ∧ g.dOk P = true ∧ x = g.dNo P then true else c x) P k (I 2) = false := by
            rw [e]; unfold keepO; rw [hd]; rfl
          rw [if_neg (by rw [e']; decide)]
          refine ⟨fun j => ?_, ?_⟩
          · dsimp only
            by_cases hj : j = 3 + k
            · rw [if_pos hj, hj, hP, e]
            · rw [if_neg hj]; exact i1 j
          · funext x
            dsimp only
            rw [if_neg (fun q => absurd q.1 (by omega)), if_neg (fun q => by have := q.2.1; rw [e, hd] at this; cases this)]
        · have e' : keepO g (fun x => if k < k ∧ g.dOk P = true ∧ x = g.dNo P then true else c x) P k (I 2) = true := by
            unfold keepO
            dsimp only
            rw [e1, if_neg (fun q => absurd q.1 (by omega)), e2, decide_eq_true e3]; rfl
          rw [if_pos e']
          refine ⟨i1, ?_⟩
          funext x
          dsimp only
          by_cases hx : x = g.dNo P
          · rw [if_pos hx, if_pos ⟨by omega, e1, hx⟩]
          · rw [if_neg hx, if_neg (fun q => absurd q.1 (by omega)), if_neg (fun q => hx q.2.2)]
      · have hzz := hz (3 + k) (by omega) (by omega) (by omega)
        rw [hzz]
        have e' : ∀ c', keepO g c' 0 k (I 2) = false := fun c' => by unfold keepO; rw [hd]; rfl
        rw [if_neg (by rw [e']; decide)]
        refine ⟨fun j => ?_, ?_⟩
        · dsimp only
          by_cases hj : j = 3 + k
          · rw [if_pos hj, hj, hzz]
          · rw [if_neg hj]; exact i1 j
        · funext x
          dsimp only
          by_cases hak : a < k
          · by_cases hx : g.dOk P = true ∧ x = g.dNo P
            · rw [if_pos ⟨hak, hx⟩, if_pos ⟨by omega, hx⟩]
            · rw [if_neg (fun q => hx q.2), if_neg (fun q => hx q.2)]
          · rw [if_neg (fun q => hak q.1), if_neg (fun q => hak (by omega))]
  obtain ⟨k1, k2⟩ := K 8 (Nat.le_refl _)
  unfold cleanF
  rw [c2]
  refine ⟨?_, fun j hj => ?_⟩
  · dsimp only
    rw [k2]
    funext x
    by_cases hx : g.dOk P = true ∧ x = g.dNo P
    · rw [if_pos ⟨ha, hx⟩, if_pos hx]
    · rw [if_neg (fun q => hx q.2), if_neg hx]
  · dsimp only
    by_cases h12 : j = 12
    · rw [if_pos h12, h12, hz 12 (by omega) (by omega) (by omega)]
    · rw [if_neg h12]
      by_cases h11 : j = 11
      · rw [if_pos h11, h11, hz 11 (by omega) (by omega) (by omega)]
      · rw [if_neg h11]; exact k1 j

/-- the image is a root and n files, wholly right; cs k: the claims ahead of file k -/
structure Simp (m n : Nat) (cs : Nat → Nat → Bool) (f : Nat → Nat) : Prop where
  byte : ∀ k, f k < 256
  sup : ∀ k, k < 1024 → f k = superF (geo1 m) k
  r0 : inoAt (geo1 m) f 1 0 = 2
  r1 : inoAt (geo1 m) f 1 1 = 2
  r2 : inoAt (geo1 m) f 1 2 = 1024
  r3 : inoAt (geo1 m) f 1 3 = 3
  r4 : ∀ j, 4 ≤ j → j < 13 → inoAt (geo1 m) f 1 j = 0
  c0 : cs 0 = fun x => decide (x = 0)
  f0 : ∀ k, k < n → inoAt (geo1 m) f (k + 2) 0 = 1
  f1 : ∀ k, k < n → inoAt (geo1 m) f (k + 2) 1 = 1
  fc : ∀ k, k < n → (cleanF (geo1 m) (cs k) (inoAt (geo1 m) f (k + 2))).2 = cs (k + 1)
  fi : ∀ k, k < n → ∀ j, j < 13 → (cleanF (geo1 m) (cs k) (inoAt (geo1 m) f (k + 2))).1 j = inoAt (geo1 m) f (k + 2) j
  fp : ∀ k, k < n → ∀ j, j < 8 → inoAt (geo1 m) f (k + 2) (3 + j) < (geo1 m).total
  ent : ∀ k, k < n → rootE f 3 (k + 2) = (k + 2, nameN k)
  rest : ∀ j, n + 2 ≤ j → j < 32 → rootE f 3 j = (0, ⟨#[]⟩)
theorem namedF_new {n k : Nat} (hk : k < n) (hn : n ≤ 9) : namedF [rowN n (k + 2)] (nameN k) = false := by
  unfold namedF
  rw [List.any_eq_false]
  intro d hd
  simp only [List.mem_singleton] at hd
  subst hd
  rw [Bool.not_eq_true, List.any_eq_false]
  intro e he
  unfold rowN at he
  rw [List.mem_map] at he
  obtain ⟨j, hj, rfl⟩ := he
  have hj : j < k + 2 := by simpa using hj
  unfold nmHit
  simp only [Bool.and_eq_true, decide_eq_true_eq, not_and]
  intro _
  unfold entN
  have h1 := nameN_ne k
  by_cases h0 : j = 0
  · rw [if_pos h0]; intro q
    apply h1.1
    rw [← q]; rw [ByteArray.toList_eq]; 
  · rw [if_neg h0]
    by_cases h2 : j = 1
    · rw [if_pos h2]; intro q
      apply h1.2
      rw [← q]; rw [ByteArray.toList_eq]; 
    · rw [if_neg h2, if_pos (by omega)]
      intro q
      have := nameN_inj ⟨j - 2, by omega⟩ ⟨k, by omega⟩ q
      simp at this; omega
theorem TS_1 (g : Geo) (f : Nat → Nat) (cs : Nat → Nat → Bool) (n d k : Nat) : TS g f cs n d k 1 = some ⟨rootIR g f, [rowN n d], 1, [3]⟩ := by unfold TS; rw [if_pos rfl]
theorem TS_dir (g : Geo) (f : Nat → Nat) (cs : Nat → Nat → Bool) (c : Nat → Bool) (n d k : Nat) : setDir ⟨c, TS g f cs n d k, [1], false⟩ 1 (addLast [rowN n d] (entN n d)) = ⟨c, TS g f cs n (d + 1) k, [1], false⟩ := by
  have : (setDir ⟨c, TS g f cs n d k, [1], false⟩ 1 (addLast [rowN n d] (entN n d))).T = TS g f cs n (d + 1) k := by
    funext y
    unfold setDir
    dsimp only
    by_cases h : y = 1
    · rw [if_pos h, TS_1, h, TS_1, rowN_succ]; rfl
    · rw [if_neg h]; unfold TS; rw [if_neg h, if_neg h]
  unfold setDir at this ⊢
  dsimp only at this ⊢
  rw [this]
section
variable {m n : Nat} {cs : Nat → Nat → Bool} {f : Nat → Nat}
theorem Simp.step (L : Simp m n cs f) (hn : n ≤ 9) (k : Nat) (hk : k < n) :
    entStep (geo1 m) f 1 0 ⟨cs k, TS (geo1 m) f cs n (k + 2) k, [1], false⟩ (k + 2) (k + 2, nameN k) = ⟨cs (k + 1), TS (geo1 m) f cs n (k + 3) (k + 1), [1], false⟩ := by
  unfold entStep
  dsimp only
  rw [TS_1]
  dsimp only
  rw [if_neg (by omega), if_neg (by omega)]
  have hb : badN (nmR ⟨rootIR (geo1 m) f, [rowN n (k + 2)], 1, [3]⟩) (k + 2) (nameN k) = false := by
    unfold badN nmR
    dsimp only
    rw [namedF_new hk hn, decide_eq_false (by omega), decide_eq_false (nameN_ne k).1, decide_eq_false (nameN_ne k).2]; rfl
  rw [hb, if_neg (by decide)]
  have hT : TS (geo1 m) f cs n (k + 2) k (k + 2) = none := by unfold TS; rw [if_neg (by omega), if_neg (by omega)]
  have hs : stayR (geo1 m) f ⟨cs k, TS (geo1 m) f cs n (k + 2) k, [1], false⟩ 1 (k + 2) = some ⟨cs (k + 1), TS (geo1 m) f cs n (k + 2) (k + 1), [1], false⟩ := by
    unfold stayR
    dsimp only
    rw [L.f0 k hk, if_neg (by decide), if_neg (by decide), if_pos hT]
    dsimp only
    rw [if_pos rfl]
    dsimp only
    rw [if_neg (by unfold setL; rw [if_pos rfl]; decide), L.fc k hk]
    congr 2
    funext y
    unfold upL
    dsimp only
    by_cases h1 : y = k + 2
    · rw [if_pos h1, if_pos rfl]
      unfold TS
      rw [if_neg (by omega), if_pos (by omega)]
      subst h1
      rw [show k + 2 - 2 = k by omega]
      have e : setL 0 (cleanF (geo1 m) (cs k) (inoAt (geo1 m) f (k + 2))).1 1 = 0 := by unfold setL; rw [if_pos rfl]
      simp only [Option.map_some, e]
      rfl
    · rw [if_neg h1, if_neg h1]
      unfold TS
      by_cases h2 : y = 1
      · rw [if_pos h2, if_pos h2]
      · rw [if_neg h2, if_neg h2]
        by_cases h3 : 2 ≤ y ∧ y < k + 2
        · rw [if_pos h3, if_pos (by omega)]
        · rw [if_neg h3, if_neg (by omega)]
  rw [hs]
  dsimp only
  have e : (k + 2, nameN k) = entN n (k + 2) := by rw [entN_file n (k + 2) (by omega) (by omega), show k + 2 - 2 = k by omega]
  rw [e]
  exact TS_dir _ _ _ _ _ _ _
theorem Simp.zero (c : Nat → Bool) (j : Nat) (hj : n + 2 ≤ j) : entStep (geo1 m) f 1 0 ⟨c, TS (geo1 m) f cs n j n, [1], false⟩ j (0, ⟨#[]⟩) = ⟨c, TS (geo1 m) f cs n (j + 1) n, [1], false⟩ := by
  unfold entStep
  dsimp only
  rw [TS_1]
  dsimp only
  rw [if_neg (by omega), if_neg (by omega)]
  have hb : badN (nmR ⟨rootIR (geo1 m) f, [rowN n j], 1, [3]⟩) 0 ⟨#[]⟩ = true := rfl
  rw [hb, if_pos rfl, ← entN_no n j hj]
  exact TS_dir _ _ _ _ _ _ _
theorem Simp.rootC_ (L : Simp m n cs f) (hm : 0 < m) : (∀ j, j < 13 → (rootC (geo1 m) f).1 j = inoAt (geo1 m) f 1 j) ∧ (rootC (geo1 m) f).2 = cs 0 := by
  have c2 : cI (inoAt (geo1 m) f 1) 2 = inoAt (geo1 m) f 1 2 := by unfold cI; rw [if_pos rfl, L.r0, if_pos rfl, L.r2]; decide
  have d3 : (geo1 m).dOk 3 = true := dOk_one (by omega) (by omega)
  have no3 : (geo1 m).dNo 3 = 0 := (Geo.one_dNo (g := geo1 m) rfl d3).1
  have := clean_one (g := geo1 m) (c := fun _ => false) (I := inoAt (geo1 m) f 1) (a := 0) (P := 3) (by omega) c2 L.r3 (fun j h1 h2 h3 => L.r4 j (by omega) h2) (.inr ⟨d3, rfl, by rw [L.r2]; decide⟩) rfl
  unfold rootC
  refine ⟨this.2, ?_⟩
  rw [this.1, L.c0]
  funext x
  rw [d3, no3]
  by_cases hx : x = 0
  · rw [if_pos ⟨rfl, hx⟩, decide_eq_true hx]
  · rw [if_neg (fun q => hx q.2), decide_eq_false hx]
theorem Simp.mUp_ (L : Simp m n cs f) (hm : 0 < m) : mUp (rootC (geo1 m) f).1 8 = 1 := by
  obtain ⟨h1, h2⟩ := L.rootC_ hm
  have e1 : mUp (rootC (geo1 m) f).1 1 = 1 := by
    unfold mUp
    rw [if_pos]
    refine ⟨rfl, ?_, ?_⟩
    · rw [h1 2 (by omega), L.r2]; decide
    · rw [h1 3 (by omega), L.r3]; decide
  exact mUp_stop e1 (fun q => q.2 (by rw [h1 4 (by omega), L.r4 4 (by omega) (by omega)])) 7
theorem Simp.cut_ (L : Simp m n cs f) (hm : 0 < m) : (∀ j, j < 13 → rootIR (geo1 m) f j = inoAt (geo1 m) f 1 j) ∧ (cutF (geo1 m) (rootC (geo1 m) f).1 (rootC (geo1 m) f).2).2 = cs 0 := by
  obtain ⟨h1, h2⟩ := L.rootC_ hm
  have h3 := L.mUp_ hm
  refine ⟨fun j hj => ?_, ?_⟩
  · unfold rootIR setL cutF
    rw [h3]
    dsimp only
    by_cases j1 : j = 1
    · rw [if_pos j1, j1, L.r1]
    · rw [if_neg j1]
      unfold gvI szI
      by_cases j2 : 3 + 1 ≤ j ∧ j < 3 + 8
      · rw [if_pos j2, L.r4 j (by omega) hj]
      · rw [if_neg j2]
        by_cases j3 : j = 2
        · rw [if_pos j3, j3, L.r2]
        · rw [if_neg j3]; exact h1 j hj
  · unfold cutF
    rw [h3, h2]
    dsimp only
    have K : ∀ k, k ≤ 8 → gvC (geo1 m) (rootC (geo1 m) f).1 1 (cs 0) k = cs 0 := by
      intro k
      induction k with
      | zero => intro _; rfl
      | succ k ih =>
        intro hk
        unfold gvC
        by_cases h0 : 1 ≤ k
        · rw [if_pos h0, h1 (3 + k) (by omega), L.r4 (3 + k) (by omega) (by omega), ih (by omega)]
          funext x
          rw [if_neg (fun q => by have := q.1; cases this)]
        · rw [if_neg h0]; exact ih (by omega)
    exact K 8 (Nat.le_refl _)
theorem Simp.root_ (L : Simp m n cs f) (hm : 0 < m) : leadOf (rootC (geo1 m) f).1 1 = [3] := by
  have := (L.rootC_ hm).1 3 (by omega)
  rw [L.r3] at this
  unfold leadOf
  rw [show List.range 1 = [0] from rfl]
  simp only [List.map_cons, List.map_nil, Nat.add_zero, this]
theorem Simp.loop (L : Simp m n cs f) (hn : n ≤ 9) (hm : 0 < m) : ∀ k, k ≤ n → entLoop (geo1 m) f 1 0 (rootE f 3) (setDir (rootR (geo1 m) f) 1 [[]]) (k + 2) = ⟨cs k, TS (geo1 m) f cs n (k + 2) k, [1], false⟩
  | 0, _ => by
    have h3 := L.mUp_ hm
    have h4 := (L.cut_ hm).2
    have e0 : setDir (rootR (geo1 m) f) 1 [[]] = ⟨cs 0, TS (geo1 m) f cs n 0 0, [1], false⟩ := by
      unfold setDir rootR
      dsimp only
      rw [h4, h3, L.root_ hm]
      congr 1
      funext y
      unfold TS
      by_cases h : y = 1
      · rw [if_pos h, if_pos h, if_pos rfl]; rfl
      · rw [if_neg h, if_neg h, if_neg h, if_neg (by omega)]
    rw [e0]
    show entStep _ _ _ _ (entStep _ _ _ _ _ 0 _) 1 _ = _
    have s0 : entStep (geo1 m) f 1 0 ⟨cs 0, TS (geo1 m) f cs n 0 0, [1], false⟩ 0 (rootE f 3 0) = ⟨cs 0, TS (geo1 m) f cs n 1 0, [1], false⟩ := by
      unfold entStep
      dsimp only
      rw [TS_1]
      dsimp only
      rw [if_pos ⟨rfl, rfl⟩]
      exact TS_dir _ _ _ _ n 0 _
    show entStep _ _ _ _ (entStep (geo1 m) f 1 0 ⟨cs 0, TS (geo1 m) f cs n 0 0, [1], false⟩ 0 (rootE f 3 0)) 1 _ = _
    rw [s0]
    unfold entStep
    dsimp only
    rw [TS_1]
    dsimp only
    rw [if_neg (by omega), if_pos ⟨rfl, rfl⟩]
    exact TS_dir _ _ _ _ n 1 _
  | k + 1, hk => by
    have ih := L.loop hn hm k (by omega)
    show entStep (geo1 m) f 1 0 (entLoop (geo1 m) f 1 0 (rootE f 3) (setDir (rootR (geo1 m) f) 1 [[]]) (k + 2)) (k + 2) (rootE f 3 (k + 2)) = _
    rw [ih, L.ent k (by omega)]
    exact L.step hn k (by omega)
theorem Simp.loop2 (L : Simp m n cs f) (hn : n ≤ 9) (hm : 0 < m) : ∀ q, n + 2 + q ≤ 32 → entLoop (geo1 m) f 1 0 (rootE f 3) (setDir (rootR (geo1 m) f) 1 [[]]) (n + 2 + q) = ⟨cs n, TS (geo1 m) f cs n (n + 2 + q) n, [1], false⟩
  | 0, _ => L.loop hn hm n (Nat.le_refl _)
  | q + 1, hq => by
    have ih := L.loop2 hn hm q (by omega)
    show entStep (geo1 m) f 1 0 (entLoop (geo1 m) f 1 0 (rootE f 3) (setDir (rootR (geo1 m) f) 1 [[]]) (n + 2 + q)) (n + 2 + q) (rootE f 3 (n + 2 + q)) = _
    rw [ih, L.rest (n + 2 + q) (by omega) (by omega)]
    exact Simp.zero _ _ (by omega)
/-- the repair -/
theorem Simp.fix (L : Simp m n cs f) (hn : n ≤ 9) (hm : 0 < m) : fixR (geo1 m) f = ⟨cs n, TS (geo1 m) f cs n 32 n, [1], false⟩ := by
  have h := L.loop2 hn hm (30 - n) (by omega)
  rw [show n + 2 + (30 - n) = 32 by omega] at h
  unfold fixR
  rw [L.mUp_ hm]
  show entBlk _ _ _ (rootR _ _) 0 = _
  unfold entBlk
  rw [rootR_1, L.mUp_ hm, L.root_ hm]
  exact h
end
end Go.Proofs.YtbbgahffcjbloaaGreat
end

section
/- FsckNames: the pure side. -/
namespace Go.Proofs.YtbbgahffcjbloaaGreat
open Go.RowKit

theorem noIno_zero (k : Nat) : inoF noIno k = 0 := by
  by_cases h : k < 64
  · exact (by decide +kernel : ∀ k : Fin 64, inoF noIno k.val = 0) ⟨k, h⟩
  · unfold inoF catF; exact if_neg (by omega)
end Go.Proofs.YtbbgahffcjbloaaGreat
end

section
/- The reference's image of an image that is wholly right is that image. -/
namespace Go.Proofs.YtbbgahffcjbloaaGreat
open Go.RowKit

theorem inoOk_congr {i i' : InoN} (h : ∀ j, j < 13 → i j = i' j) : inoOk i = inoOk i' := by
  unfold inoOk allZ
  rw [h 0 (by omega)]
  have : ((List.range 13).all fun k => decide (i k = 0)) = (List.range 13).all fun k => decide (i' k = 0) := by
    rw [Bool.eq_iff_iff, List.all_eq_true, List.all_eq_true]
    constructor
    · intro q k hk; have := q k hk; rwa [h k (by simpa using hk)] at this
    · intro q k hk; have := q k hk; rwa [h k (by simpa using hk)]
  rw [this]
theorem InoR.congr {i i' : InoN} (h : ∀ j, j < 13 → i j = i' j) (r : InoR i) : InoR i' :=
  ⟨by rw [← h 0 (by omega)]; exact r.k, by rw [← h 1 (by omega)]; exact r.l, by rw [← h 2 (by omega)]; exact r.s, fun k h1 h2 => by rw [← h k h2]; exact r.p k h1 h2⟩
theorem cl8_congr {g : Geo} {s : Nat} {I I' : InoN} {c : Nat → Bool} (h : ∀ j, j < 13 → I j = I' j) : ∀ k, k ≤ 8 → (cl8 g s (I, c) k).2 = (cl8 g s (I', c) k).2 ∧ ∀ j, j < 13 → (cl8 g s (I, c) k).1 j = (cl8 g s (I', c) k).1 j
  | 0, _ => ⟨rfl, h⟩
  | k + 1, hk => by
    obtain ⟨h1, h2⟩ := cl8_congr h k (by omega)
    have h3 := h2 (3 + k) (by omega)
    unfold cl8
    rw [h1, h3]
    split
    · exact ⟨rfl, h2⟩
    · refine ⟨rfl, fun j hj => ?_⟩
      dsimp only
      rw [h2 j hj]
theorem cleanF_congr {g : Geo} {I I' : InoN} {c : Nat → Bool} (h : ∀ j, j < 13 → I j = I' j) : (cleanF g c I).2 = (cleanF g c I').2 ∧ ∀ j, j < 13 → (cleanF g c I).1 j = (cleanF g c I').1 j := by
  have hc : ∀ j, j < 13 → cI I j = cI I' j := fun j hj => by unfold cI; rw [h 0 (by omega), h 2 (by omega), h j hj]
  obtain ⟨h1, h2⟩ := cl8_congr (g := g) (s := cI I' 2) (c := c) hc 8 (Nat.le_refl _)
  have h0 := hc 2 (by omega)
  unfold cleanF
  rw [h0]
  dsimp only
  rw [h1]
  refine ⟨rfl, fun j hj => ?_⟩
  rw [h2 j hj]
def ibN (n : Nat) : Nat → Nat → Nat
  | 0 => fun _ => 0
  | k + 1 => if k < n + 1 then withB (ibN n k) k true else ibN n k
def headN (m n : Nat) (c : Nat → Bool) : Nat → Nat := rheadF (geo1 m) 0 (ibN n 16) 8 (dbO (geo1 m) c m) ((m + 7) / 8)
theorem ibN_lt (n : Nat) : ∀ k j, ibN n k j < 256
  | 0, _ => by show (0 : Nat) < 256; decide
  | k + 1, j => by
    unfold ibN
    split
    · exact withB_byte (ibN_lt n k) _ _ j
    · exact ibN_lt n k j
theorem ibN_bit (n : Nat) : ∀ k, k ≤ 64 → ∀ i, getBit (ibN n k) 8 i = (decide (i < k) && decide (i < n + 1))
  | 0, _, i => by
    rw [decide_eq_false (Nat.not_lt_zero i)]; exact getBit_zero 8 i
  | k + 1, hk, i => by
    have ih := ibN_bit n k (by omega) i
    unfold ibN
    by_cases h : k < n + 1
    · rw [if_pos h, getBit_with (ibN_lt n k) (by omega), ih, Bool.eq_iff_iff]
      simp only [Bool.or_eq_true, Bool.and_eq_true, decide_eq_true_eq]
      omega
    · rw [if_neg h, ih, Bool.eq_iff_iff]
      simp only [Bool.and_eq_true, decide_eq_true_eq]
      omega
theorem dbO_bit (m : Nat) (c : Nat → Bool) : ∀ k, k ≤ m → ∀ i, getBit (dbO (geo1 m) c k) ((m + 7) / 8) i = (decide (i < k) && c i)
  | 0, _, i => by
    rw [decide_eq_false (Nat.not_lt_zero i)]; exact getBit_zero _ i
  | k + 1, hk, i => by
    have ih := dbO_bit m c k (by omega) i
    have e : k % (geo1 m).da = k := Nat.mod_eq_of_lt hk
    unfold dbO
    rw [e]
    by_cases h : c k = true
    · rw [if_pos h, getBit_with (dbO_lt _ _ k) (by omega), ih, Bool.eq_iff_iff]
      simp only [Bool.or_eq_true, Bool.and_eq_true, decide_eq_true_eq]
      constructor
      · rintro (h1 | ⟨h1, h2⟩)
        · subst h1; exact ⟨by omega, h⟩
        · exact ⟨by omega, h2⟩
      · rintro ⟨h1, h2⟩
        by_cases h3 : i = k
        · exact .inl h3
        · exact .inr ⟨by omega, h2⟩
    · rw [if_neg h, ih, Bool.eq_iff_iff]
      simp only [Bool.and_eq_true, decide_eq_true_eq]
      constructor
      · rintro ⟨h1, h2⟩; exact ⟨by omega, h2⟩
      · rintro ⟨h1, h2⟩
        by_cases h3 : i = k
        · subst h3; exact absurd h2 h
        · exact ⟨by omega, h2⟩
theorem hP_zero (p : Nat → Bool) (i k : Nat) (h : i ≤ 8 * k) : hP p i k = 0 := by
  have := hP_lt p i k
  rw [show i - 8 * k = 0 by omega] at this
  simp at this; exact this
/-- the reference's head is the program's -/
theorem headN_P {m n : Nat} (hm : 8 ≤ m) (hm2 : n + 1 ≤ 16) (c d : Nat → Bool) (hcd : ∀ i, i < m → c i = d i) (k : Nat) : headN m n c k = headP (geo1 m) (fun i => decide (i < n + 1)) d k := by
  have a1 : rowB (ibN n 16) 8 (16 * (geo1 m).ino) = hP (fun i => decide (i < n + 1)) 16 := rowB_hP 16 fun i hi => by
    rw [ibN_bit n 16 (by omega) i, decide_eq_true hi, Bool.true_and]
  have a2 : rowB (dbO (geo1 m) c m) ((m + 7) / 8) (geo1 m).da = hP d m := rowB_hP m fun i hi => by
    rw [dbO_bit m c m (Nat.le_refl _) i, decide_eq_true hi, Bool.true_and, hcd i hi]
  unfold headN rheadF headP
  rw [a1, a2]
  rw [show (geo1 m).da = m from rfl, show 16 * (geo1 m).ino = 16 from rfl]
  unfold catF putF
  by_cases h1 : k < 64
  · rw [if_pos h1, if_neg (c := 64 ≤ k ∧ k < 64 + (m + 7) / 8) (by omega)]
    by_cases h2 : k < 16
    · rw [if_pos h2, if_neg (c := 16 ≤ k ∧ k < 16 + 8) (by omega)]
      by_cases h3 : k < 4
      · rw [if_pos h3]
        by_cases h4 : k < 2
        · rw [if_pos h4, if_neg (c := 2 ≤ k ∧ k < 2 + 2) (by omega), if_pos (c := 0 ≤ k ∧ k < 0 + 2) (by omega)]; rfl
        · rw [if_neg h4, if_pos (c := 2 ≤ k ∧ k < 2 + 2) (by omega)]
      · rw [if_neg h3, if_neg (c := 2 ≤ k ∧ k < 2 + 2) (by omega), if_neg (c := 0 ≤ k ∧ k < 0 + 2) (by omega)]
    · rw [if_neg h2]
      by_cases h3 : k < 24
      · rw [if_pos (c := 16 ≤ k ∧ k < 16 + 8) (by omega)]
      · rw [if_neg (c := 16 ≤ k ∧ k < 16 + 8) (by omega), if_neg (c := 2 ≤ k ∧ k < 2 + 2) (by omega), if_neg (c := 0 ≤ k ∧ k < 0 + 2) (by omega)]
        exact hP_zero _ _ _ (by omega)
  · rw [if_neg h1]
    by_cases h2 : k < 64 + (m + 7) / 8
    · rw [if_pos ⟨by omega, h2⟩]
    · rw [if_neg (fun q => h2 q.2), if_neg (c := 16 ≤ k ∧ k < 16 + 8) (by omega), if_neg (c := 2 ≤ k ∧ k < 2 + 2) (by omega), if_neg (c := 0 ≤ k ∧ k < 0 + 2) (by omega)]
      exact hP_zero _ _ _ (by omega)
theorem entN_ok (n : Nat) (hn : n ≤ 9) (j : Nat) (hj : j < 32) : (entN n j).1 < 4294967296 ∧ (entN n j).2.size ≤ 1000000 ∧ entOk (entN n j).1 (entN n j).2 = true := by
  unfold entN
  by_cases h0 : j = 0
  · rw [if_pos h0]; decide +kernel
  · rw [if_neg h0]
    by_cases h1 : j = 1
    · rw [if_pos h1]; decide +kernel
    · rw [if_neg h1]
      by_cases h2 : j < n + 2
      · rw [if_pos h2]
        have := nameN_ok ⟨j - 2, by omega⟩
        refine ⟨by show j < _; omega, ?_, ?_⟩
        · show (nameN (j - 2)).size ≤ _
          have : (nameN (j - 2)).size = 2 := rfl
          omega
        · unfold entOk
          rw [decide_eq_true (p := j ≠ 0) h0, this]; simp
      · rw [if_neg h2]; decide +kernel
theorem rootE_of {f : Nat → Nat} {n j : Nat} (hn : n ≤ 9) (hj : j < 32) (h : ∀ k, k < 32 → f (3072 + 32 * j + k) = entF (entN n j).1 (entN n j).2 k) : rootE f 3 j = entN n j := by
  obtain ⟨h1, _, h3⟩ := entN_ok n hn j hj
  rw [rootE_at]
  exact entRd_of h1 h3 h
/-- an image that is wholly right, by its bytes: J x is the inode x + 1 -/
structure SimpB (m n : Nat) (cs : Nat → Nat → Bool) (J : Nat → InoN) (f : Nat → Nat) : Prop where
  byte : ∀ k, f k < 256
  sup : ∀ k, k < 1024 → f k = superF (geo1 m) k
  root : J 0 = rootI
  r : ∀ x, x ≤ n → InoR (J x) ∧ inoOk (J x) = true
  row : ∀ x, x < 16 → ∀ k, k < 64 → f (2048 + 64 * x + k) = if x ≤ n then inoF (J x) k else 0
  erow : ∀ j, j < 32 → ∀ k, k < 32 → f (3072 + 32 * j + k) = entF (entN n j).1 (entN n j).2 k
  head : ∀ k, k < 1024 → f (1024 + k) = headN m n (cs n) k
  c0 : cs 0 = fun x => decide (x = 0)
  f0 : ∀ k, k < n → J (k + 1) 0 = 1
  f1 : ∀ k, k < n → J (k + 1) 1 = 1
  fc : ∀ k, k < n → (cleanF (geo1 m) (cs k) (J (k + 1))).2 = cs (k + 1)
  fi : ∀ k, k < n → ∀ j, j < 13 → (cleanF (geo1 m) (cs k) (J (k + 1))).1 j = J (k + 1) j
  fp : ∀ k, k < n → ∀ j, j < 8 → J (k + 1) (3 + j) < (geo1 m).total
section
variable {m n : Nat} {cs : Nat → Nat → Bool} {J : Nat → InoN} {f : Nat → Nat}
theorem SimpB.ino (B : SimpB m n cs J f) (hn : n ≤ 9) (x : Nat) (hx : x ≤ n) : ∀ j, j < 13 → inoAt (geo1 m) f (x + 1) j = J x j :=
  inoAt_of (g := geo1 m) (geo1_ino m x (by omega)) (B.r x hx).1 (B.r x hx).2 fun k hk => by
    rw [rawF_at m x (by omega), B.row x (by omega) k hk, if_pos hx]
theorem SimpB.simp (B : SimpB m n cs J f) (hn : n ≤ 9) : Simp m n cs f := by
  have I := fun x hx => B.ino hn x hx
  have I0 : ∀ j, j < 13 → inoAt (geo1 m) f 1 j = rootI j := fun j hj => by rw [← B.root]; exact I 0 (by omega) j hj
  refine ⟨B.byte, B.sup, I0 0 (by omega), I0 1 (by omega), I0 2 (by omega), I0 3 (by omega), fun j h1 h2 => ?_, B.c0, fun k hk => ?_, fun k hk => ?_, fun k hk => ?_, fun k hk j hj => ?_, fun k hk j hj => ?_, fun k hk => ?_, fun j h1 h2 => ?_⟩
  · rw [I0 j h2]; unfold rootI; rw [if_neg (by omega), if_neg (by omega), if_neg (by omega), if_neg (by omega)]
  · rw [I (k + 1) (by omega) 0 (by omega)]; exact B.f0 k hk
  · rw [I (k + 1) (by omega) 1 (by omega)]; exact B.f1 k hk
  · rw [(cleanF_congr (I (k + 1) (by omega))).1]; exact B.fc k hk
  · rw [(cleanF_congr (I (k + 1) (by omega))).2 j hj, I (k + 1) (by omega) j hj]; exact B.fi k hk j hj
  · rw [I (k + 1) (by omega) (3 + j) (by omega)]; exact B.fp k hk j hj
  · rw [rootE_of hn (by omega) (B.erow _ (by omega)), entN_file n (k + 2) (by omega) (by omega)]; rfl
  · rw [rootE_of hn h2 (B.erow _ h2), entN_no n j h1]
/-- what is taken in -/
theorem SimpB.taken (B : SimpB m n cs J f) (hn : n ≤ 9) (hm : 0 < m) (x : Nat) : TS (geo1 m) f cs n 32 n (x + 1) = if x ≤ n then some (if x = 0 then ⟨rootIR (geo1 m) f, [rowN n 32], 1, [3]⟩ else fileR (geo1 m) f cs (x - 1)) else none := by
  unfold TS
  by_cases h0 : x = 0
  · rw [if_pos (by omega), if_pos (by omega), if_pos h0]
  · rw [if_neg (by omega), if_neg h0]
    by_cases h1 : x ≤ n
    · rw [if_pos (by omega), if_pos h1]; rfl
    · rw [if_neg (by omega), if_neg h1]
theorem SimpB.rootI_ (B : SimpB m n cs J f) (hn : n ≤ 9) (hm : 0 < m) : ∀ j, j < 13 → rootIR (geo1 m) f j = J 0 j := fun j hj => by
  rw [((B.simp hn).cut_ hm).1 j hj]; exact B.ino hn 0 (by omega) j hj
theorem SimpB.fileI_ (B : SimpB m n cs J f) (hn : n ≤ 9) (k : Nat) (hk : k < n) : ∀ j, j < 13 → (fileR (geo1 m) f cs k).i j = J (k + 1) j := fun j hj => by
  show setL 1 (setL 0 _) j = _
  unfold setL
  by_cases h1 : j = 1
  · rw [if_pos h1, h1]; exact (B.f1 k hk).symm
  · rw [if_neg h1, if_neg h1, (B.simp hn).fi k hk j hj]; exact B.ino hn (k + 1) (by omega) j hj
theorem ibO_ibN (g : Geo) (S : RSt) (n : Nat) (hg : g.gr = 1) (h16 : g.inodes = 16) (hT : ∀ x, x < 16 → (S.T (x + 1)).isSome = decide (x ≤ n)) : ∀ k, k ≤ 16 → ibO g S k = ibN n k
  | 0, _ => rfl
  | k + 1, hk => by
    have ih := ibO_ibN g S n hg h16 hT k (by omega)
    unfold ibO ibN
    rw [hT k (by omega), ih, (Geo.one_iNo hg (i := k + 1) (by rw [Geo.iOk_iff, h16]; omega)).1]
    by_cases h : k ≤ n
    · rw [decide_eq_true h, if_pos rfl, if_pos (by omega)]; rfl
    · rw [decide_eq_false h, if_neg (by decide), if_neg (by omega)]
theorem SimpB.inos (B : SimpB m n cs J f) (hn : n ≤ 9) (hm : 0 < m) : ∀ x, x ≤ 16 → inoO (geo1 m) ⟨cs n, TS (geo1 m) f cs n 32 n, [1], false⟩ f x = f
  | 0, _ => rfl
  | x + 1, hx => by
    have ih := B.inos hn hm x (by omega)
    unfold inoO inoO1
    dsimp only
    rw [ih, B.taken hn hm x, geo1_at m x (by omega)]
    have put : ∀ I : InoN, (∀ k, k < 64 → inoF I k = f (2048 + 64 * x + k)) → putF f (2048 + 64 * x) 64 (inoF I) = f := fun I hI => by
      funext q
      unfold putF
      by_cases hq : 2048 + 64 * x ≤ q ∧ q < 2048 + 64 * x + 64
      · rw [if_pos hq, hI _ (by omega), show 2048 + 64 * x + (q - (2048 + 64 * x)) = q by omega]
      · rw [if_neg hq]
    by_cases h1 : x ≤ n
    · rw [if_pos h1]
      dsimp only
      by_cases h0 : x = 0
      · rw [if_pos h0]
        dsimp only
        rw [put _ fun k hk => by rw [B.row x (by omega) k hk, if_pos h1, inoF_congr (B.rootI_ hn hm), h0]]
        show dirO _ f 1 = f
        unfold dirO dirO
        funext q
        show putF f (3 * 1024) 1024 (pbF (rowEnt (rowN n 32)) 32) q = f q
        unfold putF
        by_cases hq : 3 * 1024 ≤ q ∧ q < 3 * 1024 + 1024
        · rw [if_pos hq]
          have hj : (q - 3072) / 32 < 32 := by omega
          have he : rowEnt (rowN n 32) ((q - 3072) / 32) = entN n ((q - 3072) / 32) := by
            unfold rowEnt rowN
            rw [List.getD_eq_getElem?_getD, List.getElem?_map, List.getElem?_range hj]; rfl
          show pbF _ 32 (q - 3072) = _
          unfold pbF
          rw [if_pos (by omega), he]
          have := B.erow ((q - 3072) / 32) hj ((q - 3072) % 32) (by omega)
          rw [← this, show 3072 + 32 * ((q - 3072) / 32) + (q - 3072) % 32 = q by omega]
        · rw [if_neg hq]
      · rw [if_neg h0]
        show dirO _ (putF f (2048 + 64 * x) 64 (inoF (fileR (geo1 m) f cs (x - 1)).i)) 0 = f
        show putF f (2048 + 64 * x) 64 (inoF (fileR (geo1 m) f cs (x - 1)).i) = f
        exact put _ fun k hk => by
          rw [B.row x (by omega) k hk, if_pos h1, inoF_congr (B.fileI_ hn (x - 1) (by omega)), show x - 1 + 1 = x by omega]
    · rw [if_neg h1]
      exact put _ fun k hk => by rw [B.row x (by omega) k hk, if_neg h1]; exact noIno_zero k
theorem SimpB.img (B : SimpB m n cs J f) (hn : n ≤ 9) (hm : 0 < m) : ∀ k, imgR (geo1 m) (fixR (geo1 m) f) f k = f k := fun q => by
  rw [(B.simp hn).fix hn hm]
  unfold imgR
  rw [show (geo1 m).inodes = 16 from rfl, B.inos hn hm 16 (by omega)]
  rw [ibO_ibN (geo1 m) ⟨cs n, TS (geo1 m) f cs n 32 n, [1], false⟩ n rfl rfl (fun x hx => by
    show (TS (geo1 m) f cs n 32 n (x + 1)).isSome = _
    rw [B.taken hn hm x]
    by_cases h : x ≤ n
    · rw [if_pos h, decide_eq_true h]; rfl
    · rw [if_neg h, decide_eq_false h]; rfl) 16 (Nat.le_refl _)]
  rw [show (geo1 m).blocks = m from Nat.one_mul m]
  unfold putF
  by_cases hq : 1024 ≤ q ∧ q < 1024 + 1024
  · rw [if_pos hq]
    have := B.head (q - 1024) (by omega)
    rw [show 1024 + (q - 1024) = q by omega] at this
    exact this.symm
  · rw [if_neg hq]
theorem SimpB.fixOk (B : SimpB m n cs J f) (hn : n ≤ 9) (hm : 0 < m) : FixOk (geo1 m) f := by
  have L := B.simp hn
  have h3 := L.mUp_ hm
  have h4 := L.root_ hm
  refine ⟨L.r0, by rw [L.r2]; omega, by rw [L.r3]; exact dOk_one (by omega) (by omega), by rw [L.r4 11 (by omega) (by omega)]; rfl, by rw [L.r4 12 (by omega) (by omega)]; rfl, by rw [h3]; decide, ?_, ?_⟩
  · rw [h3, h4]
    intro p hp
    simp only [List.mem_singleton] at hp
    subst hp
    show 3 < 1 + 1 * (1 + 1 + m)
    omega
  · rw [h3, h4]
    intro p hp j hj
    simp only [List.mem_singleton] at hp
    subst hp
    have e : blkE (fun q => f (3 * 1024 + q)) j = rootE f 3 j := rfl
    rw [e, rootE_of hn hj (B.erow j hj)]
    by_cases h2 : j < 2
    · left; unfold entN
      by_cases h0 : j = 0
      · rw [if_pos h0]
      · rw [if_neg h0, if_pos (by omega)]
    · right
      by_cases h5 : j < n + 2
      · rw [entN_file n j (by omega) h5]
        obtain ⟨k, rfl⟩ : ∃ k, j = k + 2 := ⟨j - 2, by omega⟩
        have f11 := L.fi k (by omega) 11 (by omega)
        have f12 := L.fi k (by omega) 12 (by omega)
        have z11 : inoAt (geo1 m) f (k + 2) 11 = 0 := by rw [← f11]; rfl
        have z12 : inoAt (geo1 m) f (k + 2) 12 = 0 := by rw [← f12]; rfl
        refine ⟨?_, ?_, ?_⟩
        · show inoAt (geo1 m) f (k + 2) 0 ≠ 2
          rw [L.f0 k (by omega)]; decide
        · show (geo1 m).dOk (inoAt (geo1 m) f (k + 2) 11) = false
          rw [z11]; rfl
        · show (geo1 m).dOk (inoAt (geo1 m) f (k + 2) 12) = false
          rw [z12]; rfl
      · rw [entN_no n j (by omega)]
        exact plain_noIno (noIno_at rfl) rfl
theorem SimpB.each (B : SimpB m n cs J f) (hn : n ≤ 9) (hm : 0 < m) {P : RT → Prop} (h0 : (∀ j, j < 13 → rootIR (geo1 m) f j = J 0 j) → P ⟨rootIR (geo1 m) f, [rowN n 32], 1, [3]⟩) (h1 : ∀ k, k < n → (∀ j, j < 13 → (fileR (geo1 m) f cs k).i j = J (k + 1) j) → P (fileR (geo1 m) f cs k)) : ∀ x t, (fixR (geo1 m) f).T x = some t → P t := by
  intro x t ht
  rw [(B.simp hn).fix hn hm] at ht
  replace ht : TS (geo1 m) f cs n 32 n x = some t := ht
  unfold TS at ht
  by_cases e1 : x = 1
  · rw [if_pos e1] at ht; cases ht; exact h0 (B.rootI_ hn hm)
  · rw [if_neg e1] at ht
    by_cases e2 : 2 ≤ x ∧ x < n + 2
    · rw [if_pos e2] at ht; cases ht; exact h1 (x - 2) (by omega) (B.fileI_ hn (x - 2) (by omega))
    · rw [if_neg e2] at ht; cases ht
theorem SimpB.raw (B : SimpB m n cs J f) (hn : n ≤ 9) (h8 : 8 ≤ m) (h1000 : m ≤ 1000) : RawOk (geo1 m) f ((3 + m) * 1024) := by
  have hm : 0 < m := by omega
  have hso : supG f = geo1 m ∧ supOk f = true := by
    have h0 : ∀ k, k < 20 → superF (geo1 m) k = superK (geo1 m) 3 k := fun k hk => by
      unfold superF putF catF; rw [if_pos (by omega), Nat.sub_zero, if_pos hk]
    have h1 : ∀ a j, a < 3 → j < 4 → superK (geo1 m) 3 (8 + 4 * a + j) = byteN ((geo1 m).fld a) j := fun a j ha hj => by
      show catF (8 + 4 * 2) (catF (8 + 4 * 1) (catF (8 + 4 * 0) markF _) _) _ (8 + 4 * a + j) = _
      unfold catF
      match a, ha with
      | 0, _ => rw [if_pos (by omega), if_pos (by omega), if_neg (by omega), show 8 + 4 * 0 + j - (8 + 4 * 0) = j by omega]
      | 1, _ => rw [if_pos (by omega), if_neg (by omega), show 8 + 4 * 1 + j - (8 + 4 * 1) = j by omega]
      | 2, _ => rw [if_neg (by omega), show 8 + 4 * 2 + j - (8 + 4 * 2) = j by omega]
    have hG : supG f = geo1 m := by
      unfold supG
      rw [leN_congr 4 (g := byteN 1) (fun k hk => by rw [B.sup _ (by omega), h0 _ (by omega)]; exact h1 0 k (by omega) hk),
        leN_congr (f := fun k => f (12 + k)) 4 (g := byteN 1) (fun k hk => by rw [B.sup _ (by omega), h0 _ (by omega)]; exact h1 1 k (by omega) hk),
        leN_congr (f := fun k => f (16 + k)) 4 (g := byteN m) (fun k hk => by rw [B.sup _ (by omega), h0 _ (by omega)]; exact h1 2 k (by omega) hk),
        leN_byte _ _ (by decide), leN_byte _ _ (by omega)]
      rfl
    refine ⟨hG, ?_⟩
    unfold Go.Proofs.YtbbgahffcjbloaaGreat.supOk
    rw [hG, Geo.okB_iff.2 (geo1_ok h8 h1000), Bool.true_and]
    unfold eqB
    rw [decide_eq_true_iff]
    intro k hk
    rw [B.sup k hk]
  refine ⟨rfl, ?_, hso.1, B.fixOk hn hm, ⟨B.each hn hm ?_ ?_, B.each hn hm ?_ ?_⟩, fun k _ => B.img hn hm k, B.each hn hm ?_ ?_, B.each hn hm ?_ ?_⟩
  · unfold Go.Proofs.YtbbgahffcjbloaaGreat.ofOk
    rw [hso.1, hso.2, decide_eq_true (by omega), decide_eq_true (by show (3 + m) * 1024 = (1 + 1 * (1 + 1 + m)) * 1024; omega)]
    rfl
  · intro hI
    have h := B.r 0 (by omega)
    exact ⟨h.1.congr fun j hj => (hI j hj).symm, (inoOk_congr hI).trans h.2⟩
  · intro k hk hI
    have h := B.r (k + 1) (by omega)
    exact ⟨h.1.congr fun j hj => (hI j hj).symm, (inoOk_congr hI).trans h.2⟩
  · intro _
    refine ⟨rfl, fun p hp => ?_, fun d hd => ?_⟩
    · simp only [List.mem_singleton] at hp
      subst hp
      show 3 < 1 + 1 * (1 + 1 + m)
      omega
    · simp only [List.mem_singleton] at hd
      subst hd
      refine ⟨rowN_length _ _, fun e he => ?_⟩
      unfold rowN at he
      rw [List.mem_map] at he
      obtain ⟨j, hj, rfl⟩ := he
      exact entN_ok n hn j (by simpa using hj)
  · intro k _ _
    refine ⟨rfl, fun p hp => ?_, fun d hd => ?_⟩
    · cases hp
    · cases hd
  · intro _; show 1 ≤ 100000; decide
  · intro k _ _; show 0 ≤ 100000; decide
  · intro hI
    dsimp only
    refine ⟨by rw [hI 11 (by omega), B.root]; rfl, by rw [hI 12 (by omega), B.root]; rfl, fun k hk => ?_⟩
    rw [hI (3 + k) (by omega), B.root]
    show rootI (3 + k) < 1 + 1 * (1 + 1 + m)
    unfold rootI
    rw [if_neg (by omega), if_neg (by omega), if_neg (by omega)]
    by_cases h : 3 + k = 3
    · rw [if_pos h]; omega
    · rw [if_neg h]; omega
  · intro k hk hI
    have f11 := B.fi k hk 11 (by omega)
    have f12 := B.fi k hk 12 (by omega)
    refine ⟨by rw [hI 11 (by omega), ← f11]; rfl, by rw [hI 12 (by omega), ← f12]; rfl, fun j hj => ?_⟩
    rw [hI (3 + j) (by omega)]
    exact B.fp k hk j hj
end
/-- the Tree -/
def csN (k : Nat) : Nat → Bool := fun x => decide (x < k + 1)
theorem trF_simpB (n : Nat) (hn : n ≤ 9) : SimpB 20 n csN treeI (trF 20 n) := by
  refine ⟨trF_lt 20 n (by omega), fun k hk => trF_sup 20 n (by omega) k hk, rfl, fun x hx => ?_, fun x hx k hk => trF_row 20 n hn x hx k hk, fun j hj k hk => trF_erow 20 n hn j hj k hk, fun k hk => by rw [headN_P (by decide) (by omega) (csN n) (fun i => decide (i < n + 1)) (fun i _ => rfl)]; exact (head_20 ⟨n, by omega⟩ ⟨k, hk⟩).symm, ?_, fun k hk => rfl, fun k hk => rfl, fun k hk => ?_, fun k hk => ?_, fun k hk j hj => ?_⟩
  · have h1 := treeI_r (x := x) (l := treeI x 1) (by omega) (by unfold treeI; split <;> (show (_ : Nat) < 65536; first | (show (2 : Nat) < 65536; decide) | (show (1 : Nat) < 65536; decide)))
    have h2 := treeI_ok x (treeI x 1)
    have e : ∀ j, j < 13 → withL (treeI x) (treeI x 1) j = treeI x j := fun j _ => by
      unfold withL
      by_cases h : j = 1
      · rw [if_pos h, h]
      · rw [if_neg h]
    exact ⟨h1.congr e, (inoOk_congr e).symm.trans h2⟩
  · funext x; unfold csN; congr 1; exact propext ⟨fun h => by omega, fun h => by omega⟩
  · have dk : (geo1 20).dOk (4 + k) = true := dOk_one (by omega) (by omega)
    have nk : (geo1 20).dNo (4 + k) = k + 1 := by
      rw [(Geo.one_dNo (g := geo1 20) rfl dk).1]
      show 4 + k - 2 - 1 = k + 1
      omega
    have := clean_one (g := geo1 20) (c := csN k) (I := treeI (k + 1)) (a := 0) (P := 4 + k) (by omega) rfl rfl (fun j h1 h2 h3 => by
      show fileI k j = 0
      unfold fileI
      rw [if_neg (by omega), if_neg (by omega), if_neg (by omega), if_neg (by omega)]) (.inr ⟨dk, by rw [nk]; unfold csN; rw [decide_eq_false (by omega)], by show 0 < cntN 10; decide⟩) rfl
    rw [this.1]
    funext x
    rw [dk, nk]
    unfold csN
    by_cases hx : x = k + 1
    · rw [if_pos ⟨rfl, hx⟩, decide_eq_true (by omega)]
    · rw [if_neg (fun q => hx q.2)]
      congr 1
      exact propext ⟨fun h => by omega, fun h => by omega⟩
  · have dk : (geo1 20).dOk (4 + k) = true := dOk_one (by omega) (by omega)
    have nk : (geo1 20).dNo (4 + k) = k + 1 := by
      rw [(Geo.one_dNo (g := geo1 20) rfl dk).1]
      show 4 + k - 2 - 1 = k + 1
      omega
    exact (clean_one (g := geo1 20) (c := csN k) (I := treeI (k + 1)) (a := 0) (P := 4 + k) (by omega) rfl rfl (fun j h1 h2 h3 => by
      show fileI k j = 0
      unfold fileI
      rw [if_neg (by omega), if_neg (by omega), if_neg (by omega), if_neg (by omega)]) (.inr ⟨dk, by rw [nk]; unfold csN; rw [decide_eq_false (by omega)], by show 0 < cntN 10; decide⟩) rfl).2
  · show fileI k (3 + j) < 1 + 1 * (1 + 1 + 20)
    unfold fileI
    rw [if_neg (by omega), if_neg (by omega), if_neg (by omega)]
    by_cases h : 3 + j = 3
    · rw [if_pos h]; omega
    · rw [if_neg h]; omega
end Go.Proofs.YtbbgahffcjbloaaGreat
end

section
/- What Repair makes of an image of a root and files whose inodes are any. -/
namespace Go.Proofs.YtbbgahffcjbloaaGreat
open Go.RowKit

section
variable {m n : Nat} {h : Nat → Nat}
end
end Go.Proofs.YtbbgahffcjbloaaGreat
end

section
/- What Repair makes of an image of a root and any files is wholly right to the reference. -/
namespace Go.Proofs.YtbbgahffcjbloaaGreat
open Go.RowKit

theorem data_iff {m p : Nat} (hp : (geo1 m).dOk p = true) (x : Nat) : (geo1 m).data x = p ↔ x = (geo1 m).dNo p := by
  obtain ⟨n1, n2, n3⟩ := Geo.one_dNo (g := geo1 m) rfl hp
  rw [show (geo1 m).ino = 1 from rfl] at n1 n2 n3
  rw [show (geo1 m).da = m from rfl] at n3
  by_cases hx : x < m
  · rw [Geo.one_data (g := geo1 m) hx, n1]
    show 2 + 1 + x = p ↔ _
    omega
  · have e : (geo1 m).data x = 1 + x / m * (1 + 1 + m) + 1 + 1 + x % m := rfl
    have hm : 0 < m := by omega
    have h1 : 1 ≤ x / m := (Nat.one_le_div_iff hm).2 (by omega)
    have h2 : 1 * (1 + 1 + m) ≤ x / m * (1 + 1 + m) := Nat.mul_le_mul_right _ h1
    rw [e, n1]
    constructor
    · intro q; omega
    · intro q; omega
section
variable {m : Nat} (I : InoN) (c : Nat → Bool)
end
section
variable {m n : Nat} {h : Nat → Nat}
end
end Go.Proofs.YtbbgahffcjbloaaGreat
end
