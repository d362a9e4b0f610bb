/- Part of the road to RootRow: RFix, RPart, RParts, RPEs, RImg0. -/
import Derived.Deep.DeepCutAuto
import Derived.Test.YtbbgahffcjbloaaGreatRts09
import Derived.Test.YtbbgahffcjbloaaGreatRts05
import Derived.Test.YtbbgahffcjbloaaGreatTws03
import Derived.Test.YtbbgahffcjbloaaGreatTws05
import Derived.Test.YtbbgahffcjbloaaGreatTws04
set_option linter.all false
set_option linter.unusedSimpArgs false
set_option linter.unusedVariables false
set_option linter.unusedSectionVars false
section
/- The reference's repair of an image. -/
namespace Go.Proofs.YtbbgahffcjbloaaGreat
open Go.RowKit

theorem entStep_ord (g : Geo) (f : Nat → Nat) (dr b : Nat) (S : RSt) (k : Nat) (e : Nat × ByteArray) : (entStep g f dr b S k e).ord = S.ord := by
  unfold entStep
  cases hT : S.T dr with
  | none => rfl
  | some t =>
    dsimp only
    split
    · rfl
    · split
      · rfl
      · split
        · rfl
        · cases hs : stayR g f S dr e.1 with
          | none => rfl
          | some S' =>
            show S'.ord = S.ord
            unfold stayR at hs
            split at hs
            · cases hs
            · split at hs
              · cases hs
              · dsimp only at hs
                split at hs
                · split at hs
                  · cases hs
                  · cases hs
                    dsimp only
                    split <;> rfl
                · cases hs
theorem entLoop_ord (g : Geo) (f : Nat → Nat) (dr b : Nat) (E : Nat → Nat × ByteArray) (S : RSt) : ∀ k, (entLoop g f dr b E S k).ord = S.ord
  | 0 => rfl
  | k + 1 => (entStep_ord g f dr b _ k _).trans (entLoop_ord g f dr b E S k)
theorem entAll_ord (g : Geo) (f : Nat → Nat) (dr : Nat) (S : RSt) : ∀ b, (entAll g f dr S b).ord = S.ord
  | 0 => rfl
  | b + 1 => by
    have ih := entAll_ord g f dr S b
    show (entBlk g f dr _ b).ord = _
    unfold entBlk
    split
    · exact ih
    · rw [entLoop_ord]; exact ih
/-- the root as it is taken in; its blocks -/
def rootC (g : Geo) (f : Nat → Nat) : InoN × (Nat → Bool) := cleanF g (fun _ => false) (inoAt g f 1)
def rootR (g : Geo) (f : Nat → Nat) : RSt := { c := (cutF g (rootC g f).1 (rootC g f).2).2, T := fun y => if y = 1 then some ⟨setL 2 (cutF g (rootC g f).1 (rootC g f).2).1, [], 1, leadOf (rootC g f).1 (mUp (rootC g f).1 8)⟩ else none, ord := [1], z := false }
def fixR (g : Geo) (f : Nat → Nat) : RSt := entAll g f 1 (rootR g f) (mUp (rootC g f).1 8)
theorem rootR_1 (g : Geo) (f : Nat → Nat) : (rootR g f).T 1 = some ⟨setL 2 (cutF g (rootC g f).1 (rootC g f).2).1, [], 1, leadOf (rootC g f).1 (mUp (rootC g f).1 8)⟩ := by unfold rootR; dsimp only; rw [if_pos rfl]
/-- the root is good, and the only directory that is named; no indirect blocks -/
structure FixOk (g : Geo) (f : Nat → Nat) : Prop where
  k : inoAt g f 1 0 = 2
  s : 1024 ≤ inoAt g f 1 2
  d3 : g.dOk (inoAt g f 1 3) = true
  s1 : g.dOk (inoAt g f 1 11) = false
  s2 : g.dOk (inoAt g f 1 12) = false
  m : mUp (rootC g f).1 8 ≠ 0
  lead : ∀ p ∈ leadOf (rootC g f).1 (mUp (rootC g f).1 8), p < g.total
  ent : ∀ p ∈ leadOf (rootC g f).1 (mUp (rootC g f).1 8), ∀ j, j < 32 → (blkE (fun q => f (p * 1024 + q)) j).1 = 1 ∨ Plain g f (blkE (fun q => f (p * 1024 + q)) j).1
set_option maxRecDepth 1000000 in
set_option maxHeartbeats 8000000 in
theorem rfix_c (g : Geo) (hg : g.Ok) (f : Nat → Nat) (b o N cap : Nat) (w : World) (hI : ImgOk g b o N cap f w) (hF : FixOk g f) :
    Calls Tryz.prog 26 #[.slice (some ⟨b, o, none⟩) N cap, .agg #[.int .i64 g.gr, .int .i64 g.ino, .int .i64 g.da]] w fun e w' => ∃ R D C T lb adr, e = .returned (.pointer (some ⟨R, 0, none⟩)) ∧
      RS g f ⟨R, D, C, g.blocks, T, g.inodes + 1, b, o, N, cap⟩ w' lb adr (fixR g f) ∧ Below w.heap.size w w' := by
  obtain ⟨bi, hbi, hb0, hb1, hb2⟩ := info_parts infoB
  obtain ⟨ti, hti, ht0, ht1, ht2⟩ := info_parts infoT
  have hbl := hg.blocks_le
  have hil := hg.inodes_le
  obtain ⟨w1, hw1⟩ : ∃ W, W = w.alloc (.cells #[.int .i64 g.gr, .int .i64 g.ino, .int .i64 g.da] 24) := ⟨_, rfl⟩
  have kG : Blk 24 w1 w.heap.size [.int .i64 g.gr, .int .i64 g.ino, .int .i64 g.da] := by rw [hw1]; exact Blk.newL _
  have hB01 : Below w.heap.size w w1 := by rw [hw1]; exact (Below.refl _ w).alloc (Nat.le_refl _) _
  have hz01 : w.heap.size < w1.heap.size := by rw [hw1]; simp
  have hI1 : ImgOk g b o N cap f w1 := hI.below hB01 hI.lt
  have keepG : ∀ {W : World}, Below w1.heap.size w1 W → W.cell? ⟨w.heap.size, 0, none⟩ = some (.int .i64 (g.gr : Nat)) ∧ W.cell? ⟨w.heap.size, 1, none⟩ = some (.int .i64 (g.ino : Nat)) ∧ W.cell? ⟨w.heap.size, 2, none⟩ = some (.int .i64 (g.da : Nat)) := fun hb => ⟨(kG.below hb kG.lt).cell 0, (kG.below hb kG.lt).cell 1, (kG.below hb kG.lt).cell 2⟩
  have hmC : ∀ w : World, (Instr.makeSlice 66 (.int .i64 (g.blocks : Nat)) (.int .i64 (g.blocks : Nat))).run Tryz.prog w = .ok (.slice (some ⟨w.heap.size, 0, none⟩) g.blocks g.blocks) (w.alloc (.cells (madeCells #[.bool false] g.blocks) 4)) := fun w => by
    rw [run_make (P := Tryz.prog) w 66 4 bi (.bool false) Tryz.underlying66 hbi hb0 .i64 .i64 g.blocks g.blocks (by omega) (by omega) (by rw [hb2]; omega) (by omega), hb1]; simp; rfl
  have hmT : ∀ w : World, (Instr.makeSlice 67 (.int .i64 ((g.inodes : Int) + 1)) (.int .i64 ((g.inodes : Int) + 1))).run Tryz.prog w = .ok (.slice (some ⟨w.heap.size, 0, none⟩) (g.inodes + 1) (g.inodes + 1)) (w.alloc (.cells (madeCells #[.pointer none] (g.inodes + 1)) 70)) := fun w => by
    have := run_make (P := Tryz.prog) w 67 70 ti (.pointer none) Tryz.underlying67 hti ht0 .i64 .i64 (g.inodes + 1 : Nat) (g.inodes + 1 : Nat) (by omega) (by omega) (by rw [ht2]; omega) (by omega)
    rw [ht1] at this
    have e : (Value.pointer none).cells = #[Value.pointer none] := rfl
    rw [e] at this
    simpa using this
  have hwr : IntKind.i64.wrap ((g.inodes : Int) + 1) = (g.inodes : Int) + 1 := wrap_in _ (by omega) (by omega)
  have L0 : Laid g b o N cap w1 none none none w1.drew := ⟨(Below.refl _ _).drew, (fun _ e => by cases e), (fun _ e => by cases e), (fun _ e => by cases e)⟩
  have gG := kG.drew
  have k0 := kG.cell 0; have k1 := kG.cell 1; have k2 := kG.cell 2
  simp only [List.getElem?_cons_zero, List.getElem?_cons_succ] at k0 k1 k2
  have HW1 := Lib.hid hw1
  clear hw1
  go_enter Tryz.func26, Tryz.ntmps26
  go_upto_region 1 with fail
  rw [← HW1.out]
  go_cut [5] (fun s5 wx => ∃ R D C T, s5 = .pointer (some ⟨R, 0, none⟩) ∧ RS g f ⟨R, D, C, g.blocks, T, g.inodes + 1, b, o, N, cap⟩ wx (lab0 R D C T) (fun _ => none) rs0 ∧ w.heap.size ≤ R ∧ w.heap.size ≤ D ∧ w.heap.size ≤ C ∧ w.heap.size ≤ T ∧ Below w.heap.size w wx)
  case first =>
    refine wp_region_held_drew (S := fun (w' : World) => w'.cell? ⟨w.heap.size, 0, none⟩ = some (.int .i64 (g.gr : Nat)) ∧ w'.cell? ⟨w.heap.size, 1, none⟩ = some (.int .i64 (g.ino : Nat)) ∧ w'.cell? ⟨w.heap.size, 2, none⟩ = some (.int .i64 (g.da : Nat))) (by kernel_rfl) ⟨k0, k1, k2⟩ (fun hHeld => ?_)
    refine tkA (i := 0) (oi := ⟨_, _, _, _, _, _⟩) ?_
    simp only [putA, List.set]
    refine tkA (i := 1) (oi := ⟨_, _, _, _, _, _⟩) ?_
    simp only [putA, List.set]
    refine tkA (i := 2) (oi := ⟨_, _, _, _, _, _⟩) ?_
    simp only [putA, List.set]
    refine tkA (i := 4) (oi := ⟨_, _, _, _, _, _⟩) ?_
    simp only [putA, List.set]
    refine tkA (i := 7) (oi := ⟨_, _, _, _, _, _⟩) ?_
    simp only [putA, List.set]
    generalize w1.drew = W0 at L0 hHeld ⊢
    refine wpAnyH_ready (rs := [3, 5]) (by kernel_rfl) (by simp) ?_
    refine AllReadyH.cons rfl (fun K hK => ?_) (AllReadyH.cons rfl (fun K hK => ?_) AllReadyH.nil)
    · go_simp
      have L1 := Laid.disk L0
      refine hK.out _ _ (keepG L1.below) (fun hHeld => ?_)
      clear hK K
      generalize W0.heap.size = A1 at L1 ⊢
      generalize World.alloc _ _ = W1 at L1 hHeld ⊢
      refine wpAnyH_ready (rs := [5]) (by kernel_rfl) (by simp) ?_
      refine AllReadyH.cons rfl (fun K hK => ?_) AllReadyH.nil
      · go_simp
        refine (rblocks_c g hg _).mono ?_
        rintro e W2 ⟨rfl, hb⟩
        have L2 := L1.step hb
        clear hb
        refine hK.out _ _ (keepG L2.below) (fun hHeld => ?_)
        clear hK K
        clear L1
        refine wpAnyH_ready (rs := [6, 8]) (by kernel_rfl) (by simp) ?_
        refine AllReadyH.cons rfl (fun K hK => ?_) (AllReadyH.cons rfl (fun K hK => ?_) AllReadyH.nil)
        · go_simp
          have L3 := Laid.claim L2
          refine hK.out _ _ (keepG L3.below) (fun hHeld => ?_)
          clear hK K
          generalize W2.heap.size = A3 at L3 ⊢
          generalize World.alloc _ _ = W3 at L3 hHeld ⊢
          clear L2
          refine wpAnyH_ready (rs := [8]) (by kernel_rfl) (by simp) ?_
          refine AllReadyH.cons rfl (fun K hK => ?_) AllReadyH.nil
          · go_simp
            refine (rinodes_c g hg _).mono ?_
            rintro e W4 ⟨rfl, hb⟩
            have L4 := L3.step hb
            clear hb
            refine hK.out _ _ (keepG L4.below) (fun hHeld => ?_)
            clear hK K
            refine tkA (i := 9) (oi := ⟨_, _, _, _, _, _⟩) ?_
            simp only [putA, List.set]
            clear L3
            refine wpAnyH_ready (rs := [10]) (by kernel_rfl) (by simp) ?_
            refine AllReadyH.cons rfl (fun K hK => ?_) AllReadyH.nil
            · go_simp
              have L5 := Laid.takens L4
              refine hK.out _ _ (keepG L5.below) (fun hHeld => ?_)
              clear hK K
              generalize W4.heap.size = A5 at L5 ⊢
              generalize World.alloc _ _ = W5 at L5 hHeld ⊢
              clear L4
              refine tkA (i := 11) (oi := ⟨_, _, _, _, _, _⟩) ?_
              simp only [putA, List.set]
              refine wpAnyH_ready (rs := [12]) (by kernel_rfl) (by simp) ?_
              refine AllReadyH.cons rfl (fun K hK => ?_) AllReadyH.nil
              go_simp
              have hRS := L5.rs hI1
              have hBR := (L5.below).alloc L5.below.size (.cells #[.pointer (some ⟨A1, 0, none⟩), .slice (some ⟨A3, 0, none⟩) g.blocks g.blocks, .slice (some ⟨A5, 0, none⟩) (g.inodes + 1) (g.inodes + 1), .slice none 0 0, .bool false] 69)
              have hz := L5.below.size
              have b1 := (L5.d _ rfl).1
              have b2 := (L5.c _ rfl).1
              have b3 := (L5.t _ rfl).1
              refine hK.out _ _ (keepG hBR) (fun hHeld => ?_)
              clear hK K
              refine tkA (i := 13) (oi := ⟨_, _, _, _, _, _⟩) ?_
              simp only [putA, List.set]
              refine wpAnyH_done (by kernel_rfl) ?_ _
              go_wp2_with fail
              go_meet
              exact ⟨_, _, _, _, rfl, hRS, by omega, by omega, by omega, by omega, hB01.trans (hBR.mono (by omega))⟩
        · go_simp
          refine (rinodes_c g hg _).mono ?_
          rintro e W6 ⟨rfl, hb⟩
          have L6 := L2.step hb
          clear hb
          refine hK.out _ _ (keepG L6.below) (fun hHeld => ?_)
          clear hK K
          refine tkA (i := 9) (oi := ⟨_, _, _, _, _, _⟩) ?_
          simp only [putA, List.set]
          clear L2
          refine wpAnyH_ready (rs := [6, 10]) (by kernel_rfl) (by simp) ?_
          refine AllReadyH.cons rfl (fun K hK => ?_) (AllReadyH.cons rfl (fun K hK => ?_) AllReadyH.nil)
          · go_simp
            have L7 := Laid.claim L6
            refine hK.out _ _ (keepG L7.below) (fun hHeld => ?_)
            clear hK K
            generalize W6.heap.size = A7 at L7 ⊢
            generalize World.alloc _ _ = W7 at L7 hHeld ⊢
            clear L6
            refine wpAnyH_ready (rs := [10]) (by kernel_rfl) (by simp) ?_
            refine AllReadyH.cons rfl (fun K hK => ?_) AllReadyH.nil
            · go_simp
              have L8 := Laid.takens L7
              refine hK.out _ _ (keepG L8.below) (fun hHeld => ?_)
              clear hK K
              generalize W7.heap.size = A8 at L8 ⊢
              generalize World.alloc _ _ = W8 at L8 hHeld ⊢
              clear L7
              refine tkA (i := 11) (oi := ⟨_, _, _, _, _, _⟩) ?_
              simp only [putA, List.set]
              refine wpAnyH_ready (rs := [12]) (by kernel_rfl) (by simp) ?_
              refine AllReadyH.cons rfl (fun K hK => ?_) AllReadyH.nil
              go_simp
              have hRS := L8.rs hI1
              have hBR := (L8.below).alloc L8.below.size (.cells #[.pointer (some ⟨A1, 0, none⟩), .slice (some ⟨A7, 0, none⟩) g.blocks g.blocks, .slice (some ⟨A8, 0, none⟩) (g.inodes + 1) (g.inodes + 1), .slice none 0 0, .bool false] 69)
              have hz := L8.below.size
              have b1 := (L8.d _ rfl).1
              have b2 := (L8.c _ rfl).1
              have b3 := (L8.t _ rfl).1
              refine hK.out _ _ (keepG hBR) (fun hHeld => ?_)
              clear hK K
              refine tkA (i := 13) (oi := ⟨_, _, _, _, _, _⟩) ?_
              simp only [putA, List.set]
              refine wpAnyH_done (by kernel_rfl) ?_ _
              go_wp2_with fail
              go_meet
              exact ⟨_, _, _, _, rfl, hRS, by omega, by omega, by omega, by omega, hB01.trans (hBR.mono (by omega))⟩
          · go_simp
            have L9 := Laid.takens L6
            refine hK.out _ _ (keepG L9.below) (fun hHeld => ?_)
            clear hK K
            generalize W6.heap.size = A9 at L9 ⊢
            generalize World.alloc _ _ = W9 at L9 hHeld ⊢
            clear L6
            refine wpAnyH_ready (rs := [6]) (by kernel_rfl) (by simp) ?_
            refine AllReadyH.cons rfl (fun K hK => ?_) AllReadyH.nil
            · go_simp
              have L10 := Laid.claim L9
              refine hK.out _ _ (keepG L10.below) (fun hHeld => ?_)
              clear hK K
              generalize W9.heap.size = A10 at L10 ⊢
              generalize World.alloc _ _ = W10 at L10 hHeld ⊢
              clear L9
              refine tkA (i := 11) (oi := ⟨_, _, _, _, _, _⟩) ?_
              simp only [putA, List.set]
              refine wpAnyH_ready (rs := [12]) (by kernel_rfl) (by simp) ?_
              refine AllReadyH.cons rfl (fun K hK => ?_) AllReadyH.nil
              go_simp
              have hRS := L10.rs hI1
              have hBR := (L10.below).alloc L10.below.size (.cells #[.pointer (some ⟨A1, 0, none⟩), .slice (some ⟨A10, 0, none⟩) g.blocks g.blocks, .slice (some ⟨A9, 0, none⟩) (g.inodes + 1) (g.inodes + 1), .slice none 0 0, .bool false] 69)
              have hz := L10.below.size
              have b1 := (L10.d _ rfl).1
              have b2 := (L10.c _ rfl).1
              have b3 := (L10.t _ rfl).1
              refine hK.out _ _ (keepG hBR) (fun hHeld => ?_)
              clear hK K
              refine tkA (i := 13) (oi := ⟨_, _, _, _, _, _⟩) ?_
              simp only [putA, List.set]
              refine wpAnyH_done (by kernel_rfl) ?_ _
              go_wp2_with fail
              go_meet
              exact ⟨_, _, _, _, rfl, hRS, by omega, by omega, by omega, by omega, hB01.trans (hBR.mono (by omega))⟩
    · go_simp
      refine (rblocks_c g hg _).mono ?_
      rintro e W11 ⟨rfl, hb⟩
      have L11 := L0.step hb
      clear hb
      refine hK.out _ _ (keepG L11.below) (fun hHeld => ?_)
      clear hK K
      refine wpAnyH_ready (rs := [3, 6, 8]) (by kernel_rfl) (by simp) ?_
      refine AllReadyH.cons rfl (fun K hK => ?_) (AllReadyH.cons rfl (fun K hK => ?_) (AllReadyH.cons rfl (fun K hK => ?_) AllReadyH.nil))
      · go_simp
        have L12 := Laid.disk L11
        refine hK.out _ _ (keepG L12.below) (fun hHeld => ?_)
        clear hK K
        generalize W11.heap.size = A12 at L12 ⊢
        generalize World.alloc _ _ = W12 at L12 hHeld ⊢
        clear L11
        refine wpAnyH_ready (rs := [6, 8]) (by kernel_rfl) (by simp) ?_
        refine AllReadyH.cons rfl (fun K hK => ?_) (AllReadyH.cons rfl (fun K hK => ?_) AllReadyH.nil)
        · go_simp
          have L13 := Laid.claim L12
          refine hK.out _ _ (keepG L13.below) (fun hHeld => ?_)
          clear hK K
          generalize W12.heap.size = A13 at L13 ⊢
          generalize World.alloc _ _ = W13 at L13 hHeld ⊢
          clear L12
          refine wpAnyH_ready (rs := [8]) (by kernel_rfl) (by simp) ?_
          refine AllReadyH.cons rfl (fun K hK => ?_) AllReadyH.nil
          · go_simp
            refine (rinodes_c g hg _).mono ?_
            rintro e W14 ⟨rfl, hb⟩
            have L14 := L13.step hb
            clear hb
            refine hK.out _ _ (keepG L14.below) (fun hHeld => ?_)
            clear hK K
            refine tkA (i := 9) (oi := ⟨_, _, _, _, _, _⟩) ?_
            simp only [putA, List.set]
            clear L13
            refine wpAnyH_ready (rs := [10]) (by kernel_rfl) (by simp) ?_
            refine AllReadyH.cons rfl (fun K hK => ?_) AllReadyH.nil
            · go_simp
              have L15 := Laid.takens L14
              refine hK.out _ _ (keepG L15.below) (fun hHeld => ?_)
              clear hK K
              generalize W14.heap.size = A15 at L15 ⊢
              generalize World.alloc _ _ = W15 at L15 hHeld ⊢
              clear L14
              refine tkA (i := 11) (oi := ⟨_, _, _, _, _, _⟩) ?_
              simp only [putA, List.set]
              refine wpAnyH_ready (rs := [12]) (by kernel_rfl) (by simp) ?_
              refine AllReadyH.cons rfl (fun K hK => ?_) AllReadyH.nil
              go_simp
              have hRS := L15.rs hI1
              have hBR := (L15.below).alloc L15.below.size (.cells #[.pointer (some ⟨A12, 0, none⟩), .slice (some ⟨A13, 0, none⟩) g.blocks g.blocks, .slice (some ⟨A15, 0, none⟩) (g.inodes + 1) (g.inodes + 1), .slice none 0 0, .bool false] 69)
              have hz := L15.below.size
              have b1 := (L15.d _ rfl).1
              have b2 := (L15.c _ rfl).1
              have b3 := (L15.t _ rfl).1
              refine hK.out _ _ (keepG hBR) (fun hHeld => ?_)
              clear hK K
              refine tkA (i := 13) (oi := ⟨_, _, _, _, _, _⟩) ?_
              simp only [putA, List.set]
              refine wpAnyH_done (by kernel_rfl) ?_ _
              go_wp2_with fail
              go_meet
              exact ⟨_, _, _, _, rfl, hRS, by omega, by omega, by omega, by omega, hB01.trans (hBR.mono (by omega))⟩
        · go_simp
          refine (rinodes_c g hg _).mono ?_
          rintro e W16 ⟨rfl, hb⟩
          have L16 := L12.step hb
          clear hb
          refine hK.out _ _ (keepG L16.below) (fun hHeld => ?_)
          clear hK K
          refine tkA (i := 9) (oi := ⟨_, _, _, _, _, _⟩) ?_
          simp only [putA, List.set]
          clear L12
          refine wpAnyH_ready (rs := [6, 10]) (by kernel_rfl) (by simp) ?_
          refine AllReadyH.cons rfl (fun K hK => ?_) (AllReadyH.cons rfl (fun K hK => ?_) AllReadyH.nil)
          · go_simp
            have L17 := Laid.claim L16
            refine hK.out _ _ (keepG L17.below) (fun hHeld => ?_)
            clear hK K
            generalize W16.heap.size = A17 at L17 ⊢
            generalize World.alloc _ _ = W17 at L17 hHeld ⊢
            clear L16
            refine wpAnyH_ready (rs := [10]) (by kernel_rfl) (by simp) ?_
            refine AllReadyH.cons rfl (fun K hK => ?_) AllReadyH.nil
            · go_simp
              have L18 := Laid.takens L17
              refine hK.out _ _ (keepG L18.below) (fun hHeld => ?_)
              clear hK K
              generalize W17.heap.size = A18 at L18 ⊢
              generalize World.alloc _ _ = W18 at L18 hHeld ⊢
              clear L17
              refine tkA (i := 11) (oi := ⟨_, _, _, _, _, _⟩) ?_
              simp only [putA, List.set]
              refine wpAnyH_ready (rs := [12]) (by kernel_rfl) (by simp) ?_
              refine AllReadyH.cons rfl (fun K hK => ?_) AllReadyH.nil
              go_simp
              have hRS := L18.rs hI1
              have hBR := (L18.below).alloc L18.below.size (.cells #[.pointer (some ⟨A12, 0, none⟩), .slice (some ⟨A17, 0, none⟩) g.blocks g.blocks, .slice (some ⟨A18, 0, none⟩) (g.inodes + 1) (g.inodes + 1), .slice none 0 0, .bool false] 69)
              have hz := L18.below.size
              have b1 := (L18.d _ rfl).1
              have b2 := (L18.c _ rfl).1
              have b3 := (L18.t _ rfl).1
              refine hK.out _ _ (keepG hBR) (fun hHeld => ?_)
              clear hK K
              refine tkA (i := 13) (oi := ⟨_, _, _, _, _, _⟩) ?_
              simp only [putA, List.set]
              refine wpAnyH_done (by kernel_rfl) ?_ _
              go_wp2_with fail
              go_meet
              exact ⟨_, _, _, _, rfl, hRS, by omega, by omega, by omega, by omega, hB01.trans (hBR.mono (by omega))⟩
          · go_simp
            have L19 := Laid.takens L16
            refine hK.out _ _ (keepG L19.below) (fun hHeld => ?_)
            clear hK K
            generalize W16.heap.size = A19 at L19 ⊢
            generalize World.alloc _ _ = W19 at L19 hHeld ⊢
            clear L16
            refine wpAnyH_ready (rs := [6]) (by kernel_rfl) (by simp) ?_
            refine AllReadyH.cons rfl (fun K hK => ?_) AllReadyH.nil
            · go_simp
              have L20 := Laid.claim L19
              refine hK.out _ _ (keepG L20.below) (fun hHeld => ?_)
              clear hK K
              generalize W19.heap.size = A20 at L20 ⊢
              generalize World.alloc _ _ = W20 at L20 hHeld ⊢
              clear L19
              refine tkA (i := 11) (oi := ⟨_, _, _, _, _, _⟩) ?_
              simp only [putA, List.set]
              refine wpAnyH_ready (rs := [12]) (by kernel_rfl) (by simp) ?_
              refine AllReadyH.cons rfl (fun K hK => ?_) AllReadyH.nil
              go_simp
              have hRS := L20.rs hI1
              have hBR := (L20.below).alloc L20.below.size (.cells #[.pointer (some ⟨A12, 0, none⟩), .slice (some ⟨A20, 0, none⟩) g.blocks g.blocks, .slice (some ⟨A19, 0, none⟩) (g.inodes + 1) (g.inodes + 1), .slice none 0 0, .bool false] 69)
              have hz := L20.below.size
              have b1 := (L20.d _ rfl).1
              have b2 := (L20.c _ rfl).1
              have b3 := (L20.t _ rfl).1
              refine hK.out _ _ (keepG hBR) (fun hHeld => ?_)
              clear hK K
              refine tkA (i := 13) (oi := ⟨_, _, _, _, _, _⟩) ?_
              simp only [putA, List.set]
              refine wpAnyH_done (by kernel_rfl) ?_ _
              go_wp2_with fail
              go_meet
              exact ⟨_, _, _, _, rfl, hRS, by omega, by omega, by omega, by omega, hB01.trans (hBR.mono (by omega))⟩
      · go_simp
        have L21 := Laid.claim L11
        refine hK.out _ _ (keepG L21.below) (fun hHeld => ?_)
        clear hK K
        generalize W11.heap.size = A21 at L21 ⊢
        generalize World.alloc _ _ = W21 at L21 hHeld ⊢
        clear L11
        refine wpAnyH_ready (rs := [3, 8]) (by kernel_rfl) (by simp) ?_
        refine AllReadyH.cons rfl (fun K hK => ?_) (AllReadyH.cons rfl (fun K hK => ?_) AllReadyH.nil)
        · go_simp
          have L22 := Laid.disk L21
          refine hK.out _ _ (keepG L22.below) (fun hHeld => ?_)
          clear hK K
          generalize W21.heap.size = A22 at L22 ⊢
          generalize World.alloc _ _ = W22 at L22 hHeld ⊢
          clear L21
          refine wpAnyH_ready (rs := [8]) (by kernel_rfl) (by simp) ?_
          refine AllReadyH.cons rfl (fun K hK => ?_) AllReadyH.nil
          · go_simp
            refine (rinodes_c g hg _).mono ?_
            rintro e W23 ⟨rfl, hb⟩
            have L23 := L22.step hb
            clear hb
            refine hK.out _ _ (keepG L23.below) (fun hHeld => ?_)
            clear hK K
            refine tkA (i := 9) (oi := ⟨_, _, _, _, _, _⟩) ?_
            simp only [putA, List.set]
            clear L22
            refine wpAnyH_ready (rs := [10]) (by kernel_rfl) (by simp) ?_
            refine AllReadyH.cons rfl (fun K hK => ?_) AllReadyH.nil
            · go_simp
              have L24 := Laid.takens L23
              refine hK.out _ _ (keepG L24.below) (fun hHeld => ?_)
              clear hK K
              generalize W23.heap.size = A24 at L24 ⊢
              generalize World.alloc _ _ = W24 at L24 hHeld ⊢
              clear L23
              refine tkA (i := 11) (oi := ⟨_, _, _, _, _, _⟩) ?_
              simp only [putA, List.set]
              refine wpAnyH_ready (rs := [12]) (by kernel_rfl) (by simp) ?_
              refine AllReadyH.cons rfl (fun K hK => ?_) AllReadyH.nil
              go_simp
              have hRS := L24.rs hI1
              have hBR := (L24.below).alloc L24.below.size (.cells #[.pointer (some ⟨A22, 0, none⟩), .slice (some ⟨A21, 0, none⟩) g.blocks g.blocks, .slice (some ⟨A24, 0, none⟩) (g.inodes + 1) (g.inodes + 1), .slice none 0 0, .bool false] 69)
              have hz := L24.below.size
              have b1 := (L24.d _ rfl).1
              have b2 := (L24.c _ rfl).1
              have b3 := (L24.t _ rfl).1
              refine hK.out _ _ (keepG hBR) (fun hHeld => ?_)
              clear hK K
              refine tkA (i := 13) (oi := ⟨_, _, _, _, _, _⟩) ?_
              simp only [putA, List.set]
              refine wpAnyH_done (by kernel_rfl) ?_ _
              go_wp2_with fail
              go_meet
              exact ⟨_, _, _, _, rfl, hRS, by omega, by omega, by omega, by omega, hB01.trans (hBR.mono (by omega))⟩
        · go_simp
          refine (rinodes_c g hg _).mono ?_
          rintro e W25 ⟨rfl, hb⟩
          have L25 := L21.step hb
          clear hb
          refine hK.out _ _ (keepG L25.below) (fun hHeld => ?_)
          clear hK K
          refine tkA (i := 9) (oi := ⟨_, _, _, _, _, _⟩) ?_
          simp only [putA, List.set]
          clear L21
          refine wpAnyH_ready (rs := [3, 10]) (by kernel_rfl) (by simp) ?_
          refine AllReadyH.cons rfl (fun K hK => ?_) (AllReadyH.cons rfl (fun K hK => ?_) AllReadyH.nil)
          · go_simp
            have L26 := Laid.disk L25
            refine hK.out _ _ (keepG L26.below) (fun hHeld => ?_)
            clear hK K
            generalize W25.heap.size = A26 at L26 ⊢
            generalize World.alloc _ _ = W26 at L26 hHeld ⊢
            clear L25
            refine wpAnyH_ready (rs := [10]) (by kernel_rfl) (by simp) ?_
            refine AllReadyH.cons rfl (fun K hK => ?_) AllReadyH.nil
            · go_simp
              have L27 := Laid.takens L26
              refine hK.out _ _ (keepG L27.below) (fun hHeld => ?_)
              clear hK K
              generalize W26.heap.size = A27 at L27 ⊢
              generalize World.alloc _ _ = W27 at L27 hHeld ⊢
              clear L26
              refine tkA (i := 11) (oi := ⟨_, _, _, _, _, _⟩) ?_
              simp only [putA, List.set]
              refine wpAnyH_ready (rs := [12]) (by kernel_rfl) (by simp) ?_
              refine AllReadyH.cons rfl (fun K hK => ?_) AllReadyH.nil
              go_simp
              have hRS := L27.rs hI1
              have hBR := (L27.below).alloc L27.below.size (.cells #[.pointer (some ⟨A26, 0, none⟩), .slice (some ⟨A21, 0, none⟩) g.blocks g.blocks, .slice (some ⟨A27, 0, none⟩) (g.inodes + 1) (g.inodes + 1), .slice none 0 0, .bool false] 69)
              have hz := L27.below.size
              have b1 := (L27.d _ rfl).1
              have b2 := (L27.c _ rfl).1
              have b3 := (L27.t _ rfl).1
              refine hK.out _ _ (keepG hBR) (fun hHeld => ?_)
              clear hK K
              refine tkA (i := 13) (oi := ⟨_, _, _, _, _, _⟩) ?_
              simp only [putA, List.set]
              refine wpAnyH_done (by kernel_rfl) ?_ _
              go_wp2_with fail
              go_meet
              exact ⟨_, _, _, _, rfl, hRS, by omega, by omega, by omega, by omega, hB01.trans (hBR.mono (by omega))⟩
          · go_simp
            have L28 := Laid.takens L25
            refine hK.out _ _ (keepG L28.below) (fun hHeld => ?_)
            clear hK K
            generalize W25.heap.size = A28 at L28 ⊢
            generalize World.alloc _ _ = W28 at L28 hHeld ⊢
            clear L25
            refine wpAnyH_ready (rs := [3]) (by kernel_rfl) (by simp) ?_
            refine AllReadyH.cons rfl (fun K hK => ?_) AllReadyH.nil
            · go_simp
              have L29 := Laid.disk L28
              refine hK.out _ _ (keepG L29.below) (fun hHeld => ?_)
              clear hK K
              generalize W28.heap.size = A29 at L29 ⊢
              generalize World.alloc _ _ = W29 at L29 hHeld ⊢
              clear L28
              refine tkA (i := 11) (oi := ⟨_, _, _, _, _, _⟩) ?_
              simp only [putA, List.set]
              refine wpAnyH_ready (rs := [12]) (by kernel_rfl) (by simp) ?_
              refine AllReadyH.cons rfl (fun K hK => ?_) AllReadyH.nil
              go_simp
              have hRS := L29.rs hI1
              have hBR := (L29.below).alloc L29.below.size (.cells #[.pointer (some ⟨A29, 0, none⟩), .slice (some ⟨A21, 0, none⟩) g.blocks g.blocks, .slice (some ⟨A28, 0, none⟩) (g.inodes + 1) (g.inodes + 1), .slice none 0 0, .bool false] 69)
              have hz := L29.below.size
              have b1 := (L29.d _ rfl).1
              have b2 := (L29.c _ rfl).1
              have b3 := (L29.t _ rfl).1
              refine hK.out _ _ (keepG hBR) (fun hHeld => ?_)
              clear hK K
              refine tkA (i := 13) (oi := ⟨_, _, _, _, _, _⟩) ?_
              simp only [putA, List.set]
              refine wpAnyH_done (by kernel_rfl) ?_ _
              go_wp2_with fail
              go_meet
              exact ⟨_, _, _, _, rfl, hRS, by omega, by omega, by omega, by omega, hB01.trans (hBR.mono (by omega))⟩
      · go_simp
        refine (rinodes_c g hg _).mono ?_
        rintro e W30 ⟨rfl, hb⟩
        have L30 := L11.step hb
        clear hb
        refine hK.out _ _ (keepG L30.below) (fun hHeld => ?_)
        clear hK K
        refine tkA (i := 9) (oi := ⟨_, _, _, _, _, _⟩) ?_
        simp only [putA, List.set]
        clear L11
        refine wpAnyH_ready (rs := [3, 6, 10]) (by kernel_rfl) (by simp) ?_
        refine AllReadyH.cons rfl (fun K hK => ?_) (AllReadyH.cons rfl (fun K hK => ?_) (AllReadyH.cons rfl (fun K hK => ?_) AllReadyH.nil))
        · go_simp
          have L31 := Laid.disk L30
          refine hK.out _ _ (keepG L31.below) (fun hHeld => ?_)
          clear hK K
          generalize W30.heap.size = A31 at L31 ⊢
          generalize World.alloc _ _ = W31 at L31 hHeld ⊢
          clear L30
          refine wpAnyH_ready (rs := [6, 10]) (by kernel_rfl) (by simp) ?_
          refine AllReadyH.cons rfl (fun K hK => ?_) (AllReadyH.cons rfl (fun K hK => ?_) AllReadyH.nil)
          · go_simp
            have L32 := Laid.claim L31
            refine hK.out _ _ (keepG L32.below) (fun hHeld => ?_)
            clear hK K
            generalize W31.heap.size = A32 at L32 ⊢
            generalize World.alloc _ _ = W32 at L32 hHeld ⊢
            clear L31
            refine wpAnyH_ready (rs := [10]) (by kernel_rfl) (by simp) ?_
            refine AllReadyH.cons rfl (fun K hK => ?_) AllReadyH.nil
            · go_simp
              have L33 := Laid.takens L32
              refine hK.out _ _ (keepG L33.below) (fun hHeld => ?_)
              clear hK K
              generalize W32.heap.size = A33 at L33 ⊢
              generalize World.alloc _ _ = W33 at L33 hHeld ⊢
              clear L32
              refine tkA (i := 11) (oi := ⟨_, _, _, _, _, _⟩) ?_
              simp only [putA, List.set]
              refine wpAnyH_ready (rs := [12]) (by kernel_rfl) (by simp) ?_
              refine AllReadyH.cons rfl (fun K hK => ?_) AllReadyH.nil
              go_simp
              have hRS := L33.rs hI1
              have hBR := (L33.below).alloc L33.below.size (.cells #[.pointer (some ⟨A31, 0, none⟩), .slice (some ⟨A32, 0, none⟩) g.blocks g.blocks, .slice (some ⟨A33, 0, none⟩) (g.inodes + 1) (g.inodes + 1), .slice none 0 0, .bool false] 69)
              have hz := L33.below.size
              have b1 := (L33.d _ rfl).1
              have b2 := (L33.c _ rfl).1
              have b3 := (L33.t _ rfl).1
              refine hK.out _ _ (keepG hBR) (fun hHeld => ?_)
              clear hK K
              refine tkA (i := 13) (oi := ⟨_, _, _, _, _, _⟩) ?_
              simp only [putA, List.set]
              refine wpAnyH_done (by kernel_rfl) ?_ _
              go_wp2_with fail
              go_meet
              exact ⟨_, _, _, _, rfl, hRS, by omega, by omega, by omega, by omega, hB01.trans (hBR.mono (by omega))⟩
          · go_simp
            have L34 := Laid.takens L31
            refine hK.out _ _ (keepG L34.below) (fun hHeld => ?_)
            clear hK K
            generalize W31.heap.size = A34 at L34 ⊢
            generalize World.alloc _ _ = W34 at L34 hHeld ⊢
            clear L31
            refine wpAnyH_ready (rs := [6]) (by kernel_rfl) (by simp) ?_
            refine AllReadyH.cons rfl (fun K hK => ?_) AllReadyH.nil
            · go_simp
              have L35 := Laid.claim L34
              refine hK.out _ _ (keepG L35.below) (fun hHeld => ?_)
              clear hK K
              generalize W34.heap.size = A35 at L35 ⊢
              generalize World.alloc _ _ = W35 at L35 hHeld ⊢
              clear L34
              refine tkA (i := 11) (oi := ⟨_, _, _, _, _, _⟩) ?_
              simp only [putA, List.set]
              refine wpAnyH_ready (rs := [12]) (by kernel_rfl) (by simp) ?_
              refine AllReadyH.cons rfl (fun K hK => ?_) AllReadyH.nil
              go_simp
              have hRS := L35.rs hI1
              have hBR := (L35.below).alloc L35.below.size (.cells #[.pointer (some ⟨A31, 0, none⟩), .slice (some ⟨A35, 0, none⟩) g.blocks g.blocks, .slice (some ⟨A34, 0, none⟩) (g.inodes + 1) (g.inodes + 1), .slice none 0 0, .bool false] 69)
              have hz := L35.below.size
              have b1 := (L35.d _ rfl).1
              have b2 := (L35.c _ rfl).1
              have b3 := (L35.t _ rfl).1
              refine hK.out _ _ (keepG hBR) (fun hHeld => ?_)
              clear hK K
              refine tkA (i := 13) (oi := ⟨_, _, _, _, _, _⟩) ?_
              simp only [putA, List.set]
              refine wpAnyH_done (by kernel_rfl) ?_ _
              go_wp2_with fail
              go_meet
              exact ⟨_, _, _, _, rfl, hRS, by omega, by omega, by omega, by omega, hB01.trans (hBR.mono (by omega))⟩
        · go_simp
          have L36 := Laid.claim L30
          refine hK.out _ _ (keepG L36.below) (fun hHeld => ?_)
          clear hK K
          generalize W30.heap.size = A36 at L36 ⊢
          generalize World.alloc _ _ = W36 at L36 hHeld ⊢
          clear L30
          refine wpAnyH_ready (rs := [3, 10]) (by kernel_rfl) (by simp) ?_
          refine AllReadyH.cons rfl (fun K hK => ?_) (AllReadyH.cons rfl (fun K hK => ?_) AllReadyH.nil)
          · go_simp
            have L37 := Laid.disk L36
            refine hK.out _ _ (keepG L37.below) (fun hHeld => ?_)
            clear hK K
            generalize W36.heap.size = A37 at L37 ⊢
            generalize World.alloc _ _ = W37 at L37 hHeld ⊢
            clear L36
            refine wpAnyH_ready (rs := [10]) (by kernel_rfl) (by simp) ?_
            refine AllReadyH.cons rfl (fun K hK => ?_) AllReadyH.nil
            · go_simp
              have L38 := Laid.takens L37
              refine hK.out _ _ (keepG L38.below) (fun hHeld => ?_)
              clear hK K
              generalize W37.heap.size = A38 at L38 ⊢
              generalize World.alloc _ _ = W38 at L38 hHeld ⊢
              clear L37
              refine tkA (i := 11) (oi := ⟨_, _, _, _, _, _⟩) ?_
              simp only [putA, List.set]
              refine wpAnyH_ready (rs := [12]) (by kernel_rfl) (by simp) ?_
              refine AllReadyH.cons rfl (fun K hK => ?_) AllReadyH.nil
              go_simp
              have hRS := L38.rs hI1
              have hBR := (L38.below).alloc L38.below.size (.cells #[.pointer (some ⟨A37, 0, none⟩), .slice (some ⟨A36, 0, none⟩) g.blocks g.blocks, .slice (some ⟨A38, 0, none⟩) (g.inodes + 1) (g.inodes + 1), .slice none 0 0, .bool false] 69)
              have hz := L38.below.size
              have b1 := (L38.d _ rfl).1
              have b2 := (L38.c _ rfl).1
              have b3 := (L38.t _ rfl).1
              refine hK.out _ _ (keepG hBR) (fun hHeld => ?_)
              clear hK K
              refine tkA (i := 13) (oi := ⟨_, _, _, _, _, _⟩) ?_
              simp only [putA, List.set]
              refine wpAnyH_done (by kernel_rfl) ?_ _
              go_wp2_with fail
              go_meet
              exact ⟨_, _, _, _, rfl, hRS, by omega, by omega, by omega, by omega, hB01.trans (hBR.mono (by omega))⟩
          · go_simp
            have L39 := Laid.takens L36
            refine hK.out _ _ (keepG L39.below) (fun hHeld => ?_)
            clear hK K
            generalize W36.heap.size = A39 at L39 ⊢
            generalize World.alloc _ _ = W39 at L39 hHeld ⊢
            clear L36
            refine wpAnyH_ready (rs := [3]) (by kernel_rfl) (by simp) ?_
            refine AllReadyH.cons rfl (fun K hK => ?_) AllReadyH.nil
            · go_simp
              have L40 := Laid.disk L39
              refine hK.out _ _ (keepG L40.below) (fun hHeld => ?_)
              clear hK K
              generalize W39.heap.size = A40 at L40 ⊢
              generalize World.alloc _ _ = W40 at L40 hHeld ⊢
              clear L39
              refine tkA (i := 11) (oi := ⟨_, _, _, _, _, _⟩) ?_
              simp only [putA, List.set]
              refine wpAnyH_ready (rs := [12]) (by kernel_rfl) (by simp) ?_
              refine AllReadyH.cons rfl (fun K hK => ?_) AllReadyH.nil
              go_simp
              have hRS := L40.rs hI1
              have hBR := (L40.below).alloc L40.below.size (.cells #[.pointer (some ⟨A40, 0, none⟩), .slice (some ⟨A36, 0, none⟩) g.blocks g.blocks, .slice (some ⟨A39, 0, none⟩) (g.inodes + 1) (g.inodes + 1), .slice none 0 0, .bool false] 69)
              have hz := L40.below.size
              have b1 := (L40.d _ rfl).1
              have b2 := (L40.c _ rfl).1
              have b3 := (L40.t _ rfl).1
              refine hK.out _ _ (keepG hBR) (fun hHeld => ?_)
              clear hK K
              refine tkA (i := 13) (oi := ⟨_, _, _, _, _, _⟩) ?_
              simp only [putA, List.set]
              refine wpAnyH_done (by kernel_rfl) ?_ _
              go_wp2_with fail
              go_meet
              exact ⟨_, _, _, _, rfl, hRS, by omega, by omega, by omega, by omega, hB01.trans (hBR.mono (by omega))⟩
        · go_simp
          have L41 := Laid.takens L30
          refine hK.out _ _ (keepG L41.below) (fun hHeld => ?_)
          clear hK K
          generalize W30.heap.size = A41 at L41 ⊢
          generalize World.alloc _ _ = W41 at L41 hHeld ⊢
          clear L30
          refine wpAnyH_ready (rs := [3, 6]) (by kernel_rfl) (by simp) ?_
          refine AllReadyH.cons rfl (fun K hK => ?_) (AllReadyH.cons rfl (fun K hK => ?_) AllReadyH.nil)
          · go_simp
            have L42 := Laid.disk L41
            refine hK.out _ _ (keepG L42.below) (fun hHeld => ?_)
            clear hK K
            generalize W41.heap.size = A42 at L42 ⊢
            generalize World.alloc _ _ = W42 at L42 hHeld ⊢
            clear L41
            refine wpAnyH_ready (rs := [6]) (by kernel_rfl) (by simp) ?_
            refine AllReadyH.cons rfl (fun K hK => ?_) AllReadyH.nil
            · go_simp
              have L43 := Laid.claim L42
              refine hK.out _ _ (keepG L43.below) (fun hHeld => ?_)
              clear hK K
              generalize W42.heap.size = A43 at L43 ⊢
              generalize World.alloc _ _ = W43 at L43 hHeld ⊢
              clear L42
              refine tkA (i := 11) (oi := ⟨_, _, _, _, _, _⟩) ?_
              simp only [putA, List.set]
              refine wpAnyH_ready (rs := [12]) (by kernel_rfl) (by simp) ?_
              refine AllReadyH.cons rfl (fun K hK => ?_) AllReadyH.nil
              go_simp
              have hRS := L43.rs hI1
              have hBR := (L43.below).alloc L43.below.size (.cells #[.pointer (some ⟨A42, 0, none⟩), .slice (some ⟨A43, 0, none⟩) g.blocks g.blocks, .slice (some ⟨A41, 0, none⟩) (g.inodes + 1) (g.inodes + 1), .slice none 0 0, .bool false] 69)
              have hz := L43.below.size
              have b1 := (L43.d _ rfl).1
              have b2 := (L43.c _ rfl).1
              have b3 := (L43.t _ rfl).1
              refine hK.out _ _ (keepG hBR) (fun hHeld => ?_)
              clear hK K
              refine tkA (i := 13) (oi := ⟨_, _, _, _, _, _⟩) ?_
              simp only [putA, List.set]
              refine wpAnyH_done (by kernel_rfl) ?_ _
              go_wp2_with fail
              go_meet
              exact ⟨_, _, _, _, rfl, hRS, by omega, by omega, by omega, by omega, hB01.trans (hBR.mono (by omega))⟩
          · go_simp
            have L44 := Laid.claim L41
            refine hK.out _ _ (keepG L44.below) (fun hHeld => ?_)
            clear hK K
            generalize W41.heap.size = A44 at L44 ⊢
            generalize World.alloc _ _ = W44 at L44 hHeld ⊢
            clear L41
            refine wpAnyH_ready (rs := [3]) (by kernel_rfl) (by simp) ?_
            refine AllReadyH.cons rfl (fun K hK => ?_) AllReadyH.nil
            · go_simp
              have L45 := Laid.disk L44
              refine hK.out _ _ (keepG L45.below) (fun hHeld => ?_)
              clear hK K
              generalize W44.heap.size = A45 at L45 ⊢
              generalize World.alloc _ _ = W45 at L45 hHeld ⊢
              clear L44
              refine tkA (i := 11) (oi := ⟨_, _, _, _, _, _⟩) ?_
              simp only [putA, List.set]
              refine wpAnyH_ready (rs := [12]) (by kernel_rfl) (by simp) ?_
              refine AllReadyH.cons rfl (fun K hK => ?_) AllReadyH.nil
              go_simp
              have hRS := L45.rs hI1
              have hBR := (L45.below).alloc L45.below.size (.cells #[.pointer (some ⟨A45, 0, none⟩), .slice (some ⟨A44, 0, none⟩) g.blocks g.blocks, .slice (some ⟨A41, 0, none⟩) (g.inodes + 1) (g.inodes + 1), .slice none 0 0, .bool false] 69)
              have hz := L45.below.size
              have b1 := (L45.d _ rfl).1
              have b2 := (L45.c _ rfl).1
              have b3 := (L45.t _ rfl).1
              refine hK.out _ _ (keepG hBR) (fun hHeld => ?_)
              clear hK K
              refine tkA (i := 13) (oi := ⟨_, _, _, _, _, _⟩) ?_
              simp only [putA, List.set]
              refine wpAnyH_done (by kernel_rfl) ?_ _
              go_wp2_with fail
              go_meet
              exact ⟨_, _, _, _, rfl, hRS, by omega, by omega, by omega, by omega, hB01.trans (hBR.mono (by omega))⟩
  case rest =>
    clear keepG hmC hmT hwr L0 gG k0 k1 k2 kG hI1
    obtain ⟨R, D, C, T, rfl, hS, bR, bD, bC, bT, hB⟩ := hcut
    obtain ⟨L, hL⟩ : ∃ L : RLoc, L = ⟨R, D, C, g.blocks, T, g.inodes + 1, b, o, N, cap⟩ := ⟨_, rfl⟩
    have rR : R = L.R := by rw [hL]
    have hours : ∀ k, Ours (lab0 R D C T) k → w.heap.size ≤ k := fun k hk => by
      by_cases h : w.heap.size ≤ k
      · exact h
      · exfalso; apply hk; unfold lab0; rw [if_neg (by omega), if_neg (by omega), if_neg (by omega), if_neg (by omega)]
    rw [← hL] at hS
    have RT := rroot_a g f L _ _ _ _ hS rfl hF.k hF.s hF.d3 hF.s1 hF.s2 hF.m (by show (0 : Nat) ≤ 100000; omega)
    have hpost : ∀ W, RPost g f L _ (lab0 R D C T) (fun _ => none) W (fixR g f) → ∃ lb adr, RS g f L W lb adr (fixR g f) ∧ Below w.heap.size w W := fun W hp => by
      obtain ⟨lb, adr, h1, _, _, h4⟩ := hp
      exact ⟨lb, adr, h1, hB.trans (h4.below hours hB.size)⟩
    have HRT := Lib.hid RT; have HF := Lib.hid hF; have HPO := Lib.hid hpost; have HL := Lib.hid hL; have HS := Lib.hid hS
    clear RT hF hpost hB hS bR bD bC bT hours
    rw [rR]
    clear rR hL
    go_wp2_with (go_at_call 58; refine HRT.out.mono ?_; rintro e w2 ⟨rfl, hp2⟩; have HP2 := Lib.hid hp2; clear hp2)
    go_loopw [6] (fun k' wr => ∃ k : Nat, k ≤ 1 ∧ k' = .int .i64 k ∧ ∃ wq, wq = wr ∧ RPost g f L _ (lab0 R D C T) (fun _ => none) wq (if k = 0 then rootR g f else fixR g f)) (fun k' _ => 1 - (intOf k').toNat)
    case atStart => exact ⟨0, by omega, rfl, _, rfl, HP2.out⟩
    case round =>
      obtain ⟨k, hk, rfl, wq, rfl, lb5, adr5, hS5, hx5, ha5, hm5⟩ := hrel
      obtain ⟨ov, hRp, hov⟩ := hS5.rp
      by_cases hk0 : k = 0
      · subst hk0
        simp only [if_true] at hS5 hov hRp
        rw [show (rootR g f).ord.length = 1 from rfl] at hov
        obtain ⟨A, cp, rfl⟩ := own_form hov.1
        obtain ⟨G, cp2, hA, _⟩ := own_some hov.1 (show 0 < 1 by decide)
        cases hA
        have cr := hRp.cell 3
        have co := own_at hov.1 (k := 0) (u := .int .i64 1) rfl
        simp only [List.getElem?_cons_zero, List.getElem?_cons_succ] at cr
        have lR := hRp.lt; have lG := lt_of_cell co
        obtain ⟨B, hB1⟩ : ∃ B, adr5 1 = some B := by
          cases hq : adr5 1 with
          | none => have := (hS5.nn 1).1 hq; cases this
          | some B => exact ⟨B, rfl⟩
        have EN := rentries_c g f L _ lb5 adr5 (rootR g f) hS5 1 B hB1 1 (leadOf (rootC g f).1 (mUp (rootC g f).1 8)) ⟨_, rootR_1 g f, rfl, rfl, rfl⟩ rfl (by simp [leadOf]; have := mUp_le (rootC g f).1 8; omega) HF.out.lead HF.out.ent
        rw [show (leadOf (rootC g f).1 (mUp (rootC g f).1 8)).length = mUp (rootC g f).1 8 by simp [leadOf]] at EN
        have EN2 : Calls Tryz.prog 59 #[.pointer (some ⟨L.R, 0, none⟩), .int .i64 1] _ _ := EN
        have HEN := Lib.hid EN2; have HS5 := Lib.hid hS5; have HX5 := Lib.hid hx5; have HA5 := Lib.hid ha5; have HM5 := Lib.hid hm5
        clear EN EN2 hS5 hx5 ha5 hm5 hRp hov hB1
        go_wp2_with (go_at_call 59; refine HEN.out.mono ?_; rintro e w5 ⟨rfl, hp5⟩; have HP5 := Lib.hid hp5; clear hp5)
        go_roundw
        case rel => exact ⟨1, by omega, by go_num, _, rfl, RPost.trans HX5.out HA5.out HM5.out HP5.out⟩
        case measure => simp [intOf]
      · obtain rfl : k = 1 := by omega
        simp only [if_neg hk0] at hS5 hov hRp
        have hol : (fixR g f).ord = [1] := entAll_ord g f 1 (rootR g f) _
        rw [hol] at hov
        obtain ⟨A, cp, rfl⟩ := own_form hov.1
        have cr := hRp.cell 3
        simp only [List.getElem?_cons_zero, List.getElem?_cons_succ] at cr
        have lR := hRp.lt
        have hfin := HPO.out _ ⟨lb5, adr5, hS5, hx5, ha5, hm5⟩
        have HFI := Lib.hid hfin
        clear hfin hS5 hx5 ha5 hm5 hRp hov hol
        go_wp2_with fail
        go_ret
        obtain ⟨lb, adr, h1, h2⟩ := HFI.out
        have h3 := HL.out
        subst h3
        exact ⟨R, D, C, T, lb, adr, rfl, h1, h2⟩
end Go.Proofs.YtbbgahffcjbloaaGreat
end

section
/- The reference's tree of an image: a file's blocks. -/
namespace Go.Proofs.YtbbgahffcjbloaaGreat
open Go.RowKit

/-- a file's blocks: at, bytes -/
abbrev PartT := Nat × (Nat → Nat)
theorem infoPart : (Tryz.prog.info? 90).map (fun i => (i.zero, i.size, i.bytes)) = some (some (.agg #[.int .i64 0, .slice none 0 0]), 2, 32) := by kernel_rfl
structure PartsAt (w : World) (base : Nat) (v : Value) (l : List PartT) : Prop where
  ex : ∃ xs, w.ownsRow base 90 2 v l.length xs ∧ ∀ i p, l[i]? = some p → ∃ b c, xs[i * 2]? = some (.int .i64 (p.1 : Nat)) ∧ xs[i * 2 + 1]? = some (.slice (some ⟨b, 0, none⟩) 1024 c) ∧ 1024 ≤ c ∧ RdB w b 0 1024 p.2 ∧ (∃ ys fr, w.heap[b]? = some (.cells ys 5 fr) ∧ base ≤ b)
theorem PartsAt.nil (w : World) (base : Nat) : PartsAt w base (.slice none 0 0) [] := ⟨[], World.ownsRow_nil _ _ _ _, fun i p h => by cases h⟩
/-- neither the row nor bytes have changed -/
theorem PartsAt.mods {s : Nat → Prop} {w w' : World} {base : Nat} {v : Value} {l : List PartT} (h : PartsAt w base v l) (hm : Mods s w w') (h1 : ∀ k, v.ownBlock = some k → ¬ s k) (h2 : ∀ k ys fr, w.heap[k]? = some (.cells ys 5 fr) → ¬ s k) : PartsAt w' base v l := by
  obtain ⟨xs, ho, hp⟩ := h
  refine ⟨xs, own_mods ho hm h1, fun i p hi => ?_⟩
  obtain ⟨b, c, q1, q2, q3, q4, ys, fr, q5, q6⟩ := hp i p hi
  have hb := lt_of_cell (q4 0 (by decide))
  exact ⟨b, c, q1, q2, q3, fun k hk => (hm.cell hb (h2 b ys fr q5)).trans (q4 k hk), ys, fr, (hm.block b hb (h2 b ys fr q5)).trans q5, q6⟩
theorem PartsAt.lower {w : World} {base base' : Nat} {v : Value} {l : List PartT} (h : PartsAt w base v l) (hb : base' ≤ base) : PartsAt w base' v l := by
  obtain ⟨xs, ho, hp⟩ := h
  refine ⟨xs, own_mono ho hb, fun i p hi => ?_⟩
  obtain ⟨b, c, q1, q2, q3, q4, ys, fr, q5, q6⟩ := hp i p hi
  exact ⟨b, c, q1, q2, q3, q4, ys, fr, q5, Nat.le_trans hb q6⟩
theorem PartsAt.form {w : World} {base : Nat} {v : Value} {l : List PartT} (h : PartsAt w base v l) : ∃ A c, v = .slice A l.length c := by
  obtain ⟨xs, ho, _⟩ := h
  exact own_form ho
theorem own_block_tag {w : World} {base e size n k : Nat} {v : Value} {xs : List Value} (h : w.ownsRow base e size v n xs) (hk : v.ownBlock = some k) : ∃ ys fr, w.heap[k]? = some (.cells ys e fr) := by
  rcases h.2 with ⟨h1, _⟩ | ⟨g', cap', cur, hv, _, hg, _⟩
  · rw [h1] at hk; cases hk
  · rw [hv] at hk
    cases hk
    exact ⟨cur, _, hg⟩
set_option maxRecDepth 100000 in
set_option maxHeartbeats 4000000 in
theorem rpart_c (g : Geo) (f : Nat → Nat) (R D C n cc : Nat) (tv ov : Value) (z : Bool) (b o N cap base : Nat) (w : World) (hR : Rp R D C n cc tv ov z w) (hD : Dk g D b o N cap w) (hI : ImgOk g b o N cap f w) (lv : Value) (l : List PartT) (hl : PartsAt w base lv l) (hll : l.length ≤ 100000) (hbase : base ≤ w.heap.size) (at_ p : Nat) (hp : p < g.total) :
    Calls Tryz.prog 62 #[.pointer (some ⟨R, 0, none⟩), lv, .int .i64 at_, .int .i64 p] w fun e w' => ∃ v', e = .returned v' ∧ PartsAt w' base v' (if p = 0 then l else l ++ [(at_, fun k => f (p * 1024 + k))]) ∧ Mods (fun k => lv.ownBlock = some k) w w' ∧ (∀ k, v'.ownBlock = some k → lv.ownBlock = some k ∨ w.heap.size ≤ k) := by
  obtain ⟨A, cp, rfl⟩ := hl.form
  obtain ⟨j0, hj0, hy0, hy1, hy2⟩ := info_parts infoPart
  obtain ⟨i0, hi0, iz0, iz1, iz2⟩ := info_parts info8
  have c0 := hR.cell 0
  simp only [List.getElem?_cons_zero] at c0
  have lR := hR.lt
  by_cases hp0 : p = 0
  · have t0 : (((p : Nat) : Int) == 0) = true := by simp [hp0]
    rw [if_pos hp0]
    have HL := Lib.hid hl
    clear hR hD hI hl hp0
    go_enter Tryz.func62, Tryz.ntmps62
    go_wp2
    go_ret
    exact ⟨_, rfl, HL.out, Mods.refl _ _, fun k e => .inl e⟩
  · have t0 : (((p : Nat) : Int) == 0) = false := by simp; omega
    rw [if_neg hp0]
    have BC := rblock_c g hI.ok D b o N cap p hI.n hI.nc hI.capb hp w hD
    have rb := hI.blk hp
    obtain ⟨xs, ho, hps⟩ := hl.ex
    have HBC := Lib.hid BC; have HRB := Lib.hid rb; have HL := Lib.hid hl; have HO := Lib.hid ho; have HPS := Lib.hid hps
    clear hR hD hI hl hp0 BC rb ho hps
    go_enter Tryz.func62, Tryz.ntmps62
    go_wp2_with (first
      | (go_at_call 72; refine HBC.out.mono ?_; rintro e w2 ⟨⟨cq, hcq, rfl⟩, rfl⟩)
      | (at_builtin; refine app_bytes rfl _ _ 25 rfl w.heap.size 5 i0 Tryz.underlying25 hi0 iz0 iz1 iz2 _ 0 (fun _ => 0) rfl (by exact .inl (World.ownsRow_nil _ _ _ _)) b (o + p * 1024) 1024 cq _ rfl HRB.out (by omega) (by omega) (by omega) ?_
         intro G1 cap1 w3 ho3 hg3 ha3
         have hz3 := hg3.size
         have hO3 := own_mods HO.out ((Mods.refl (fun _ => False) w).grown hg3 (fun _ e _ => by cases e)) (fun _ _ e => e)
         have HO3 := Lib.hid ho3; have HG3 := Lib.hid hg3; have HOO := Lib.hid hO3
         clear ho3 hg3 ha3 hO3)
      | (at_builtin; refine app_own2 [_, _] rfl _ _ 36 rfl base 90 j0 (.agg #[.int .i64 0, .slice none 0 0]) 2 32 Tryz.underlying36 hj0 hy0 hy1 hy2 rfl (by decide) _ l.length _ rfl (by exact .inl HOO.out) _ rfl (by simp) rfl (by simp [Value.oneCell']) (by unfold maxLen; omega) (by omega) (by omega) ?_
         intro G2 cap2 w4 ho4 hg4 ha4 hl4
         have HO4 := Lib.hid ho4; have HG4 := Lib.hid hg4; have HA4 := Lib.hid ha4
         clear ho4 hg4 ha4))
    go_ret
    have hg3 : w.grownBy w3 none := HG3.out
    have hm3 : Mods (fun k => (Value.slice A l.length cp).ownBlock = some k) w w3 := (Mods.refl _ w).grown hg3 (fun _ e _ => by cases e)
    have hm4 : Mods (fun k => (Value.slice A l.length cp).ownBlock = some k) w3 w4 := (Mods.refl _ w3).grown HG4.out (fun _ e _ => e)
    have hz3' := hg3.size
    have ha4 := HA4.out
    refine ⟨_, rfl, ⟨_, by rw [List.length_append]; exact HO4.out, fun i q hi => ?_⟩, hm3.trans hm4 (fun _ _ e => e), fun k hk => by
      have e0 : G2 = k := Option.some.inj hk
      rw [← e0]
      rcases ha4 with h1 | h1
      · exact .inl h1
      · exact .inr (Nat.le_trans hz3' h1)⟩
    have ho3 := HO3.out
    rw [Nat.zero_add] at ho3
    have hbt : ∀ k ys fr, w3.heap[k]? = some (.cells ys 5 fr) → ¬ (Value.slice A l.length cp).ownBlock = some k := fun k ys fr h1 h2 => by
      obtain ⟨ys2, fr2, h3⟩ := own_block_tag HOO.out h2
      rw [h1] at h3
      exact absurd (tag_inj h3) (by decide)
    have hxl : xs.length = l.length * 2 := HO.out.1
    by_cases hil : i < l.length
    · rw [List.getElem?_append_left hil] at hi
      obtain ⟨b2, c2, q1, q2, q3, q4, ys, fr, q5, q6⟩ := HPS.out i q hi
      have hb2 := lt_of_cell (q4 0 (by decide))
      have hw3 : w3.heap[b2]? = w.heap[b2]? := hg3.block b2 hb2 (fun e => by cases e)
      have hb3 : w3.heap[b2]? = some (.cells ys 5 fr) := hw3.trans q5
      have l3 : b2 < w3.heap.size := (Array.getElem?_eq_some_iff.1 hb3).1
      refine ⟨b2, c2, by rw [List.getElem?_append_left (by omega)]; exact q1, by rw [List.getElem?_append_left (by omega)]; exact q2, q3, fun k hk => ?_, ys, fr, (hm4.block b2 l3 (hbt b2 ys fr hb3)).trans hb3, q6⟩
      rw [hm4.cell l3 (hbt b2 ys fr hb3), World.cell?_of_block (w := w) hw3]
      exact q4 k hk
    · have e1 : i = l.length := by
        have := (List.getElem?_eq_some_iff.1 hi).1
        simp at this; omega
      subst e1
      rw [List.getElem?_append_right (Nat.le_refl _), Nat.sub_self] at hi
      have e2 : q = (at_, fun k => f (p * 1024 + k)) := by simpa using hi.symm
      subst e2
      obtain ⟨l1, l2, l3, l4⟩ := own_len ho3
      obtain ⟨ys, fr, h3⟩ := own_block_tag ho3 rfl
      refine ⟨G1, cap1, by rw [← hxl, List.getElem?_append_right (Nat.le_refl _), Nat.sub_self]; rfl, by rw [← hxl, List.getElem?_append_right (by omega), Nat.add_sub_cancel_left]; rfl, l3, fun k hk => ?_, ys, fr, (hm4.block G1 l2 (hbt G1 ys fr h3)).trans h3, Nat.le_trans hbase l1⟩
      rw [hm4.cell l2 (hbt G1 ys fr h3), Nat.zero_add, (own_get ho3 hk).1]
      simp [catF]
end Go.Proofs.YtbbgahffcjbloaaGreat
end

section
/- The reference's tree of an image: all of a file's blocks (no indirect ones). -/
namespace Go.Proofs.YtbbgahffcjbloaaGreat
open Go.RowKit

def partsK (f : Nat → Nat) (i : InoN) : Nat → List PartT
  | 0 => []
  | k + 1 => if i (3 + k) = 0 then partsK f i k else partsK f i k ++ [(k, fun j => f (i (3 + k) * 1024 + j))]
theorem partsK_length (f : Nat → Nat) (i : InoN) : ∀ k, (partsK f i k).length ≤ k
  | 0 => Nat.le_refl _
  | k + 1 => by
    have := partsK_length f i k
    unfold partsK
    split
    · omega
    · rw [List.length_append]; show _ + 1 ≤ _; omega
theorem PartsAt.base_le {w : World} {base : Nat} {v : Value} {l : List PartT} (h : PartsAt w base v l) : ∀ k, v.ownBlock = some k → base ≤ k := by
  obtain ⟨xs, ho, _⟩ := h
  exact own_base ho
set_option maxRecDepth 100000 in
set_option maxHeartbeats 4000000 in
theorem rparts_c (g : Geo) (f : Nat → Nat) (L : RLoc) (w : World) (lb : Lab) (adr : Nat → Option Nat) (S : RSt) (h : RS g f L w lb adr S) (x B : Nat) (t : RT) (hB : adr x = some B) (ht : S.T x = some t) (h11 : t.i 11 = 0) (h12 : t.i 12 = 0) (hd : ∀ k, k < 8 → t.i (3 + k) < g.total) :
    Calls Tryz.prog 28 #[.pointer (some ⟨L.R, 0, none⟩), .pointer (some ⟨B, 0, none⟩)] w fun e w' => ∃ v', e = .returned v' ∧ PartsAt w' w.heap.size v' (partsK f t.i 8) ∧ Below w.heap.size w w' := by
  obtain ⟨ov, hRp, hov⟩ := h.rp
  obtain ⟨dv, lv, dvs, hO⟩ := h.obj x B t hB ht
  have lB := hO.blk.lt; have lR := hRp.lt; have lD := h.dk.lt; have lI := h.img.lt
  have HB := Lib.hid hO.blk
  have PC := fun W (hb : Below w.heap.size w W) => rpart_c g f L.R L.D L.C g.blocks L.cc (.slice (some ⟨L.TB, 0, none⟩) (g.inodes + 1) L.tc) ov S.z L.b L.o L.N L.cap w.heap.size W (hRp.below hb lR) (h.dk.below hb lD) (h.img.below hb lI)
  have HPC := Lib.hid PC; have HD := Lib.hid hd; have H11 := Lib.hid h11; have H12 := Lib.hid h12
  clear PC hd h11 h12 hO hRp hov h ht hB
  go_enter Tryz.func28, Tryz.ntmps28
  go_wp2
  go_loopw [5, 6] (fun l' k' wr => ∃ k : Nat, k ≤ 8 ∧ k' = .int .i64 k ∧ ∃ wq, wq = wr ∧ PartsAt wq w.heap.size l' (partsK f t.i k) ∧ Below w.heap.size w wq) (fun _ k' _ => 8 - (intOf k').toNat)
  case atStart => exact ⟨0, by omega, rfl, _, rfl, PartsAt.nil _ _, Below.refl _ _⟩
  case round =>
    obtain ⟨k, hk, rfl, wq, rfl, hP, hb⟩ := hrel
    have hkb := HB.out.below hb lB
    have lq := hkb.lt
    by_cases hlt : k < 8
    · have ck := hkb.cell (3 + k)
      rw [inoL_more (by omega)] at ck
      have pc := HPC.out wq hb _ _ hP (by have := partsK_length f t.i k; omega) hb.size k (t.i (3 + k)) (HD.out k hlt)
      have hst : partsK f t.i (k + 1) = if t.i (3 + k) = 0 then partsK f t.i k else partsK f t.i k ++ [(k, fun j => f (t.i (3 + k) * 1024 + j))] := rfl
      rw [← hst] at pc
      have HPCk := Lib.hid pc; have HP := Lib.hid hP; have HBB := Lib.hid hb
      clear pc hst hP hb hkb
      go_wp2_with (go_at_call 62; refine HPCk.out.mono ?_; rintro e w2 ⟨v2, rfl, hP2, hm2, -⟩; have HP2 := Lib.hid hP2; have HM2 := Lib.hid hm2; clear hP2 hm2)
      go_roundw
      case rel => exact ⟨k + 1, by omega, by go_num, _, rfl, HP2.out, Below.mods HBB.out HM2.out (fun i hi e => by have := HP.out.base_le i e; omega) HBB.out.size⟩
      case measure => simp [intOf]; omega
    · obtain rfl : k = 8 := by omega
      have c11 := hkb.cell 11; have c12 := hkb.cell 12
      rw [inoL_more (by omega)] at c11 c12
      rw [H11.out] at c11
      rw [H12.out] at c12
      have HP := Lib.hid hP; have HBB := Lib.hid hb
      clear hP hb hkb hlt hk
      go_wp2
      go_ret
      exact ⟨_, rfl, HP.out, HBB.out⟩
end Go.Proofs.YtbbgahffcjbloaaGreat
end

section
/- The reference's blocks of entries, packed, free ones among them. -/
namespace Go.Proofs.YtbbgahffcjbloaaGreat
open Go.RowKit

set_option maxRecDepth 100000 in
set_option maxHeartbeats 2000000 in
theorem rpents_a (lb n cap : Nat) (E : Nat → Nat × ByteArray) (w : World) (hn : n ≤ 32) (hn0 : 0 < n) (hE : ∀ k, k < n → (E k).1 < 4294967296 ∧ (E k).2.size ≤ 1000000 ∧ entOk (E k).1 (E k).2 = true) (h : RdE w lb n E) :
    Calls Tryz.prog 39 #[.slice (some ⟨lb, 0, none⟩) n cap] w fun e w' => ∃ G cap, e = .returned (.tuple #[.slice (some ⟨G, 0, none⟩) 1024 cap, .bool true]) ∧ w'.ownsRow w.heap.size 5 1 (.slice (some ⟨G, 0, none⟩) 1024 cap) 1024 (bytesL (pbF E n) 1024) ∧ Below w.heap.size w w' := by
  obtain ⟨i0, hi0, hz0, hz1, hz2⟩ := info_parts info8
  have hlb := h.lt hn0
  have hd : decide (32 < n) = false := by simp; omega
  have HR := Lib.hid h
  have HE := Lib.hid hE
  clear h hE
  go_enter Tryz.func39, Tryz.ntmps39
  go_wp2
  go_loopw [4, 5] (fun v i wr => ∃ k : Nat, k ≤ n ∧ i = .int .i64 k ∧ wr.ownsRow w.heap.size 5 1 v (32 * k) (bytesL (pbF E k) (32 * k)) ∧ Below w.heap.size w wr) (fun _ i _ => n - (intOf i).toNat)
  case atStart => exact ⟨0, by omega, rfl, World.ownsRow_nil _ _ _ _, Below.refl _ _⟩
  case round =>
    obtain ⟨k, hk, rfl, hown, hB⟩ := hrel
    have hsz := hB.size
    by_cases hlt : k < n
    · obtain ⟨c0, c1⟩ := (HR.out.below hB hlb) k hlt
      obtain ⟨x1, x2, x3⟩ := HE.out k hlt
      have PE := fun W => (rpent_a (E k).1 (E k).2 x1 x2 W).mono fun e w' h => And.intro h.1 (h.2.1 x3)
      have HPE := Lib.hid PE; have HO := Lib.hid hown; have HB := Lib.hid hB
      have hlw : lb < wr.heap.size := by omega
      have hk32 : 32 * k + 32 ≤ 1024 := by omega
      clear x1 x2 x3 PE hown hB
      go_wp2_with (first
        | (go_at_call 23; refine (HPE.out _).mono ?_; rintro e w2 ⟨hb2, g2, cap2, rfl, ho2⟩; have hr2 := own_rdB ho2; have hO2 := own_below HO.out hb2; have hz2' := hb2.size)
        | (at_builtin; refine app_bytes rfl _ _ 25 rfl w.heap.size 5 i0 Tryz.underlying25 hi0 hz0 hz1 hz2 _ (32 * k) (pbF E k) rfl (by exact .inl hO2) g2 0 32 cap2 _ rfl hr2 (by omega) (by omega) (by omega) ?_; intro g5 cap5 w3 ho5 hgr5 hat5))
      go_roundw
      case rel =>
        have hm3 : Mods (fun q => w.heap.size ≤ q) w2 w3 := (Mods.refl _ w2).grown hgr5 fun q e _ => own_base hO2 q e
        refine ⟨k + 1, by omega, by go_num, ?_, Below.mods (HB.out.trans (hb2.mono hsz)) hm3 (fun i hi e => by omega) (by omega)⟩
        rw [pbF_succ] at ho5
        exact ho5
      case measure => simp [intOf]; omega
    · obtain rfl : k = n := by omega
      have HO := Lib.hid hown; have HB := Lib.hid hB
      clear hown hB hlt
      obtain ⟨g9, cap9, hv⟩ := own_has HO.out (by omega)
      subst hv
      go_wp2_with (go_at_call 43; refine (rfill_c w.heap.size (32 * k) 1024 _ (pbF E k) _ (by omega) (by omega) (by omega) (by omega) HO.out).mono ?_; rintro e w3 ⟨v3, rfl, ho3, hs3, hm3⟩)
      obtain ⟨g3, cap3, rfl⟩ := own_has ho3 (by omega)
      go_ret2
      refine ⟨g3, cap3, rfl, ?_, Below.mods HB.out hm3 (fun i hi e => by have h0 := own_base HO.out _ e; omega) (by omega)⟩
      have e1 : bytesL (catF (32 * k) (pbF E k) fun _ => 0) 1024 = bytesL (pbF E k) 1024 := bytesL_congr fun j _ => by
        unfold catF pbF
        by_cases hj : j < 32 * k
        · simp [hj]
        · simp [hj]
      rw [← e1]
      exact ho3
end Go.Proofs.YtbbgahffcjbloaaGreat
end

section
/- The reference's image of a repair: what is written, and what lies in memory meanwhile (one group). -/
namespace Go.Proofs.YtbbgahffcjbloaaGreat
open Go.RowKit

def rowEnt (d : List (Nat × ByteArray)) (j : Nat) : Nat × ByteArray := d.getD j (0, ⟨#[]⟩)
/-- a directory's blocks, written -/
def dirO (t : RT) (fo : Nat → Nat) : Nat → Nat → Nat
  | 0 => fo
  | k + 1 => putF (dirO t fo k) (t.lead.getD k 0 * 1024) 1024 (pbF (rowEnt (t.dir.getD k [])) 32)
/-- an inode, written, and its directory's blocks -/
def inoO1 (g : Geo) (S : RSt) (fo : Nat → Nat) (x : Nat) : Nat → Nat :=
  match S.T x with
  | some t => dirO t (putF fo (g.iBlk x * 1024 + g.iOff x) 64 (inoF t.i)) t.dir.length
  | none => putF fo (g.iBlk x * 1024 + g.iOff x) 64 (inoF noIno)
def inoO (g : Geo) (S : RSt) (f : Nat → Nat) : Nat → Nat → Nat
  | 0 => f
  | n + 1 => inoO1 g S (inoO g S f n) (n + 1)
/-- the bits of the inodes, of the data blocks -/
def ibO (g : Geo) (S : RSt) : Nat → Nat → Nat
  | 0 => fun _ => 0
  | n + 1 => if (S.T (n + 1)).isSome then withB (ibO g S n) (g.iNo (n + 1)) true else ibO g S n
def dbO (g : Geo) (c : Nat → Bool) : Nat → Nat → Nat
  | 0 => fun _ => 0
  | k + 1 => if c k then withB (dbO g c k) (k % g.da) true else dbO g c k
def imgR (g : Geo) (S : RSt) (f : Nat → Nat) : Nat → Nat := putF (inoO g S f g.inodes) 1024 1024 (rheadF g 0 (ibO g S g.inodes) 8 (dbO g S.c g.blocks) ((g.da + 7) / 8))
/-- all that was taken in can be packed -/
structure ImOk (g : Geo) (S : RSt) : Prop where
  ino : ∀ x t, S.T x = some t → InoR t.i ∧ inoOk t.i = true
  dir : ∀ x t, S.T x = some t → t.dir.length = t.lead.length ∧ (∀ p ∈ t.lead, p < g.total) ∧ ∀ d ∈ t.dir, d.length = 32 ∧ ∀ e ∈ d, e.1 < 4294967296 ∧ e.2.size ≤ 1000000 ∧ entOk e.1 e.2 = true
theorem withB_byte {f : Nat → Nat} (hf : ∀ k, f k < 256) (i : Nat) (on : Bool) : ∀ k, withB f i on k < 256 := withB_lt hf i on
theorem ibO_lt (g : Geo) (S : RSt) : ∀ n k, ibO g S n k < 256
  | 0, _ => by show (0 : Nat) < 256; decide
  | n + 1, k => by
    unfold ibO
    split
    · exact withB_byte (ibO_lt g S n) _ _ k
    · exact ibO_lt g S n k
theorem dbO_lt (g : Geo) (c : Nat → Bool) : ∀ n k, dbO g c n k < 256
  | 0, _ => by show (0 : Nat) < 256; decide
  | n + 1, k => by
    unfold dbO
    split
    · exact withB_byte (dbO_lt g c n) _ _ k
    · exact dbO_lt g c n k
/-- the image in the making -/
structure IM (g : Geo) (f : Nat → Nat) (L : RLoc) (w : World) (lb : Lab) (adr : Nat → Option Nat) (S : RSt) (G3 G cap BI BD : Nat) (vi vd : Value) (fo fi fd : Nat → Nat) (wr : World) : Prop where
  rs : RS g f L wr lb adr S
  bel : Below w.heap.size w wr
  kg : Blk 24 wr G3 [.int .i64 1, .int .i64 g.ino, .int .i64 g.da]
  out : wr.ownsRow w.heap.size 5 1 (.slice (some ⟨G, 0, none⟩) L.N cap) L.N (bytesL fo L.N)
  ki : Blk 25 wr BI [vi]
  kd : Blk 25 wr BD [vd]
  oi : wr.ownsRow w.heap.size 5 1 vi 8 (bytesL fi 8)
  od : wr.ownsRow w.heap.size 5 1 vd ((g.da + 7) / 8) (bytesL fd ((g.da + 7) / 8))
  ni : vi.ownBlock ≠ some G
  nd : vd.ownBlock ≠ some G
  nb : BI ≠ BD
  b3 : w.heap.size ≤ G3
  bi : w.heap.size ≤ BI
  bd : w.heap.size ≤ BD
section
variable {g : Geo} {f : Nat → Nat} {L : RLoc} {w wr w2 : World} {lb : Lab} {adr : Nat → Option Nat} {S : RSt} {G3 G cap BI BD : Nat} {vi vd : Value} {fo fi fd : Nat → Nat}
theorem own_blk_ne {e e' : TypeId} {w : World} {base size n B : Nat} {v : Value} {xs ys : List Value} (h : w.ownsRow base e size v n xs) (h2 : Blk e' w B ys) (hne : e ≠ e') : v.ownBlock ≠ some B := fun q => by
  rcases h.2 with ⟨h1, _⟩ | ⟨g', cap', cur, hv, _, hg, _⟩
  · rw [h1] at q; cases q
  · rw [hv] at q
    have e2 : g' = B := Option.some.inj q
    unfold Blk at h2
    rw [e2, h2] at hg
    exact hne (tag_inj hg).symm
theorem IM.below (h : IM g f L w lb adr S G3 G cap BI BD vi vd fo fi fd wr) (hb : Below wr.heap.size wr w2) : IM g f L w lb adr S G3 G cap BI BD vi vd fo fi fd w2 :=
  ⟨h.rs.below hb, h.bel.trans (hb.mono h.bel.size), h.kg.below hb h.kg.lt, own_below h.out hb, h.ki.below hb h.ki.lt, h.kd.below hb h.kd.lt, own_below h.oi hb, own_below h.od hb, h.ni, h.nd, h.nb, h.b3, h.bi, h.bd⟩
/-- a block of the call's own has changed, which is nobody's row -/
theorem IM.rsOwn (h : IM g f L w lb adr S G3 G cap BI BD vi vd fo fi fd wr) (hS : RS g f L w lb adr S) {q : Nat} (hq : w.heap.size ≤ q) (hm : Mods (fun k => k = q) wr w2) : RS g f L w2 lb adr S :=
  h.rs.free hm fun k e hk => by
    subst e
    exact ⟨hS.hi k hq, fun e => by have := hS.img.lt; omega⟩
theorem IM.put (h : IM g f L w lb adr S G3 G cap BI BD vi vd fo fi fd wr) (hS : RS g f L w lb adr S) {fo' : Nat → Nat} (hm : Mods (fun k => k = G) wr w2) (ho : w2.ownsRow w.heap.size 5 1 (.slice (some ⟨G, 0, none⟩) L.N cap) L.N (bytesL fo' L.N)) : IM g f L w lb adr S G3 G cap BI BD vi vd fo' fi fd w2 := by
  have hG := own_len h.out
  have n1 : ∀ {e : TypeId} {B : Nat} {xs : List Value}, Blk e wr B xs → e ≠ 5 → B ≠ G := fun hk he q => by
    have := own_blk_ne h.out hk (fun e => he e.symm)
    rw [q] at this; exact this rfl
  exact ⟨h.rsOwn hS hG.1 hm, Below.mods h.bel hm (fun i hi e => by omega) h.bel.size, h.kg.mods hm (n1 h.kg (by decide)), ho, h.ki.mods hm (n1 h.ki (by decide)), h.kd.mods hm (n1 h.kd (by decide)), own_mods h.oi hm (fun k hk e => h.ni (by rw [hk, e])), own_mods h.od hm (fun k hk e => h.nd (by rw [hk, e])), h.ni, h.nd, h.nb, h.b3, h.bi, h.bd⟩
theorem IM.ibit (h : IM g f L w lb adr S G3 G cap BI BD vi vd fo fi fd wr) (hS : RS g f L w lb adr S) {fi' : Nat → Nat} {v : Value} (ho : wr.ownsRow w.heap.size 5 1 v 8 (bytesL fi' 8)) (hn : v.ownBlock ≠ some G) : IM g f L w lb adr S G3 G cap BI BD v vd fo fi' fd (wr.setCell ⟨BI, 0, none⟩ v) := by
  have hm := set_mods wr BI 0 v
  have n1 : ∀ {base size n : Nat} {u : Value} {xs : List Value}, wr.ownsRow base 5 size u n xs → ∀ k, u.ownBlock = some k → ¬ k = BI := fun hk k hu e => by
    have := own_blk_ne hk h.ki (by decide)
    rw [hu, e] at this; exact this rfl
  exact ⟨h.rsOwn hS h.bi hm, h.bel.setCell (p := ⟨BI, 0, none⟩) h.bi _, h.kg.mods hm (blkNe h.kg h.ki (by decide)), own_mods h.out hm (n1 h.out), h.ki.set 0 v, h.kd.mods hm (fun e => h.nb e.symm), own_mods ho hm (n1 ho), own_mods h.od hm (n1 h.od), hn, h.nd, h.nb, h.b3, h.bi, h.bd⟩
theorem IM.dbit (h : IM g f L w lb adr S G3 G cap BI BD vi vd fo fi fd wr) (hS : RS g f L w lb adr S) {fd' : Nat → Nat} {v : Value} (ho : wr.ownsRow w.heap.size 5 1 v ((g.da + 7) / 8) (bytesL fd' ((g.da + 7) / 8))) (hn : v.ownBlock ≠ some G) : IM g f L w lb adr S G3 G cap BI BD vi v fo fi fd' (wr.setCell ⟨BD, 0, none⟩ v) := by
  have hm := set_mods wr BD 0 v
  have n1 : ∀ {base size n : Nat} {u : Value} {xs : List Value}, wr.ownsRow base 5 size u n xs → ∀ k, u.ownBlock = some k → ¬ k = BD := fun hk k hu e => by
    have := own_blk_ne hk h.kd (by decide)
    rw [hu, e] at this; exact this rfl
  exact ⟨h.rsOwn hS h.bd hm, h.bel.setCell (p := ⟨BD, 0, none⟩) h.bd _, h.kg.mods hm (blkNe h.kg h.kd (by decide)), own_mods h.out hm (n1 h.out), h.ki.mods hm h.nb, h.kd.set 0 v, own_mods h.oi hm (n1 h.oi), own_mods ho hm (n1 ho), h.ni, hn, h.nb, h.b3, h.bi, h.bd⟩
end
theorem IM.make {g : Geo} {f : Nat → Nat} {L : RLoc} {w W : World} {lb : Lab} {adr : Nat → Option Nat} {S : RSt} {G3 G cap BI BD m : Nat} (hS : RS g f L w lb adr S) (hb : Below w.heap.size w W) (kg : Blk 24 W G3 [.int .i64 1, .int .i64 g.ino, .int .i64 g.da]) (b3 : w.heap.size ≤ G3)
    (out : W.ownsRow w.heap.size 5 1 (.slice (some ⟨G, 0, none⟩) L.N cap) L.N (bytesL f L.N)) (kI : Blk 25 W BI [.slice none 0 0]) (kD : Blk 25 W BD [.slice none 0 0]) (nb : BI ≠ BD) (bi : w.heap.size ≤ BI) (bd : w.heap.size ≤ BD) (hm : m = (g.da + 7) / 8) (hm2 : m ≤ 125) :
    IM g f L w lb adr S G3 G cap BI BD (.slice (some ⟨W.heap.size, 0, none⟩) 8 8) (.slice (some ⟨W.heap.size + 1, 0, none⟩) m m) f (fun _ => 0) (fun _ => 0)
      ((((W.setCell ⟨BI, 0, none⟩ (.slice (some ⟨W.heap.size, 0, none⟩) 8 8)).setCell ⟨BD, 0, none⟩ (.slice (some ⟨W.heap.size + 1, 0, none⟩) m m)).alloc (.cells (bytesL (fun _ => 0) 8).toArray 5)).alloc (.cells (bytesL (fun _ => 0) m).toArray 5)) := by
  have lBI := kI.lt; have lBD := kD.lt
  have hbz := hb.size
  obtain ⟨X, hX⟩ : ∃ X, X = (W.setCell ⟨BI, 0, none⟩ (.slice (some ⟨W.heap.size, 0, none⟩) 8 8)).setCell ⟨BD, 0, none⟩ (.slice (some ⟨W.heap.size + 1, 0, none⟩) m m) := ⟨_, rfl⟩
  have hXz : X.heap.size = W.heap.size := by rw [hX, size_set, size_set]
  have hmX : Mods (fun k => k = BI ∨ k = BD) W X := by rw [hX]; exact (((Mods.refl (fun k => k = BI ∨ k = BD) W).setCell ⟨BI, 0, none⟩ (fun _ => .inl rfl) _).setCell ⟨BD, 0, none⟩ (fun _ => .inr rfl) _)
  have kIX : Blk 25 X BI [.slice (some ⟨W.heap.size, 0, none⟩) 8 8] := by rw [hX]; exact (kI.set 0 _).other _ _ (fun e => nb e.symm)
  have kDX : Blk 25 X BD [.slice (some ⟨W.heap.size + 1, 0, none⟩) m m] := by rw [hX]; exact (kD.other ⟨BI, 0, none⟩ _ nb).set 0 _
  have nG : ∀ k, (k = BI ∨ k = BD) → (Value.slice (some ⟨G, 0, none⟩) L.N cap).ownBlock ≠ some k := fun k hk q => by
    rcases hk with e | e
    · rw [e] at q; exact own_blk_ne out kI (by decide) q
    · rw [e] at q; exact own_blk_ne out kD (by decide) q
  have ngk : ¬ (G3 = BI ∨ G3 = BD) := fun e => e.elim (blkNe kg kI (by decide)) (blkNe kg kD (by decide))
  have lG := (own_len out).2.1
  rw [← hX]
  have hbX : Below w.heap.size w X := Below.mods hb hmX (fun i hi e => by omega) hbz
  have ha : Below X.heap.size X ((X.alloc (.cells (bytesL (fun _ => 0) 8).toArray 5)).alloc (.cells (bytesL (fun _ => 0) m).toArray 5)) := ((Below.refl _ X).alloc (Nat.le_refl _) _).alloc (by simp) _
  have k8 : Blk 5 ((X.alloc (.cells (bytesL (fun _ => 0) 8).toArray 5)).alloc (.cells (bytesL (fun _ => 0) m).toArray 5)) X.heap.size (bytesL (fun _ => 0) 8) := Blk.fst _ _
  have km : Blk 5 ((X.alloc (.cells (bytesL (fun _ => 0) 8).toArray 5)).alloc (.cells (bytesL (fun _ => 0) m).toArray 5)) (X.heap.size + 1) (bytesL (fun _ => 0) m) := Blk.snd _ _
  rw [hXz] at k8 km
  have hSX : RS g f L X lb adr S := (hS.below hb).free hmX fun k hk _ => by
    have hk2 : w.heap.size ≤ k := by rcases hk with e | e <;> omega
    exact ⟨hS.hi k hk2, fun e => by have := hS.img.lt; omega⟩
  refine ⟨hSX.below ha, hbX.trans (ha.mono (by omega)), (kg.mods hmX ngk).below ha (by have := kg.lt; omega), own_below (own_mods out hmX fun k hk e => nG k e hk) ha, kIX.below ha (by omega), kDX.below ha (by omega), k8.own (by omega) (bytesL_length _ _) (by decide), ?_, fun e => ?_, fun e => ?_, nb, b3, bi, bd⟩
  · rw [← hm]; exact km.own (by omega) (bytesL_length _ _) (by unfold maxLen; omega)
  · have := Option.some.inj e; simp at this; omega
  · have := Option.some.inj e; simp at this; omega
end Go.Proofs.YtbbgahffcjbloaaGreat
end
