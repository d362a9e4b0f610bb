/- Part of the road to RpCard: Rep. -/
import Derived.Deep.DeepCutAuto
import Derived.Test.YtbeabehebenocaaGreatDoorRpo12
import Derived.Test.YtbeabehebenocaaGreatDoorRpo04
set_option linter.all false
set_option linter.unusedSimpArgs false
set_option linter.unusedVariables false
set_option linter.unusedSectionVars false
section
/- mend.Repair. -/
namespace Go.Proofs.YtbeabehebenocaaGreatDoor
open Go.RowKit

set_option maxRecDepth 100000 in
set_option maxHeartbeats 8000000 in
theorem rep_g (D : DS) (c1 : Nat → Bool) (i1 : Nat → Option Tk) (g : Geo) (b o N cap d : Nat) (f : Nat → Nat) (w : World) (hg : g = supG f) (hr : RdB w b o N f) (hf : ∀ k, f k < 256) (hN : N = g.total * 1024) (hcap : N ≤ cap) (hcb : cap ≤ 9223372036854775807) (hof : ofOk f N = true) (hok : g.Ok) (hone : g.gr = 1) (hds : DsOk g D) (hout : ∀ k, outD g f d D k < 256)
    (P1 : ∀ PB YB X CB IB G capo q5, Lo w b X CB IB G capo → ∀ W, Kp g b o N cap w W PB YB X q5 → Pa0 g b o N cap f X CB IB G capo W → OwnG b N G capo f W → Calls Tryz.prog 28 #[.pointer (some ⟨X, 0, none⟩)] W fun e w' => e = .returned (.tuple #[]) ∧ Kp g b o N cap w w' PB YB X q5 ∧ Pa1 g b o N cap c1 i1 f X CB IB G capo w' ∧ OwnG b N G capo f w')
    (P2 : ∀ PB YB X CB IB G capo q5, Lo w b X CB IB G capo → ∀ W, Kp g b o N cap w W PB YB X q5 → Pa1 g b o N cap c1 i1 f X CB IB G capo W → OwnG b N G capo f W → Calls Tryz.prog 29 #[.pointer (some ⟨YB, 0, none⟩)] W fun e w' => e = .returned (.tuple #[]) ∧ Kp g b o N cap w w' PB YB X q5 ∧ Pa2 g b o N cap D f X CB IB G capo w' ∧ OwnG b N G capo (putF f (d * 1024) 1024 (pbF D.E 32)) w') :
    Calls Tryz.prog 13 #[.slice (some ⟨b, o, none⟩) N cap] w fun e w' => ∃ G capo v, e = .returned (.tuple #[.slice (some ⟨G, 0, none⟩) N capo, v, .bool true]) ∧
      w'.ownsRow w.heap.size 5 1 (.slice (some ⟨G, 0, none⟩) N capo) N (bytesL (outD g f d D) N) ∧
      w'.ownsRow w.heap.size 3 1 v (unlike f (outD g f d D) g.total).length ((unlike f (outD g f d D) g.total).map fun n => .int .i64 (n : Nat)) ∧ Below w.heap.size w w' := by
  have hbl := lt_of_cell (hr 0 (by have := hok.total_pos; omega))
  have hNb : N ≤ 9000000 ∧ 1024 ≤ N := by have := hok.total_le; have := hok.total_pos; omega
  obtain ⟨hNb1, hNb2⟩ := hNb
  have OF := fun W hW => of_c b o N cap f hf W hW hNb2 hcap hcb
  rw [← hg] at OF
  have CL := fun W hW => clone_c b o N cap f W hW (by omega) (by omega) hcap
  have hmm := @run_makeMap Tryz.prog
  have HOF := Lib.hid OF; have HCL := Lib.hid CL; have HR := Lib.hid hr; have HO := Lib.hid hof; have HOK := Lib.hid hok; have HONE := Lib.hid hone; have HDS := Lib.hid hds; have HOUT := Lib.hid hout; have HP1 := Lib.hid P1; have HP2 := Lib.hid P2; have HN := Lib.hid hN; have HG := Lib.hid hg
  clear OF CL hr hof hok hone hds hout P1 P2 hN hg
  go_enter Tryz.func13, Tryz.ntmps13
  go_wp2_with (go_at_call 14; refine (HOF.out _ HR.out).mono ?_; rintro e w1 ⟨h1, -, hb1⟩; obtain rfl := h1 HO.out; obtain ⟨hc1, hf1⟩ := bcell hb1; have hz1 := hb1.size)
  obtain ⟨q5, hq5⟩ : ∃ q, q = w1.heap.size := ⟨_, rfl⟩
  obtain ⟨w2, hw2⟩ : ∃ W, W = w1.alloc (.cells #[.int .i64 (g.gr : Nat), .int .i64 (g.ino : Nat), .int .i64 (g.da : Nat), .slice (some ⟨b, o, none⟩) N cap] 49) := ⟨_, rfl⟩
  have hI2 : Blk 49 w2 q5 [.int .i64 (g.gr : Nat), .int .i64 (g.ino : Nat), .int .i64 (g.da : Nat), .slice (some ⟨b, o, none⟩) N cap] := by rw [hw2, hq5]; exact Blk.newL [.int .i64 (g.gr : Nat), .int .i64 (g.ino : Nat), .int .i64 (g.da : Nat), .slice (some ⟨b, o, none⟩) N cap]
  have hB2 : Below w.heap.size w w2 := by rw [hw2]; exact hb1.alloc hb1.size _
  have hlq : w.heap.size ≤ q5 := by rw [hq5]; exact hz1
  rw [← hw2]
  simp only [← hq5]
  clear hw2 hq5 hc1 hf1
  have HRD : ∀ W, Below w2.drew.heap.size w2.drew W → RdB W b o N f := fun W hW => (HR.out.below hB2.drew).below hW
  have h0 : St g b o N cap q5 f w2.drew w2.drew none none none none none := ⟨hI2.drew, Below.refl _ _, fun _ _ e => by (cases e), fun _ e => by (cases e), fun _ e => by (cases e), fun _ e => by (cases e), fun _ e => by (cases e), fun _ _ e => by (cases e), fun _ e => by (cases e), fun _ e => by (cases e)⟩
  have hS0 := h0.S
  have hBu := hB2.drew
  replace HRD := Lib.hid HRD
  go_cut [7] (fun s7 wx => ∃ YB X : Nat, s7 = .pointer (some ⟨YB, 0, none⟩) ∧ ∃ u0 : World, Below w.heap.size w u0 ∧ ∃ G k C I, Made g b o N cap q5 f u0 wx YB X G k C I)
  case first =>
    refine wp_region_held_drew (S := (fun w' => w'.cell? ⟨q5, 0, none⟩ = some (.int .i64 (g.gr : Nat)) ∧ w'.cell? ⟨q5, 1, none⟩ = some (.int .i64 (g.ino : Nat)) ∧ w'.cell? ⟨q5, 2, none⟩ = some (.int .i64 (g.da : Nat)) ∧ w'.cell? ⟨q5, 3, none⟩ = some (.slice (some ⟨b, o, none⟩) N cap))) (by kernel_rfl) hS0 (fun hHeld => ?_)
    refine tkA (i := 0) (oi := ⟨_, _, _, _, _, _⟩) ?_
    simp only [putA, List.set]
    refine tkA (i := 1) (oi := ⟨_, _, _, _, _, _⟩) ?_
    simp only [putA, List.set]
    generalize hW0 : w2.drew = u0 at h0 hHeld HRD hBu ⊢
    refine wpAnyH_ready (rs := [2, 3, 4, 7]) (by kernel_rfl) (by simp) ?_
    refine AllReadyH.cons rfl (fun K hK => ?_) ?_
    · go_simp
      go_at_call 27
      refine (HCL.out _ (HRD.out _ h0.bel)).mono ?_
      rintro e v0 ⟨G, capo, rfl, hoN, hBn, hcp⟩
      have h1 := h0.clone hoN hBn hcp
      go_simp
      refine hK.out _ _ h1.S (fun hHeld => ?_)
      clear hK K
      refine wpAnyH_ready (rs := [3, 4, 7]) (by kernel_rfl) (by simp) ?_
      refine AllReadyH.cons rfl (fun K hK => ?_) ?_
      · go_simp
        have h2 := h1.claim (q := v0.heap.size) rfl
        generalize v0.alloc (.map #[] 0) = v1 at h2 ⊢
        refine hK.out _ _ h2.S (fun hHeld => ?_)
        clear hK K
        refine wpAnyH_ready (rs := [4, 7]) (by kernel_rfl) (by simp) ?_
        refine AllReadyH.cons rfl (fun K hK => ?_) ?_
        · go_simp
          have h3 := h2.inm (q := v1.heap.size) rfl
          generalize v1.alloc (.map #[] 0) = v2 at h3 ⊢
          refine hK.out _ _ h3.S (fun hHeld => ?_)
          clear hK K
          refine tkA (i := 5) (oi := ⟨_, _, _, _, _, _⟩) ?_
          simp only [putA, List.set]
          refine wpAnyH_ready (rs := [6, 7]) (by kernel_rfl) (by simp) ?_
          refine AllReadyH.cons rfl (fun K hK => ?_) ?_
          · go_simp
            have h4 := h3.men (q := v2.heap.size) rfl
            generalize v2.alloc (.cells #[.int .i64 (g.gr : Nat), .int .i64 (g.ino : Nat), .int .i64 (g.da : Nat), .slice (some ⟨b, o, none⟩) N cap, .slice (some ⟨G, 0, none⟩) N capo, .map (some v0.heap.size), .map (some v1.heap.size), .slice none 0 0] 69) = v3 at h4 ⊢
            refine hK.out _ _ h4.S (fun hHeld => ?_)
            clear hK K
            refine wpAnyH_ready (rs := [7]) (by kernel_rfl) (by simp) ?_
            refine AllReadyH.cons rfl (fun K hK => ?_) AllReadyH.nil
            go_simp
            have h5 := h4.ptr (q := v3.heap.size) rfl
            generalize v3.alloc (.cells #[.pointer none] 63) = v4 at h5 ⊢
            refine hK.out _ _ h5.S (fun hHeld => ?_)
            clear hK K
            refine wpAnyH_ready (rs := [8]) (by kernel_rfl) (by simp) ?_
            refine AllReadyH.cons rfl (fun K hK => ?_) AllReadyH.nil
            have cY := h5.cellY rfl; have fY := h5.frozenY rfl
            go_simp
            refine hK.out _ _ (h5.store rfl _ rfl).1 (fun hHeld => ?_)
            clear hK K cY fY
            refine wpAnyH_done (by kernel_rfl) ?_ _
            go_wp2_with fail
            go_meet
            exact ⟨_, _, rfl, u0, hBu, (h5.store rfl _ rfl).2⟩
          refine AllReadyH.cons rfl (fun K hK => ?_) AllReadyH.nil
          go_simp
          have h4 := h3.ptr (q := v2.heap.size) rfl
          generalize v2.alloc (.cells #[.pointer none] 63) = v3 at h4 ⊢
          refine hK.out _ _ h4.S (fun hHeld => ?_)
          clear hK K
          refine wpAnyH_ready (rs := [6]) (by kernel_rfl) (by simp) ?_
          refine AllReadyH.cons rfl (fun K hK => ?_) AllReadyH.nil
          go_simp
          have h5 := h4.men (q := v3.heap.size) rfl
          generalize v3.alloc (.cells #[.int .i64 (g.gr : Nat), .int .i64 (g.ino : Nat), .int .i64 (g.da : Nat), .slice (some ⟨b, o, none⟩) N cap, .slice (some ⟨G, 0, none⟩) N capo, .map (some v0.heap.size), .map (some v1.heap.size), .slice none 0 0] 69) = v4 at h5 ⊢
          refine hK.out _ _ h5.S (fun hHeld => ?_)
          clear hK K
          refine wpAnyH_ready (rs := [8]) (by kernel_rfl) (by simp) ?_
          refine AllReadyH.cons rfl (fun K hK => ?_) AllReadyH.nil
          have cY := h5.cellY rfl; have fY := h5.frozenY rfl
          go_simp
          refine hK.out _ _ (h5.store rfl _ rfl).1 (fun hHeld => ?_)
          clear hK K cY fY
          refine wpAnyH_done (by kernel_rfl) ?_ _
          go_wp2_with fail
          go_meet
          exact ⟨_, _, rfl, u0, hBu, (h5.store rfl _ rfl).2⟩
        refine AllReadyH.cons rfl (fun K hK => ?_) AllReadyH.nil
        go_simp
        have h3 := h2.ptr (q := v1.heap.size) rfl
        generalize v1.alloc (.cells #[.pointer none] 63) = v2 at h3 ⊢
        refine hK.out _ _ h3.S (fun hHeld => ?_)
        clear hK K
        refine wpAnyH_ready (rs := [4]) (by kernel_rfl) (by simp) ?_
        refine AllReadyH.cons rfl (fun K hK => ?_) AllReadyH.nil
        go_simp
        have h4 := h3.inm (q := v2.heap.size) rfl
        generalize v2.alloc (.map #[] 0) = v3 at h4 ⊢
        refine hK.out _ _ h4.S (fun hHeld => ?_)
        clear hK K
        refine tkA (i := 5) (oi := ⟨_, _, _, _, _, _⟩) ?_
        simp only [putA, List.set]
        refine wpAnyH_ready (rs := [6]) (by kernel_rfl) (by simp) ?_
        refine AllReadyH.cons rfl (fun K hK => ?_) AllReadyH.nil
        go_simp
        have h5 := h4.men (q := v3.heap.size) rfl
        generalize v3.alloc (.cells #[.int .i64 (g.gr : Nat), .int .i64 (g.ino : Nat), .int .i64 (g.da : Nat), .slice (some ⟨b, o, none⟩) N cap, .slice (some ⟨G, 0, none⟩) N capo, .map (some v0.heap.size), .map (some v2.heap.size), .slice none 0 0] 69) = v4 at h5 ⊢
        refine hK.out _ _ h5.S (fun hHeld => ?_)
        clear hK K
        refine wpAnyH_ready (rs := [8]) (by kernel_rfl) (by simp) ?_
        refine AllReadyH.cons rfl (fun K hK => ?_) AllReadyH.nil
        have cY := h5.cellY rfl; have fY := h5.frozenY rfl
        go_simp
        refine hK.out _ _ (h5.store rfl _ rfl).1 (fun hHeld => ?_)
        clear hK K cY fY
        refine wpAnyH_done (by kernel_rfl) ?_ _
        go_wp2_with fail
        go_meet
        exact ⟨_, _, rfl, u0, hBu, (h5.store rfl _ rfl).2⟩
      refine AllReadyH.cons rfl (fun K hK => ?_) ?_
      · go_simp
        have h2 := h1.inm (q := v0.heap.size) rfl
        generalize v0.alloc (.map #[] 0) = v1 at h2 ⊢
        refine hK.out _ _ h2.S (fun hHeld => ?_)
        clear hK K
        refine wpAnyH_ready (rs := [3, 7]) (by kernel_rfl) (by simp) ?_
        refine AllReadyH.cons rfl (fun K hK => ?_) ?_
        · go_simp
          have h3 := h2.claim (q := v1.heap.size) rfl
          generalize v1.alloc (.map #[] 0) = v2 at h3 ⊢
          refine hK.out _ _ h3.S (fun hHeld => ?_)
          clear hK K
          refine tkA (i := 5) (oi := ⟨_, _, _, _, _, _⟩) ?_
          simp only [putA, List.set]
          refine wpAnyH_ready (rs := [6, 7]) (by kernel_rfl) (by simp) ?_
          refine AllReadyH.cons rfl (fun K hK => ?_) ?_
          · go_simp
            have h4 := h3.men (q := v2.heap.size) rfl
            generalize v2.alloc (.cells #[.int .i64 (g.gr : Nat), .int .i64 (g.ino : Nat), .int .i64 (g.da : Nat), .slice (some ⟨b, o, none⟩) N cap, .slice (some ⟨G, 0, none⟩) N capo, .map (some v1.heap.size), .map (some v0.heap.size), .slice none 0 0] 69) = v3 at h4 ⊢
            refine hK.out _ _ h4.S (fun hHeld => ?_)
            clear hK K
            refine wpAnyH_ready (rs := [7]) (by kernel_rfl) (by simp) ?_
            refine AllReadyH.cons rfl (fun K hK => ?_) AllReadyH.nil
            go_simp
            have h5 := h4.ptr (q := v3.heap.size) rfl
            generalize v3.alloc (.cells #[.pointer none] 63) = v4 at h5 ⊢
            refine hK.out _ _ h5.S (fun hHeld => ?_)
            clear hK K
            refine wpAnyH_ready (rs := [8]) (by kernel_rfl) (by simp) ?_
            refine AllReadyH.cons rfl (fun K hK => ?_) AllReadyH.nil
            have cY := h5.cellY rfl; have fY := h5.frozenY rfl
            go_simp
            refine hK.out _ _ (h5.store rfl _ rfl).1 (fun hHeld => ?_)
            clear hK K cY fY
            refine wpAnyH_done (by kernel_rfl) ?_ _
            go_wp2_with fail
            go_meet
            exact ⟨_, _, rfl, u0, hBu, (h5.store rfl _ rfl).2⟩
          refine AllReadyH.cons rfl (fun K hK => ?_) AllReadyH.nil
          go_simp
          have h4 := h3.ptr (q := v2.heap.size) rfl
          generalize v2.alloc (.cells #[.pointer none] 63) = v3 at h4 ⊢
          refine hK.out _ _ h4.S (fun hHeld => ?_)
          clear hK K
          refine wpAnyH_ready (rs := [6]) (by kernel_rfl) (by simp) ?_
          refine AllReadyH.cons rfl (fun K hK => ?_) AllReadyH.nil
          go_simp
          have h5 := h4.men (q := v3.heap.size) rfl
          generalize v3.alloc (.cells #[.int .i64 (g.gr : Nat), .int .i64 (g.ino : Nat), .int .i64 (g.da : Nat), .slice (some ⟨b, o, none⟩) N cap, .slice (some ⟨G, 0, none⟩) N capo, .map (some v1.heap.size), .map (some v0.heap.size), .slice none 0 0] 69) = v4 at h5 ⊢
          refine hK.out _ _ h5.S (fun hHeld => ?_)
          clear hK K
          refine wpAnyH_ready (rs := [8]) (by kernel_rfl) (by simp) ?_
          refine AllReadyH.cons rfl (fun K hK => ?_) AllReadyH.nil
          have cY := h5.cellY rfl; have fY := h5.frozenY rfl
          go_simp
          refine hK.out _ _ (h5.store rfl _ rfl).1 (fun hHeld => ?_)
          clear hK K cY fY
          refine wpAnyH_done (by kernel_rfl) ?_ _
          go_wp2_with fail
          go_meet
          exact ⟨_, _, rfl, u0, hBu, (h5.store rfl _ rfl).2⟩
        refine AllReadyH.cons rfl (fun K hK => ?_) AllReadyH.nil
        go_simp
        have h3 := h2.ptr (q := v1.heap.size) rfl
        generalize v1.alloc (.cells #[.pointer none] 63) = v2 at h3 ⊢
        refine hK.out _ _ h3.S (fun hHeld => ?_)
        clear hK K
        refine wpAnyH_ready (rs := [3]) (by kernel_rfl) (by simp) ?_
        refine AllReadyH.cons rfl (fun K hK => ?_) AllReadyH.nil
        go_simp
        have h4 := h3.claim (q := v2.heap.size) rfl
        generalize v2.alloc (.map #[] 0) = v3 at h4 ⊢
        refine hK.out _ _ h4.S (fun hHeld => ?_)
        clear hK K
        refine tkA (i := 5) (oi := ⟨_, _, _, _, _, _⟩) ?_
        simp only [putA, List.set]
        refine wpAnyH_ready (rs := [6]) (by kernel_rfl) (by simp) ?_
        refine AllReadyH.cons rfl (fun K hK => ?_) AllReadyH.nil
        go_simp
        have h5 := h4.men (q := v3.heap.size) rfl
        generalize v3.alloc (.cells #[.int .i64 (g.gr : Nat), .int .i64 (g.ino : Nat), .int .i64 (g.da : Nat), .slice (some ⟨b, o, none⟩) N cap, .slice (some ⟨G, 0, none⟩) N capo, .map (some v2.heap.size), .map (some v0.heap.size), .slice none 0 0] 69) = v4 at h5 ⊢
        refine hK.out _ _ h5.S (fun hHeld => ?_)
        clear hK K
        refine wpAnyH_ready (rs := [8]) (by kernel_rfl) (by simp) ?_
        refine AllReadyH.cons rfl (fun K hK => ?_) AllReadyH.nil
        have cY := h5.cellY rfl; have fY := h5.frozenY rfl
        go_simp
        refine hK.out _ _ (h5.store rfl _ rfl).1 (fun hHeld => ?_)
        clear hK K cY fY
        refine wpAnyH_done (by kernel_rfl) ?_ _
        go_wp2_with fail
        go_meet
        exact ⟨_, _, rfl, u0, hBu, (h5.store rfl _ rfl).2⟩
      refine AllReadyH.cons rfl (fun K hK => ?_) AllReadyH.nil
      go_simp
      have h2 := h1.ptr (q := v0.heap.size) rfl
      generalize v0.alloc (.cells #[.pointer none] 63) = v1 at h2 ⊢
      refine hK.out _ _ h2.S (fun hHeld => ?_)
      clear hK K
      refine wpAnyH_ready (rs := [3, 4]) (by kernel_rfl) (by simp) ?_
      refine AllReadyH.cons rfl (fun K hK => ?_) ?_
      · go_simp
        have h3 := h2.claim (q := v1.heap.size) rfl
        generalize v1.alloc (.map #[] 0) = v2 at h3 ⊢
        refine hK.out _ _ h3.S (fun hHeld => ?_)
        clear hK K
        refine wpAnyH_ready (rs := [4]) (by kernel_rfl) (by simp) ?_
        refine AllReadyH.cons rfl (fun K hK => ?_) AllReadyH.nil
        go_simp
        have h4 := h3.inm (q := v2.heap.size) rfl
        generalize v2.alloc (.map #[] 0) = v3 at h4 ⊢
        refine hK.out _ _ h4.S (fun hHeld => ?_)
        clear hK K
        refine tkA (i := 5) (oi := ⟨_, _, _, _, _, _⟩) ?_
        simp only [putA, List.set]
        refine wpAnyH_ready (rs := [6]) (by kernel_rfl) (by simp) ?_
        refine AllReadyH.cons rfl (fun K hK => ?_) AllReadyH.nil
        go_simp
        have h5 := h4.men (q := v3.heap.size) rfl
        generalize v3.alloc (.cells #[.int .i64 (g.gr : Nat), .int .i64 (g.ino : Nat), .int .i64 (g.da : Nat), .slice (some ⟨b, o, none⟩) N cap, .slice (some ⟨G, 0, none⟩) N capo, .map (some v1.heap.size), .map (some v2.heap.size), .slice none 0 0] 69) = v4 at h5 ⊢
        refine hK.out _ _ h5.S (fun hHeld => ?_)
        clear hK K
        refine wpAnyH_ready (rs := [8]) (by kernel_rfl) (by simp) ?_
        refine AllReadyH.cons rfl (fun K hK => ?_) AllReadyH.nil
        have cY := h5.cellY rfl; have fY := h5.frozenY rfl
        go_simp
        refine hK.out _ _ (h5.store rfl _ rfl).1 (fun hHeld => ?_)
        clear hK K cY fY
        refine wpAnyH_done (by kernel_rfl) ?_ _
        go_wp2_with fail
        go_meet
        exact ⟨_, _, rfl, u0, hBu, (h5.store rfl _ rfl).2⟩
      refine AllReadyH.cons rfl (fun K hK => ?_) AllReadyH.nil
      go_simp
      have h3 := h2.inm (q := v1.heap.size) rfl
      generalize v1.alloc (.map #[] 0) = v2 at h3 ⊢
      refine hK.out _ _ h3.S (fun hHeld => ?_)
      clear hK K
      refine wpAnyH_ready (rs := [3]) (by kernel_rfl) (by simp) ?_
      refine AllReadyH.cons rfl (fun K hK => ?_) AllReadyH.nil
      go_simp
      have h4 := h3.claim (q := v2.heap.size) rfl
      generalize v2.alloc (.map #[] 0) = v3 at h4 ⊢
      refine hK.out _ _ h4.S (fun hHeld => ?_)
      clear hK K
      refine tkA (i := 5) (oi := ⟨_, _, _, _, _, _⟩) ?_
      simp only [putA, List.set]
      refine wpAnyH_ready (rs := [6]) (by kernel_rfl) (by simp) ?_
      refine AllReadyH.cons rfl (fun K hK => ?_) AllReadyH.nil
      go_simp
      have h5 := h4.men (q := v3.heap.size) rfl
      generalize v3.alloc (.cells #[.int .i64 (g.gr : Nat), .int .i64 (g.ino : Nat), .int .i64 (g.da : Nat), .slice (some ⟨b, o, none⟩) N cap, .slice (some ⟨G, 0, none⟩) N capo, .map (some v2.heap.size), .map (some v1.heap.size), .slice none 0 0] 69) = v4 at h5 ⊢
      refine hK.out _ _ h5.S (fun hHeld => ?_)
      clear hK K
      refine wpAnyH_ready (rs := [8]) (by kernel_rfl) (by simp) ?_
      refine AllReadyH.cons rfl (fun K hK => ?_) AllReadyH.nil
      have cY := h5.cellY rfl; have fY := h5.frozenY rfl
      go_simp
      refine hK.out _ _ (h5.store rfl _ rfl).1 (fun hHeld => ?_)
      clear hK K cY fY
      refine wpAnyH_done (by kernel_rfl) ?_ _
      go_wp2_with fail
      go_meet
      exact ⟨_, _, rfl, u0, hBu, (h5.store rfl _ rfl).2⟩
    refine AllReadyH.cons rfl (fun K hK => ?_) ?_
    · go_simp
      have h1 := h0.claim (q := u0.heap.size) rfl
      generalize u0.alloc (.map #[] 0) = v0 at h1 ⊢
      refine hK.out _ _ h1.S (fun hHeld => ?_)
      clear hK K
      refine wpAnyH_ready (rs := [2, 4, 7]) (by kernel_rfl) (by simp) ?_
      refine AllReadyH.cons rfl (fun K hK => ?_) ?_
      · go_simp
        go_at_call 27
        refine (HCL.out _ (HRD.out _ h1.bel)).mono ?_
        rintro e v1 ⟨G, capo, rfl, hoN, hBn, hcp⟩
        have h2 := h1.clone hoN hBn hcp
        go_simp
        refine hK.out _ _ h2.S (fun hHeld => ?_)
        clear hK K
        refine wpAnyH_ready (rs := [4, 7]) (by kernel_rfl) (by simp) ?_
        refine AllReadyH.cons rfl (fun K hK => ?_) ?_
        · go_simp
          have h3 := h2.inm (q := v1.heap.size) rfl
          generalize v1.alloc (.map #[] 0) = v2 at h3 ⊢
          refine hK.out _ _ h3.S (fun hHeld => ?_)
          clear hK K
          refine tkA (i := 5) (oi := ⟨_, _, _, _, _, _⟩) ?_
          simp only [putA, List.set]
          refine wpAnyH_ready (rs := [6, 7]) (by kernel_rfl) (by simp) ?_
          refine AllReadyH.cons rfl (fun K hK => ?_) ?_
          · go_simp
            have h4 := h3.men (q := v2.heap.size) rfl
            generalize v2.alloc (.cells #[.int .i64 (g.gr : Nat), .int .i64 (g.ino : Nat), .int .i64 (g.da : Nat), .slice (some ⟨b, o, none⟩) N cap, .slice (some ⟨G, 0, none⟩) N capo, .map (some u0.heap.size), .map (some v1.heap.size), .slice none 0 0] 69) = v3 at h4 ⊢
            refine hK.out _ _ h4.S (fun hHeld => ?_)
            clear hK K
            refine wpAnyH_ready (rs := [7]) (by kernel_rfl) (by simp) ?_
            refine AllReadyH.cons rfl (fun K hK => ?_) AllReadyH.nil
            go_simp
            have h5 := h4.ptr (q := v3.heap.size) rfl
            generalize v3.alloc (.cells #[.pointer none] 63) = v4 at h5 ⊢
            refine hK.out _ _ h5.S (fun hHeld => ?_)
            clear hK K
            refine wpAnyH_ready (rs := [8]) (by kernel_rfl) (by simp) ?_
            refine AllReadyH.cons rfl (fun K hK => ?_) AllReadyH.nil
            have cY := h5.cellY rfl; have fY := h5.frozenY rfl
            go_simp
            refine hK.out _ _ (h5.store rfl _ rfl).1 (fun hHeld => ?_)
            clear hK K cY fY
            refine wpAnyH_done (by kernel_rfl) ?_ _
            go_wp2_with fail
            go_meet
            exact ⟨_, _, rfl, u0, hBu, (h5.store rfl _ rfl).2⟩
          refine AllReadyH.cons rfl (fun K hK => ?_) AllReadyH.nil
          go_simp
          have h4 := h3.ptr (q := v2.heap.size) rfl
          generalize v2.alloc (.cells #[.pointer none] 63) = v3 at h4 ⊢
          refine hK.out _ _ h4.S (fun hHeld => ?_)
          clear hK K
          refine wpAnyH_ready (rs := [6]) (by kernel_rfl) (by simp) ?_
          refine AllReadyH.cons rfl (fun K hK => ?_) AllReadyH.nil
          go_simp
          have h5 := h4.men (q := v3.heap.size) rfl
          generalize v3.alloc (.cells #[.int .i64 (g.gr : Nat), .int .i64 (g.ino : Nat), .int .i64 (g.da : Nat), .slice (some ⟨b, o, none⟩) N cap, .slice (some ⟨G, 0, none⟩) N capo, .map (some u0.heap.size), .map (some v1.heap.size), .slice none 0 0] 69) = v4 at h5 ⊢
          refine hK.out _ _ h5.S (fun hHeld => ?_)
          clear hK K
          refine wpAnyH_ready (rs := [8]) (by kernel_rfl) (by simp) ?_
          refine AllReadyH.cons rfl (fun K hK => ?_) AllReadyH.nil
          have cY := h5.cellY rfl; have fY := h5.frozenY rfl
          go_simp
          refine hK.out _ _ (h5.store rfl _ rfl).1 (fun hHeld => ?_)
          clear hK K cY fY
          refine wpAnyH_done (by kernel_rfl) ?_ _
          go_wp2_with fail
          go_meet
          exact ⟨_, _, rfl, u0, hBu, (h5.store rfl _ rfl).2⟩
        refine AllReadyH.cons rfl (fun K hK => ?_) AllReadyH.nil
        go_simp
        have h3 := h2.ptr (q := v1.heap.size) rfl
        generalize v1.alloc (.cells #[.pointer none] 63) = v2 at h3 ⊢
        refine hK.out _ _ h3.S (fun hHeld => ?_)
        clear hK K
        refine wpAnyH_ready (rs := [4]) (by kernel_rfl) (by simp) ?_
        refine AllReadyH.cons rfl (fun K hK => ?_) AllReadyH.nil
        go_simp
        have h4 := h3.inm (q := v2.heap.size) rfl
        generalize v2.alloc (.map #[] 0) = v3 at h4 ⊢
        refine hK.out _ _ h4.S (fun hHeld => ?_)
        clear hK K
        refine tkA (i := 5) (oi := ⟨_, _, _, _, _, _⟩) ?_
        simp only [putA, List.set]
        refine wpAnyH_ready (rs := [6]) (by kernel_rfl) (by simp) ?_
        refine AllReadyH.cons rfl (fun K hK => ?_) AllReadyH.nil
        go_simp
        have h5 := h4.men (q := v3.heap.size) rfl
        generalize v3.alloc (.cells #[.int .i64 (g.gr : Nat), .int .i64 (g.ino : Nat), .int .i64 (g.da : Nat), .slice (some ⟨b, o, none⟩) N cap, .slice (some ⟨G, 0, none⟩) N capo, .map (some u0.heap.size), .map (some v2.heap.size), .slice none 0 0] 69) = v4 at h5 ⊢
        refine hK.out _ _ h5.S (fun hHeld => ?_)
        clear hK K
        refine wpAnyH_ready (rs := [8]) (by kernel_rfl) (by simp) ?_
        refine AllReadyH.cons rfl (fun K hK => ?_) AllReadyH.nil
        have cY := h5.cellY rfl; have fY := h5.frozenY rfl
        go_simp
        refine hK.out _ _ (h5.store rfl _ rfl).1 (fun hHeld => ?_)
        clear hK K cY fY
        refine wpAnyH_done (by kernel_rfl) ?_ _
        go_wp2_with fail
        go_meet
        exact ⟨_, _, rfl, u0, hBu, (h5.store rfl _ rfl).2⟩
      refine AllReadyH.cons rfl (fun K hK => ?_) ?_
      · go_simp
        have h2 := h1.inm (q := v0.heap.size) rfl
        generalize v0.alloc (.map #[] 0) = v1 at h2 ⊢
        refine hK.out _ _ h2.S (fun hHeld => ?_)
        clear hK K
        refine wpAnyH_ready (rs := [2, 7]) (by kernel_rfl) (by simp) ?_
        refine AllReadyH.cons rfl (fun K hK => ?_) ?_
        · go_simp
          go_at_call 27
          refine (HCL.out _ (HRD.out _ h2.bel)).mono ?_
          rintro e v2 ⟨G, capo, rfl, hoN, hBn, hcp⟩
          have h3 := h2.clone hoN hBn hcp
          go_simp
          refine hK.out _ _ h3.S (fun hHeld => ?_)
          clear hK K
          refine tkA (i := 5) (oi := ⟨_, _, _, _, _, _⟩) ?_
          simp only [putA, List.set]
          refine wpAnyH_ready (rs := [6, 7]) (by kernel_rfl) (by simp) ?_
          refine AllReadyH.cons rfl (fun K hK => ?_) ?_
          · go_simp
            have h4 := h3.men (q := v2.heap.size) rfl
            generalize v2.alloc (.cells #[.int .i64 (g.gr : Nat), .int .i64 (g.ino : Nat), .int .i64 (g.da : Nat), .slice (some ⟨b, o, none⟩) N cap, .slice (some ⟨G, 0, none⟩) N capo, .map (some u0.heap.size), .map (some v0.heap.size), .slice none 0 0] 69) = v3 at h4 ⊢
            refine hK.out _ _ h4.S (fun hHeld => ?_)
            clear hK K
            refine wpAnyH_ready (rs := [7]) (by kernel_rfl) (by simp) ?_
            refine AllReadyH.cons rfl (fun K hK => ?_) AllReadyH.nil
            go_simp
            have h5 := h4.ptr (q := v3.heap.size) rfl
            generalize v3.alloc (.cells #[.pointer none] 63) = v4 at h5 ⊢
            refine hK.out _ _ h5.S (fun hHeld => ?_)
            clear hK K
            refine wpAnyH_ready (rs := [8]) (by kernel_rfl) (by simp) ?_
            refine AllReadyH.cons rfl (fun K hK => ?_) AllReadyH.nil
            have cY := h5.cellY rfl; have fY := h5.frozenY rfl
            go_simp
            refine hK.out _ _ (h5.store rfl _ rfl).1 (fun hHeld => ?_)
            clear hK K cY fY
            refine wpAnyH_done (by kernel_rfl) ?_ _
            go_wp2_with fail
            go_meet
            exact ⟨_, _, rfl, u0, hBu, (h5.store rfl _ rfl).2⟩
          refine AllReadyH.cons rfl (fun K hK => ?_) AllReadyH.nil
          go_simp
          have h4 := h3.ptr (q := v2.heap.size) rfl
          generalize v2.alloc (.cells #[.pointer none] 63) = v3 at h4 ⊢
          refine hK.out _ _ h4.S (fun hHeld => ?_)
          clear hK K
          refine wpAnyH_ready (rs := [6]) (by kernel_rfl) (by simp) ?_
          refine AllReadyH.cons rfl (fun K hK => ?_) AllReadyH.nil
          go_simp
          have h5 := h4.men (q := v3.heap.size) rfl
          generalize v3.alloc (.cells #[.int .i64 (g.gr : Nat), .int .i64 (g.ino : Nat), .int .i64 (g.da : Nat), .slice (some ⟨b, o, none⟩) N cap, .slice (some ⟨G, 0, none⟩) N capo, .map (some u0.heap.size), .map (some v0.heap.size), .slice none 0 0] 69) = v4 at h5 ⊢
          refine hK.out _ _ h5.S (fun hHeld => ?_)
          clear hK K
          refine wpAnyH_ready (rs := [8]) (by kernel_rfl) (by simp) ?_
          refine AllReadyH.cons rfl (fun K hK => ?_) AllReadyH.nil
          have cY := h5.cellY rfl; have fY := h5.frozenY rfl
          go_simp
          refine hK.out _ _ (h5.store rfl _ rfl).1 (fun hHeld => ?_)
          clear hK K cY fY
          refine wpAnyH_done (by kernel_rfl) ?_ _
          go_wp2_with fail
          go_meet
          exact ⟨_, _, rfl, u0, hBu, (h5.store rfl _ rfl).2⟩
        refine AllReadyH.cons rfl (fun K hK => ?_) AllReadyH.nil
        go_simp
        have h3 := h2.ptr (q := v1.heap.size) rfl
        generalize v1.alloc (.cells #[.pointer none] 63) = v2 at h3 ⊢
        refine hK.out _ _ h3.S (fun hHeld => ?_)
        clear hK K
        refine wpAnyH_ready (rs := [2]) (by kernel_rfl) (by simp) ?_
        refine AllReadyH.cons rfl (fun K hK => ?_) AllReadyH.nil
        go_simp
        go_at_call 27
        refine (HCL.out _ (HRD.out _ h3.bel)).mono ?_
        rintro e v3 ⟨G, capo, rfl, hoN, hBn, hcp⟩
        have h4 := h3.clone hoN hBn hcp
        go_simp
        refine hK.out _ _ h4.S (fun hHeld => ?_)
        clear hK K
        refine tkA (i := 5) (oi := ⟨_, _, _, _, _, _⟩) ?_
        simp only [putA, List.set]
        refine wpAnyH_ready (rs := [6]) (by kernel_rfl) (by simp) ?_
        refine AllReadyH.cons rfl (fun K hK => ?_) AllReadyH.nil
        go_simp
        have h5 := h4.men (q := v3.heap.size) rfl
        generalize v3.alloc (.cells #[.int .i64 (g.gr : Nat), .int .i64 (g.ino : Nat), .int .i64 (g.da : Nat), .slice (some ⟨b, o, none⟩) N cap, .slice (some ⟨G, 0, none⟩) N capo, .map (some u0.heap.size), .map (some v0.heap.size), .slice none 0 0] 69) = v4 at h5 ⊢
        refine hK.out _ _ h5.S (fun hHeld => ?_)
        clear hK K
        refine wpAnyH_ready (rs := [8]) (by kernel_rfl) (by simp) ?_
        refine AllReadyH.cons rfl (fun K hK => ?_) AllReadyH.nil
        have cY := h5.cellY rfl; have fY := h5.frozenY rfl
        go_simp
        refine hK.out _ _ (h5.store rfl _ rfl).1 (fun hHeld => ?_)
        clear hK K cY fY
        refine wpAnyH_done (by kernel_rfl) ?_ _
        go_wp2_with fail
        go_meet
        exact ⟨_, _, rfl, u0, hBu, (h5.store rfl _ rfl).2⟩
      refine AllReadyH.cons rfl (fun K hK => ?_) AllReadyH.nil
      go_simp
      have h2 := h1.ptr (q := v0.heap.size) rfl
      generalize v0.alloc (.cells #[.pointer none] 63) = v1 at h2 ⊢
      refine hK.out _ _ h2.S (fun hHeld => ?_)
      clear hK K
      refine wpAnyH_ready (rs := [2, 4]) (by kernel_rfl) (by simp) ?_
      refine AllReadyH.cons rfl (fun K hK => ?_) ?_
      · go_simp
        go_at_call 27
        refine (HCL.out _ (HRD.out _ h2.bel)).mono ?_
        rintro e v2 ⟨G, capo, rfl, hoN, hBn, hcp⟩
        have h3 := h2.clone hoN hBn hcp
        go_simp
        refine hK.out _ _ h3.S (fun hHeld => ?_)
        clear hK K
        refine wpAnyH_ready (rs := [4]) (by kernel_rfl) (by simp) ?_
        refine AllReadyH.cons rfl (fun K hK => ?_) AllReadyH.nil
        go_simp
        have h4 := h3.inm (q := v2.heap.size) rfl
        generalize v2.alloc (.map #[] 0) = v3 at h4 ⊢
        refine hK.out _ _ h4.S (fun hHeld => ?_)
        clear hK K
        refine tkA (i := 5) (oi := ⟨_, _, _, _, _, _⟩) ?_
        simp only [putA, List.set]
        refine wpAnyH_ready (rs := [6]) (by kernel_rfl) (by simp) ?_
        refine AllReadyH.cons rfl (fun K hK => ?_) AllReadyH.nil
        go_simp
        have h5 := h4.men (q := v3.heap.size) rfl
        generalize v3.alloc (.cells #[.int .i64 (g.gr : Nat), .int .i64 (g.ino : Nat), .int .i64 (g.da : Nat), .slice (some ⟨b, o, none⟩) N cap, .slice (some ⟨G, 0, none⟩) N capo, .map (some u0.heap.size), .map (some v2.heap.size), .slice none 0 0] 69) = v4 at h5 ⊢
        refine hK.out _ _ h5.S (fun hHeld => ?_)
        clear hK K
        refine wpAnyH_ready (rs := [8]) (by kernel_rfl) (by simp) ?_
        refine AllReadyH.cons rfl (fun K hK => ?_) AllReadyH.nil
        have cY := h5.cellY rfl; have fY := h5.frozenY rfl
        go_simp
        refine hK.out _ _ (h5.store rfl _ rfl).1 (fun hHeld => ?_)
        clear hK K cY fY
        refine wpAnyH_done (by kernel_rfl) ?_ _
        go_wp2_with fail
        go_meet
        exact ⟨_, _, rfl, u0, hBu, (h5.store rfl _ rfl).2⟩
      refine AllReadyH.cons rfl (fun K hK => ?_) AllReadyH.nil
      go_simp
      have h3 := h2.inm (q := v1.heap.size) rfl
      generalize v1.alloc (.map #[] 0) = v2 at h3 ⊢
      refine hK.out _ _ h3.S (fun hHeld => ?_)
      clear hK K
      refine wpAnyH_ready (rs := [2]) (by kernel_rfl) (by simp) ?_
      refine AllReadyH.cons rfl (fun K hK => ?_) AllReadyH.nil
      go_simp
      go_at_call 27
      refine (HCL.out _ (HRD.out _ h3.bel)).mono ?_
      rintro e v3 ⟨G, capo, rfl, hoN, hBn, hcp⟩
      have h4 := h3.clone hoN hBn hcp
      go_simp
      refine hK.out _ _ h4.S (fun hHeld => ?_)
      clear hK K
      refine tkA (i := 5) (oi := ⟨_, _, _, _, _, _⟩) ?_
      simp only [putA, List.set]
      refine wpAnyH_ready (rs := [6]) (by kernel_rfl) (by simp) ?_
      refine AllReadyH.cons rfl (fun K hK => ?_) AllReadyH.nil
      go_simp
      have h5 := h4.men (q := v3.heap.size) rfl
      generalize v3.alloc (.cells #[.int .i64 (g.gr : Nat), .int .i64 (g.ino : Nat), .int .i64 (g.da : Nat), .slice (some ⟨b, o, none⟩) N cap, .slice (some ⟨G, 0, none⟩) N capo, .map (some u0.heap.size), .map (some v1.heap.size), .slice none 0 0] 69) = v4 at h5 ⊢
      refine hK.out _ _ h5.S (fun hHeld => ?_)
      clear hK K
      refine wpAnyH_ready (rs := [8]) (by kernel_rfl) (by simp) ?_
      refine AllReadyH.cons rfl (fun K hK => ?_) AllReadyH.nil
      have cY := h5.cellY rfl; have fY := h5.frozenY rfl
      go_simp
      refine hK.out _ _ (h5.store rfl _ rfl).1 (fun hHeld => ?_)
      clear hK K cY fY
      refine wpAnyH_done (by kernel_rfl) ?_ _
      go_wp2_with fail
      go_meet
      exact ⟨_, _, rfl, u0, hBu, (h5.store rfl _ rfl).2⟩
    refine AllReadyH.cons rfl (fun K hK => ?_) ?_
    · go_simp
      have h1 := h0.inm (q := u0.heap.size) rfl
      generalize u0.alloc (.map #[] 0) = v0 at h1 ⊢
      refine hK.out _ _ h1.S (fun hHeld => ?_)
      clear hK K
      refine wpAnyH_ready (rs := [2, 3, 7]) (by kernel_rfl) (by simp) ?_
      refine AllReadyH.cons rfl (fun K hK => ?_) ?_
      · go_simp
        go_at_call 27
        refine (HCL.out _ (HRD.out _ h1.bel)).mono ?_
        rintro e v1 ⟨G, capo, rfl, hoN, hBn, hcp⟩
        have h2 := h1.clone hoN hBn hcp
        go_simp
        refine hK.out _ _ h2.S (fun hHeld => ?_)
        clear hK K
        refine wpAnyH_ready (rs := [3, 7]) (by kernel_rfl) (by simp) ?_
        refine AllReadyH.cons rfl (fun K hK => ?_) ?_
        · go_simp
          have h3 := h2.claim (q := v1.heap.size) rfl
          generalize v1.alloc (.map #[] 0) = v2 at h3 ⊢
          refine hK.out _ _ h3.S (fun hHeld => ?_)
          clear hK K
          refine tkA (i := 5) (oi := ⟨_, _, _, _, _, _⟩) ?_
          simp only [putA, List.set]
          refine wpAnyH_ready (rs := [6, 7]) (by kernel_rfl) (by simp) ?_
          refine AllReadyH.cons rfl (fun K hK => ?_) ?_
          · go_simp
            have h4 := h3.men (q := v2.heap.size) rfl
            generalize v2.alloc (.cells #[.int .i64 (g.gr : Nat), .int .i64 (g.ino : Nat), .int .i64 (g.da : Nat), .slice (some ⟨b, o, none⟩) N cap, .slice (some ⟨G, 0, none⟩) N capo, .map (some v1.heap.size), .map (some u0.heap.size), .slice none 0 0] 69) = v3 at h4 ⊢
            refine hK.out _ _ h4.S (fun hHeld => ?_)
            clear hK K
            refine wpAnyH_ready (rs := [7]) (by kernel_rfl) (by simp) ?_
            refine AllReadyH.cons rfl (fun K hK => ?_) AllReadyH.nil
            go_simp
            have h5 := h4.ptr (q := v3.heap.size) rfl
            generalize v3.alloc (.cells #[.pointer none] 63) = v4 at h5 ⊢
            refine hK.out _ _ h5.S (fun hHeld => ?_)
            clear hK K
            refine wpAnyH_ready (rs := [8]) (by kernel_rfl) (by simp) ?_
            refine AllReadyH.cons rfl (fun K hK => ?_) AllReadyH.nil
            have cY := h5.cellY rfl; have fY := h5.frozenY rfl
            go_simp
            refine hK.out _ _ (h5.store rfl _ rfl).1 (fun hHeld => ?_)
            clear hK K cY fY
            refine wpAnyH_done (by kernel_rfl) ?_ _
            go_wp2_with fail
            go_meet
            exact ⟨_, _, rfl, u0, hBu, (h5.store rfl _ rfl).2⟩
          refine AllReadyH.cons rfl (fun K hK => ?_) AllReadyH.nil
          go_simp
          have h4 := h3.ptr (q := v2.heap.size) rfl
          generalize v2.alloc (.cells #[.pointer none] 63) = v3 at h4 ⊢
          refine hK.out _ _ h4.S (fun hHeld => ?_)
          clear hK K
          refine wpAnyH_ready (rs := [6]) (by kernel_rfl) (by simp) ?_
          refine AllReadyH.cons rfl (fun K hK => ?_) AllReadyH.nil
          go_simp
          have h5 := h4.men (q := v3.heap.size) rfl
          generalize v3.alloc (.cells #[.int .i64 (g.gr : Nat), .int .i64 (g.ino : Nat), .int .i64 (g.da : Nat), .slice (some ⟨b, o, none⟩) N cap, .slice (some ⟨G, 0, none⟩) N capo, .map (some v1.heap.size), .map (some u0.heap.size), .slice none 0 0] 69) = v4 at h5 ⊢
          refine hK.out _ _ h5.S (fun hHeld => ?_)
          clear hK K
          refine wpAnyH_ready (rs := [8]) (by kernel_rfl) (by simp) ?_
          refine AllReadyH.cons rfl (fun K hK => ?_) AllReadyH.nil
          have cY := h5.cellY rfl; have fY := h5.frozenY rfl
          go_simp
          refine hK.out _ _ (h5.store rfl _ rfl).1 (fun hHeld => ?_)
          clear hK K cY fY
          refine wpAnyH_done (by kernel_rfl) ?_ _
          go_wp2_with fail
          go_meet
          exact ⟨_, _, rfl, u0, hBu, (h5.store rfl _ rfl).2⟩
        refine AllReadyH.cons rfl (fun K hK => ?_) AllReadyH.nil
        go_simp
        have h3 := h2.ptr (q := v1.heap.size) rfl
        generalize v1.alloc (.cells #[.pointer none] 63) = v2 at h3 ⊢
        refine hK.out _ _ h3.S (fun hHeld => ?_)
        clear hK K
        refine wpAnyH_ready (rs := [3]) (by kernel_rfl) (by simp) ?_
        refine AllReadyH.cons rfl (fun K hK => ?_) AllReadyH.nil
        go_simp
        have h4 := h3.claim (q := v2.heap.size) rfl
        generalize v2.alloc (.map #[] 0) = v3 at h4 ⊢
        refine hK.out _ _ h4.S (fun hHeld => ?_)
        clear hK K
        refine tkA (i := 5) (oi := ⟨_, _, _, _, _, _⟩) ?_
        simp only [putA, List.set]
        refine wpAnyH_ready (rs := [6]) (by kernel_rfl) (by simp) ?_
        refine AllReadyH.cons rfl (fun K hK => ?_) AllReadyH.nil
        go_simp
        have h5 := h4.men (q := v3.heap.size) rfl
        generalize v3.alloc (.cells #[.int .i64 (g.gr : Nat), .int .i64 (g.ino : Nat), .int .i64 (g.da : Nat), .slice (some ⟨b, o, none⟩) N cap, .slice (some ⟨G, 0, none⟩) N capo, .map (some v2.heap.size), .map (some u0.heap.size), .slice none 0 0] 69) = v4 at h5 ⊢
        refine hK.out _ _ h5.S (fun hHeld => ?_)
        clear hK K
        refine wpAnyH_ready (rs := [8]) (by kernel_rfl) (by simp) ?_
        refine AllReadyH.cons rfl (fun K hK => ?_) AllReadyH.nil
        have cY := h5.cellY rfl; have fY := h5.frozenY rfl
        go_simp
        refine hK.out _ _ (h5.store rfl _ rfl).1 (fun hHeld => ?_)
        clear hK K cY fY
        refine wpAnyH_done (by kernel_rfl) ?_ _
        go_wp2_with fail
        go_meet
        exact ⟨_, _, rfl, u0, hBu, (h5.store rfl _ rfl).2⟩
      refine AllReadyH.cons rfl (fun K hK => ?_) ?_
      · go_simp
        have h2 := h1.claim (q := v0.heap.size) rfl
        generalize v0.alloc (.map #[] 0) = v1 at h2 ⊢
        refine hK.out _ _ h2.S (fun hHeld => ?_)
        clear hK K
        refine wpAnyH_ready (rs := [2, 7]) (by kernel_rfl) (by simp) ?_
        refine AllReadyH.cons rfl (fun K hK => ?_) ?_
        · go_simp
          go_at_call 27
          refine (HCL.out _ (HRD.out _ h2.bel)).mono ?_
          rintro e v2 ⟨G, capo, rfl, hoN, hBn, hcp⟩
          have h3 := h2.clone hoN hBn hcp
          go_simp
          refine hK.out _ _ h3.S (fun hHeld => ?_)
          clear hK K
          refine tkA (i := 5) (oi := ⟨_, _, _, _, _, _⟩) ?_
          simp only [putA, List.set]
          refine wpAnyH_ready (rs := [6, 7]) (by kernel_rfl) (by simp) ?_
          refine AllReadyH.cons rfl (fun K hK => ?_) ?_
          · go_simp
            have h4 := h3.men (q := v2.heap.size) rfl
            generalize v2.alloc (.cells #[.int .i64 (g.gr : Nat), .int .i64 (g.ino : Nat), .int .i64 (g.da : Nat), .slice (some ⟨b, o, none⟩) N cap, .slice (some ⟨G, 0, none⟩) N capo, .map (some v0.heap.size), .map (some u0.heap.size), .slice none 0 0] 69) = v3 at h4 ⊢
            refine hK.out _ _ h4.S (fun hHeld => ?_)
            clear hK K
            refine wpAnyH_ready (rs := [7]) (by kernel_rfl) (by simp) ?_
            refine AllReadyH.cons rfl (fun K hK => ?_) AllReadyH.nil
            go_simp
            have h5 := h4.ptr (q := v3.heap.size) rfl
            generalize v3.alloc (.cells #[.pointer none] 63) = v4 at h5 ⊢
            refine hK.out _ _ h5.S (fun hHeld => ?_)
            clear hK K
            refine wpAnyH_ready (rs := [8]) (by kernel_rfl) (by simp) ?_
            refine AllReadyH.cons rfl (fun K hK => ?_) AllReadyH.nil
            have cY := h5.cellY rfl; have fY := h5.frozenY rfl
            go_simp
            refine hK.out _ _ (h5.store rfl _ rfl).1 (fun hHeld => ?_)
            clear hK K cY fY
            refine wpAnyH_done (by kernel_rfl) ?_ _
            go_wp2_with fail
            go_meet
            exact ⟨_, _, rfl, u0, hBu, (h5.store rfl _ rfl).2⟩
          refine AllReadyH.cons rfl (fun K hK => ?_) AllReadyH.nil
          go_simp
          have h4 := h3.ptr (q := v2.heap.size) rfl
          generalize v2.alloc (.cells #[.pointer none] 63) = v3 at h4 ⊢
          refine hK.out _ _ h4.S (fun hHeld => ?_)
          clear hK K
          refine wpAnyH_ready (rs := [6]) (by kernel_rfl) (by simp) ?_
          refine AllReadyH.cons rfl (fun K hK => ?_) AllReadyH.nil
          go_simp
          have h5 := h4.men (q := v3.heap.size) rfl
          generalize v3.alloc (.cells #[.int .i64 (g.gr : Nat), .int .i64 (g.ino : Nat), .int .i64 (g.da : Nat), .slice (some ⟨b, o, none⟩) N cap, .slice (some ⟨G, 0, none⟩) N capo, .map (some v0.heap.size), .map (some u0.heap.size), .slice none 0 0] 69) = v4 at h5 ⊢
          refine hK.out _ _ h5.S (fun hHeld => ?_)
          clear hK K
          refine wpAnyH_ready (rs := [8]) (by kernel_rfl) (by simp) ?_
          refine AllReadyH.cons rfl (fun K hK => ?_) AllReadyH.nil
          have cY := h5.cellY rfl; have fY := h5.frozenY rfl
          go_simp
          refine hK.out _ _ (h5.store rfl _ rfl).1 (fun hHeld => ?_)
          clear hK K cY fY
          refine wpAnyH_done (by kernel_rfl) ?_ _
          go_wp2_with fail
          go_meet
          exact ⟨_, _, rfl, u0, hBu, (h5.store rfl _ rfl).2⟩
        refine AllReadyH.cons rfl (fun K hK => ?_) AllReadyH.nil
        go_simp
        have h3 := h2.ptr (q := v1.heap.size) rfl
        generalize v1.alloc (.cells #[.pointer none] 63) = v2 at h3 ⊢
        refine hK.out _ _ h3.S (fun hHeld => ?_)
        clear hK K
        refine wpAnyH_ready (rs := [2]) (by kernel_rfl) (by simp) ?_
        refine AllReadyH.cons rfl (fun K hK => ?_) AllReadyH.nil
        go_simp
        go_at_call 27
        refine (HCL.out _ (HRD.out _ h3.bel)).mono ?_
        rintro e v3 ⟨G, capo, rfl, hoN, hBn, hcp⟩
        have h4 := h3.clone hoN hBn hcp
        go_simp
        refine hK.out _ _ h4.S (fun hHeld => ?_)
        clear hK K
        refine tkA (i := 5) (oi := ⟨_, _, _, _, _, _⟩) ?_
        simp only [putA, List.set]
        refine wpAnyH_ready (rs := [6]) (by kernel_rfl) (by simp) ?_
        refine AllReadyH.cons rfl (fun K hK => ?_) AllReadyH.nil
        go_simp
        have h5 := h4.men (q := v3.heap.size) rfl
        generalize v3.alloc (.cells #[.int .i64 (g.gr : Nat), .int .i64 (g.ino : Nat), .int .i64 (g.da : Nat), .slice (some ⟨b, o, none⟩) N cap, .slice (some ⟨G, 0, none⟩) N capo, .map (some v0.heap.size), .map (some u0.heap.size), .slice none 0 0] 69) = v4 at h5 ⊢
        refine hK.out _ _ h5.S (fun hHeld => ?_)
        clear hK K
        refine wpAnyH_ready (rs := [8]) (by kernel_rfl) (by simp) ?_
        refine AllReadyH.cons rfl (fun K hK => ?_) AllReadyH.nil
        have cY := h5.cellY rfl; have fY := h5.frozenY rfl
        go_simp
        refine hK.out _ _ (h5.store rfl _ rfl).1 (fun hHeld => ?_)
        clear hK K cY fY
        refine wpAnyH_done (by kernel_rfl) ?_ _
        go_wp2_with fail
        go_meet
        exact ⟨_, _, rfl, u0, hBu, (h5.store rfl _ rfl).2⟩
      refine AllReadyH.cons rfl (fun K hK => ?_) AllReadyH.nil
      go_simp
      have h2 := h1.ptr (q := v0.heap.size) rfl
      generalize v0.alloc (.cells #[.pointer none] 63) = v1 at h2 ⊢
      refine hK.out _ _ h2.S (fun hHeld => ?_)
      clear hK K
      refine wpAnyH_ready (rs := [2, 3]) (by kernel_rfl) (by simp) ?_
      refine AllReadyH.cons rfl (fun K hK => ?_) ?_
      · go_simp
        go_at_call 27
        refine (HCL.out _ (HRD.out _ h2.bel)).mono ?_
        rintro e v2 ⟨G, capo, rfl, hoN, hBn, hcp⟩
        have h3 := h2.clone hoN hBn hcp
        go_simp
        refine hK.out _ _ h3.S (fun hHeld => ?_)
        clear hK K
        refine wpAnyH_ready (rs := [3]) (by kernel_rfl) (by simp) ?_
        refine AllReadyH.cons rfl (fun K hK => ?_) AllReadyH.nil
        go_simp
        have h4 := h3.claim (q := v2.heap.size) rfl
        generalize v2.alloc (.map #[] 0) = v3 at h4 ⊢
        refine hK.out _ _ h4.S (fun hHeld => ?_)
        clear hK K
        refine tkA (i := 5) (oi := ⟨_, _, _, _, _, _⟩) ?_
        simp only [putA, List.set]
        refine wpAnyH_ready (rs := [6]) (by kernel_rfl) (by simp) ?_
        refine AllReadyH.cons rfl (fun K hK => ?_) AllReadyH.nil
        go_simp
        have h5 := h4.men (q := v3.heap.size) rfl
        generalize v3.alloc (.cells #[.int .i64 (g.gr : Nat), .int .i64 (g.ino : Nat), .int .i64 (g.da : Nat), .slice (some ⟨b, o, none⟩) N cap, .slice (some ⟨G, 0, none⟩) N capo, .map (some v2.heap.size), .map (some u0.heap.size), .slice none 0 0] 69) = v4 at h5 ⊢
        refine hK.out _ _ h5.S (fun hHeld => ?_)
        clear hK K
        refine wpAnyH_ready (rs := [8]) (by kernel_rfl) (by simp) ?_
        refine AllReadyH.cons rfl (fun K hK => ?_) AllReadyH.nil
        have cY := h5.cellY rfl; have fY := h5.frozenY rfl
        go_simp
        refine hK.out _ _ (h5.store rfl _ rfl).1 (fun hHeld => ?_)
        clear hK K cY fY
        refine wpAnyH_done (by kernel_rfl) ?_ _
        go_wp2_with fail
        go_meet
        exact ⟨_, _, rfl, u0, hBu, (h5.store rfl _ rfl).2⟩
      refine AllReadyH.cons rfl (fun K hK => ?_) AllReadyH.nil
      go_simp
      have h3 := h2.claim (q := v1.heap.size) rfl
      generalize v1.alloc (.map #[] 0) = v2 at h3 ⊢
      refine hK.out _ _ h3.S (fun hHeld => ?_)
      clear hK K
      refine wpAnyH_ready (rs := [2]) (by kernel_rfl) (by simp) ?_
      refine AllReadyH.cons rfl (fun K hK => ?_) AllReadyH.nil
      go_simp
      go_at_call 27
      refine (HCL.out _ (HRD.out _ h3.bel)).mono ?_
      rintro e v3 ⟨G, capo, rfl, hoN, hBn, hcp⟩
      have h4 := h3.clone hoN hBn hcp
      go_simp
      refine hK.out _ _ h4.S (fun hHeld => ?_)
      clear hK K
      refine tkA (i := 5) (oi := ⟨_, _, _, _, _, _⟩) ?_
      simp only [putA, List.set]
      refine wpAnyH_ready (rs := [6]) (by kernel_rfl) (by simp) ?_
      refine AllReadyH.cons rfl (fun K hK => ?_) AllReadyH.nil
      go_simp
      have h5 := h4.men (q := v3.heap.size) rfl
      generalize v3.alloc (.cells #[.int .i64 (g.gr : Nat), .int .i64 (g.ino : Nat), .int .i64 (g.da : Nat), .slice (some ⟨b, o, none⟩) N cap, .slice (some ⟨G, 0, none⟩) N capo, .map (some v1.heap.size), .map (some u0.heap.size), .slice none 0 0] 69) = v4 at h5 ⊢
      refine hK.out _ _ h5.S (fun hHeld => ?_)
      clear hK K
      refine wpAnyH_ready (rs := [8]) (by kernel_rfl) (by simp) ?_
      refine AllReadyH.cons rfl (fun K hK => ?_) AllReadyH.nil
      have cY := h5.cellY rfl; have fY := h5.frozenY rfl
      go_simp
      refine hK.out _ _ (h5.store rfl _ rfl).1 (fun hHeld => ?_)
      clear hK K cY fY
      refine wpAnyH_done (by kernel_rfl) ?_ _
      go_wp2_with fail
      go_meet
      exact ⟨_, _, rfl, u0, hBu, (h5.store rfl _ rfl).2⟩
    refine AllReadyH.cons rfl (fun K hK => ?_) AllReadyH.nil
    go_simp
    have h1 := h0.ptr (q := u0.heap.size) rfl
    generalize u0.alloc (.cells #[.pointer none] 63) = v0 at h1 ⊢
    refine hK.out _ _ h1.S (fun hHeld => ?_)
    clear hK K
    refine wpAnyH_ready (rs := [2, 3, 4]) (by kernel_rfl) (by simp) ?_
    refine AllReadyH.cons rfl (fun K hK => ?_) ?_
    · go_simp
      go_at_call 27
      refine (HCL.out _ (HRD.out _ h1.bel)).mono ?_
      rintro e v1 ⟨G, capo, rfl, hoN, hBn, hcp⟩
      have h2 := h1.clone hoN hBn hcp
      go_simp
      refine hK.out _ _ h2.S (fun hHeld => ?_)
      clear hK K
      refine wpAnyH_ready (rs := [3, 4]) (by kernel_rfl) (by simp) ?_
      refine AllReadyH.cons rfl (fun K hK => ?_) ?_
      · go_simp
        have h3 := h2.claim (q := v1.heap.size) rfl
        generalize v1.alloc (.map #[] 0) = v2 at h3 ⊢
        refine hK.out _ _ h3.S (fun hHeld => ?_)
        clear hK K
        refine wpAnyH_ready (rs := [4]) (by kernel_rfl) (by simp) ?_
        refine AllReadyH.cons rfl (fun K hK => ?_) AllReadyH.nil
        go_simp
        have h4 := h3.inm (q := v2.heap.size) rfl
        generalize v2.alloc (.map #[] 0) = v3 at h4 ⊢
        refine hK.out _ _ h4.S (fun hHeld => ?_)
        clear hK K
        refine tkA (i := 5) (oi := ⟨_, _, _, _, _, _⟩) ?_
        simp only [putA, List.set]
        refine wpAnyH_ready (rs := [6]) (by kernel_rfl) (by simp) ?_
        refine AllReadyH.cons rfl (fun K hK => ?_) AllReadyH.nil
        go_simp
        have h5 := h4.men (q := v3.heap.size) rfl
        generalize v3.alloc (.cells #[.int .i64 (g.gr : Nat), .int .i64 (g.ino : Nat), .int .i64 (g.da : Nat), .slice (some ⟨b, o, none⟩) N cap, .slice (some ⟨G, 0, none⟩) N capo, .map (some v1.heap.size), .map (some v2.heap.size), .slice none 0 0] 69) = v4 at h5 ⊢
        refine hK.out _ _ h5.S (fun hHeld => ?_)
        clear hK K
        refine wpAnyH_ready (rs := [8]) (by kernel_rfl) (by simp) ?_
        refine AllReadyH.cons rfl (fun K hK => ?_) AllReadyH.nil
        have cY := h5.cellY rfl; have fY := h5.frozenY rfl
        go_simp
        refine hK.out _ _ (h5.store rfl _ rfl).1 (fun hHeld => ?_)
        clear hK K cY fY
        refine wpAnyH_done (by kernel_rfl) ?_ _
        go_wp2_with fail
        go_meet
        exact ⟨_, _, rfl, u0, hBu, (h5.store rfl _ rfl).2⟩
      refine AllReadyH.cons rfl (fun K hK => ?_) AllReadyH.nil
      go_simp
      have h3 := h2.inm (q := v1.heap.size) rfl
      generalize v1.alloc (.map #[] 0) = v2 at h3 ⊢
      refine hK.out _ _ h3.S (fun hHeld => ?_)
      clear hK K
      refine wpAnyH_ready (rs := [3]) (by kernel_rfl) (by simp) ?_
      refine AllReadyH.cons rfl (fun K hK => ?_) AllReadyH.nil
      go_simp
      have h4 := h3.claim (q := v2.heap.size) rfl
      generalize v2.alloc (.map #[] 0) = v3 at h4 ⊢
      refine hK.out _ _ h4.S (fun hHeld => ?_)
      clear hK K
      refine tkA (i := 5) (oi := ⟨_, _, _, _, _, _⟩) ?_
      simp only [putA, List.set]
      refine wpAnyH_ready (rs := [6]) (by kernel_rfl) (by simp) ?_
      refine AllReadyH.cons rfl (fun K hK => ?_) AllReadyH.nil
      go_simp
      have h5 := h4.men (q := v3.heap.size) rfl
      generalize v3.alloc (.cells #[.int .i64 (g.gr : Nat), .int .i64 (g.ino : Nat), .int .i64 (g.da : Nat), .slice (some ⟨b, o, none⟩) N cap, .slice (some ⟨G, 0, none⟩) N capo, .map (some v2.heap.size), .map (some v1.heap.size), .slice none 0 0] 69) = v4 at h5 ⊢
      refine hK.out _ _ h5.S (fun hHeld => ?_)
      clear hK K
      refine wpAnyH_ready (rs := [8]) (by kernel_rfl) (by simp) ?_
      refine AllReadyH.cons rfl (fun K hK => ?_) AllReadyH.nil
      have cY := h5.cellY rfl; have fY := h5.frozenY rfl
      go_simp
      refine hK.out _ _ (h5.store rfl _ rfl).1 (fun hHeld => ?_)
      clear hK K cY fY
      refine wpAnyH_done (by kernel_rfl) ?_ _
      go_wp2_with fail
      go_meet
      exact ⟨_, _, rfl, u0, hBu, (h5.store rfl _ rfl).2⟩
    refine AllReadyH.cons rfl (fun K hK => ?_) ?_
    · go_simp
      have h2 := h1.claim (q := v0.heap.size) rfl
      generalize v0.alloc (.map #[] 0) = v1 at h2 ⊢
      refine hK.out _ _ h2.S (fun hHeld => ?_)
      clear hK K
      refine wpAnyH_ready (rs := [2, 4]) (by kernel_rfl) (by simp) ?_
      refine AllReadyH.cons rfl (fun K hK => ?_) ?_
      · go_simp
        go_at_call 27
        refine (HCL.out _ (HRD.out _ h2.bel)).mono ?_
        rintro e v2 ⟨G, capo, rfl, hoN, hBn, hcp⟩
        have h3 := h2.clone hoN hBn hcp
        go_simp
        refine hK.out _ _ h3.S (fun hHeld => ?_)
        clear hK K
        refine wpAnyH_ready (rs := [4]) (by kernel_rfl) (by simp) ?_
        refine AllReadyH.cons rfl (fun K hK => ?_) AllReadyH.nil
        go_simp
        have h4 := h3.inm (q := v2.heap.size) rfl
        generalize v2.alloc (.map #[] 0) = v3 at h4 ⊢
        refine hK.out _ _ h4.S (fun hHeld => ?_)
        clear hK K
        refine tkA (i := 5) (oi := ⟨_, _, _, _, _, _⟩) ?_
        simp only [putA, List.set]
        refine wpAnyH_ready (rs := [6]) (by kernel_rfl) (by simp) ?_
        refine AllReadyH.cons rfl (fun K hK => ?_) AllReadyH.nil
        go_simp
        have h5 := h4.men (q := v3.heap.size) rfl
        generalize v3.alloc (.cells #[.int .i64 (g.gr : Nat), .int .i64 (g.ino : Nat), .int .i64 (g.da : Nat), .slice (some ⟨b, o, none⟩) N cap, .slice (some ⟨G, 0, none⟩) N capo, .map (some v0.heap.size), .map (some v2.heap.size), .slice none 0 0] 69) = v4 at h5 ⊢
        refine hK.out _ _ h5.S (fun hHeld => ?_)
        clear hK K
        refine wpAnyH_ready (rs := [8]) (by kernel_rfl) (by simp) ?_
        refine AllReadyH.cons rfl (fun K hK => ?_) AllReadyH.nil
        have cY := h5.cellY rfl; have fY := h5.frozenY rfl
        go_simp
        refine hK.out _ _ (h5.store rfl _ rfl).1 (fun hHeld => ?_)
        clear hK K cY fY
        refine wpAnyH_done (by kernel_rfl) ?_ _
        go_wp2_with fail
        go_meet
        exact ⟨_, _, rfl, u0, hBu, (h5.store rfl _ rfl).2⟩
      refine AllReadyH.cons rfl (fun K hK => ?_) AllReadyH.nil
      go_simp
      have h3 := h2.inm (q := v1.heap.size) rfl
      generalize v1.alloc (.map #[] 0) = v2 at h3 ⊢
      refine hK.out _ _ h3.S (fun hHeld => ?_)
      clear hK K
      refine wpAnyH_ready (rs := [2]) (by kernel_rfl) (by simp) ?_
      refine AllReadyH.cons rfl (fun K hK => ?_) AllReadyH.nil
      go_simp
      go_at_call 27
      refine (HCL.out _ (HRD.out _ h3.bel)).mono ?_
      rintro e v3 ⟨G, capo, rfl, hoN, hBn, hcp⟩
      have h4 := h3.clone hoN hBn hcp
      go_simp
      refine hK.out _ _ h4.S (fun hHeld => ?_)
      clear hK K
      refine tkA (i := 5) (oi := ⟨_, _, _, _, _, _⟩) ?_
      simp only [putA, List.set]
      refine wpAnyH_ready (rs := [6]) (by kernel_rfl) (by simp) ?_
      refine AllReadyH.cons rfl (fun K hK => ?_) AllReadyH.nil
      go_simp
      have h5 := h4.men (q := v3.heap.size) rfl
      generalize v3.alloc (.cells #[.int .i64 (g.gr : Nat), .int .i64 (g.ino : Nat), .int .i64 (g.da : Nat), .slice (some ⟨b, o, none⟩) N cap, .slice (some ⟨G, 0, none⟩) N capo, .map (some v0.heap.size), .map (some v1.heap.size), .slice none 0 0] 69) = v4 at h5 ⊢
      refine hK.out _ _ h5.S (fun hHeld => ?_)
      clear hK K
      refine wpAnyH_ready (rs := [8]) (by kernel_rfl) (by simp) ?_
      refine AllReadyH.cons rfl (fun K hK => ?_) AllReadyH.nil
      have cY := h5.cellY rfl; have fY := h5.frozenY rfl
      go_simp
      refine hK.out _ _ (h5.store rfl _ rfl).1 (fun hHeld => ?_)
      clear hK K cY fY
      refine wpAnyH_done (by kernel_rfl) ?_ _
      go_wp2_with fail
      go_meet
      exact ⟨_, _, rfl, u0, hBu, (h5.store rfl _ rfl).2⟩
    refine AllReadyH.cons rfl (fun K hK => ?_) AllReadyH.nil
    go_simp
    have h2 := h1.inm (q := v0.heap.size) rfl
    generalize v0.alloc (.map #[] 0) = v1 at h2 ⊢
    refine hK.out _ _ h2.S (fun hHeld => ?_)
    clear hK K
    refine wpAnyH_ready (rs := [2, 3]) (by kernel_rfl) (by simp) ?_
    refine AllReadyH.cons rfl (fun K hK => ?_) ?_
    · go_simp
      go_at_call 27
      refine (HCL.out _ (HRD.out _ h2.bel)).mono ?_
      rintro e v2 ⟨G, capo, rfl, hoN, hBn, hcp⟩
      have h3 := h2.clone hoN hBn hcp
      go_simp
      refine hK.out _ _ h3.S (fun hHeld => ?_)
      clear hK K
      refine wpAnyH_ready (rs := [3]) (by kernel_rfl) (by simp) ?_
      refine AllReadyH.cons rfl (fun K hK => ?_) AllReadyH.nil
      go_simp
      have h4 := h3.claim (q := v2.heap.size) rfl
      generalize v2.alloc (.map #[] 0) = v3 at h4 ⊢
      refine hK.out _ _ h4.S (fun hHeld => ?_)
      clear hK K
      refine tkA (i := 5) (oi := ⟨_, _, _, _, _, _⟩) ?_
      simp only [putA, List.set]
      refine wpAnyH_ready (rs := [6]) (by kernel_rfl) (by simp) ?_
      refine AllReadyH.cons rfl (fun K hK => ?_) AllReadyH.nil
      go_simp
      have h5 := h4.men (q := v3.heap.size) rfl
      generalize v3.alloc (.cells #[.int .i64 (g.gr : Nat), .int .i64 (g.ino : Nat), .int .i64 (g.da : Nat), .slice (some ⟨b, o, none⟩) N cap, .slice (some ⟨G, 0, none⟩) N capo, .map (some v2.heap.size), .map (some v0.heap.size), .slice none 0 0] 69) = v4 at h5 ⊢
      refine hK.out _ _ h5.S (fun hHeld => ?_)
      clear hK K
      refine wpAnyH_ready (rs := [8]) (by kernel_rfl) (by simp) ?_
      refine AllReadyH.cons rfl (fun K hK => ?_) AllReadyH.nil
      have cY := h5.cellY rfl; have fY := h5.frozenY rfl
      go_simp
      refine hK.out _ _ (h5.store rfl _ rfl).1 (fun hHeld => ?_)
      clear hK K cY fY
      refine wpAnyH_done (by kernel_rfl) ?_ _
      go_wp2_with fail
      go_meet
      exact ⟨_, _, rfl, u0, hBu, (h5.store rfl _ rfl).2⟩
    refine AllReadyH.cons rfl (fun K hK => ?_) AllReadyH.nil
    go_simp
    have h3 := h2.claim (q := v1.heap.size) rfl
    generalize v1.alloc (.map #[] 0) = v2 at h3 ⊢
    refine hK.out _ _ h3.S (fun hHeld => ?_)
    clear hK K
    refine wpAnyH_ready (rs := [2]) (by kernel_rfl) (by simp) ?_
    refine AllReadyH.cons rfl (fun K hK => ?_) AllReadyH.nil
    go_simp
    go_at_call 27
    refine (HCL.out _ (HRD.out _ h3.bel)).mono ?_
    rintro e v3 ⟨G, capo, rfl, hoN, hBn, hcp⟩
    have h4 := h3.clone hoN hBn hcp
    go_simp
    refine hK.out _ _ h4.S (fun hHeld => ?_)
    clear hK K
    refine tkA (i := 5) (oi := ⟨_, _, _, _, _, _⟩) ?_
    simp only [putA, List.set]
    refine wpAnyH_ready (rs := [6]) (by kernel_rfl) (by simp) ?_
    refine AllReadyH.cons rfl (fun K hK => ?_) AllReadyH.nil
    go_simp
    have h5 := h4.men (q := v3.heap.size) rfl
    generalize v3.alloc (.cells #[.int .i64 (g.gr : Nat), .int .i64 (g.ino : Nat), .int .i64 (g.da : Nat), .slice (some ⟨b, o, none⟩) N cap, .slice (some ⟨G, 0, none⟩) N capo, .map (some v1.heap.size), .map (some v0.heap.size), .slice none 0 0] 69) = v4 at h5 ⊢
    refine hK.out _ _ h5.S (fun hHeld => ?_)
    clear hK K
    refine wpAnyH_ready (rs := [8]) (by kernel_rfl) (by simp) ?_
    refine AllReadyH.cons rfl (fun K hK => ?_) AllReadyH.nil
    have cY := h5.cellY rfl; have fY := h5.frozenY rfl
    go_simp
    refine hK.out _ _ (h5.store rfl _ rfl).1 (fun hHeld => ?_)
    clear hK K cY fY
    refine wpAnyH_done (by kernel_rfl) ?_ _
    go_wp2_with fail
    go_meet
    exact ⟨_, _, rfl, u0, hBu, (h5.store rfl _ rfl).2⟩
  case rest =>
    obtain ⟨YB, X, rfl, u0, hBu0, G, capo, CB, IB, hMd⟩ := hcut
    have hBwc := hBu0.trans (hMd.bel.mono hBu0.size)
    have hgl := own_len hMd.own
    have hsz0 := hBu0.size
    have hL : Lo w b X CB IB G capo := ⟨hbl, by have := hMd.lC; omega, by have := hMd.lI; omega, by have := hMd.lX; omega, by have := hgl.1; omega, hMd.kk⟩
    have cY := hMd.ptr.cell 0
    simp only [List.getElem?_cons_zero] at cY
    have lY := hMd.ptr.lt
    obtain ⟨PB, hPB⟩ : ∃ q, q = wc.heap.size := ⟨_, rfl⟩
    obtain ⟨wp, hwp⟩ : ∃ W : World, W = wc.alloc (.cells #[.func (.func 28) #[.pointer (some ⟨X, 0, none⟩)] #[], .func (.func 29) #[] #[.pointer (some ⟨YB, 0, none⟩)], .func (.func 31) #[.pointer (some ⟨X, 0, none⟩)] #[], .func (.func 32) #[.pointer (some ⟨X, 0, none⟩)] #[]] 1) := ⟨_, rfl⟩
    have hBp : Below wc.heap.size wc wp := by rw [hwp]; exact (Below.refl _ _).alloc (Nat.le_refl _) _
    have hKp : Kp g b o N cap w wp PB YB X q5 := by
      refine ⟨?_, hMd.ptr.below hBp hMd.ptr.lt, hMd.img.below hBp hMd.img.lt, hBwc.trans (hBp.mono hBwc.size)⟩
      rw [hwp, hPB]; exact Blk.newL _
    have hP0 : Pa0 g b o N cap f X CB IB G capo wp := by
      have hrd : RdB wp b o N f := HR.out.below hKp.bl
      exact ⟨hMd.men.below hBp hMd.men.lt, ⟨HOK.out, HN.out, hcap, hcb, hrd, hf⟩, MapG.below hMd.cl hBp hMd.cl.lt, MapG.below hMd.im hBp hMd.im.lt, hMd.ci, fun x B e => by cases e⟩
    have hO0 : OwnG b N G capo f wp := own_rebase (own_below hMd.own hBp) (by have := hgl.1; omega)
    have HK0 := Lib.hid hKp; have HP0 := Lib.hid hP0; have HO0 := Lib.hid hO0; have HL := Lib.hid hL; have HWP := Lib.hid hwp; have HPB := Lib.hid hPB
    have C1 := HP1.out PB YB X CB IB G capo q5 hL
    have C2 := HP2.out PB YB X CB IB G capo q5 hL
    obtain ⟨f1, hf1⟩ : ∃ F, F = putF f (d * 1024) 1024 (pbF D.E 32) := ⟨_, rfl⟩
    rw [← hf1] at C2
    have C3 := fun W => pass3_c (g := g) (b := b) (o := o) (N := N) (cap := cap) (f := f) (w := w) (PB := PB) (YB := YB) (X := X) (CB := CB) (IB := IB) (G := G) (capo := capo) (q5 := q5) HDS.out HN.out hL W f1
    obtain ⟨f2, hf2⟩ : ∃ F, F = inosF g D.ins f1 g.inodes := ⟨_, rfl⟩
    rw [← hf2] at C3
    have C4 := fun W => pass4_c (g := g) (b := b) (o := o) (N := N) (cap := cap) (f := f) (w := w) (PB := PB) (YB := YB) (X := X) (CB := CB) (IB := IB) (G := G) (capo := capo) (q5 := q5) HONE.out HDS.out HN.out hL W f2
    have hf3 : outD g f d D = putF f2 1024 1024 (headP g (fun i => (D.ins (i + 1)).isSome) (fun n => D.c (g.data n))) := by rw [hf2, hf1]; rfl
    rw [← hf3] at C4
    have HC1 := Lib.hid C1; have HC2 := Lib.hid C2; have HC3 := Lib.hid C3; have HC4 := Lib.hid C4
    have lwc := hBwc.size
    clear hMd hBwc h0 hS0 HRD hBu hBu0 hgl hsz0 hL hBp hKp hP0 hO0 hwp hPB hf1 hf2 hf3 C1 C2 C3 C4
    go_wp2
    rw [← HWP.out]
    simp only [← HPB.out]
    go_loopw [37] (fun i' wr => (i' = .int .i64 0 ∧ wr = wp) ∨ (i' = .int .i64 1 ∧ Kp g b o N cap w wr PB YB X q5 ∧ Pa1 g b o N cap c1 i1 f X CB IB G capo wr ∧ OwnG b N G capo f wr) ∨ (i' = .int .i64 2 ∧ Kp g b o N cap w wr PB YB X q5 ∧ Pa2 g b o N cap D f X CB IB G capo wr ∧ OwnG b N G capo f1 wr) ∨ (i' = .int .i64 3 ∧ Kp g b o N cap w wr PB YB X q5 ∧ Pa2 g b o N cap D f X CB IB G capo wr ∧ OwnG b N G capo f2 wr) ∨ (i' = .int .i64 4 ∧ Kp g b o N cap w wr PB YB X q5 ∧ Pa2 g b o N cap D f X CB IB G capo wr ∧ OwnG b N G capo (outD g f d D) wr)) (fun i' _ => 4 - (intOf i').toNat)
    case atStart => exact .inl ⟨rfl, rfl⟩
    case round =>
      rcases hrel with ⟨rfl, hw⟩ | ⟨rfl, hk, hp, hq⟩ | ⟨rfl, hk, hp, hq⟩ | ⟨rfl, hk, hp, hq⟩ | ⟨rfl, hk, hp, hq⟩
      · obtain rfl := hw.symm
        have c0 := HK0.out.pb.cell 0
        simp only [List.getElem?_cons_zero] at c0
        have lPB := HK0.out.pb.lt
        go_wp2_with (go_at_call 28; refine (HC1.out _ HK0.out HP0.out HO0.out).mono ?_; rintro e w6 ⟨rfl, hk6, hp6, ho6⟩)
        go_roundw
        case rel => exact .inr (.inl ⟨rfl, hk6, hp6, ho6⟩)
        case measure => simp [intOf]
      · have c1 := hk.pb.cell 1
        simp only [List.getElem?_cons_zero, List.getElem?_cons_succ] at c1
        have lPB := hk.pb.lt
        have HKK := Lib.hid hk; have HPP := Lib.hid hp; have HQQ := Lib.hid hq
        clear hk hp hq
        go_wp2_with (go_at_call 29; refine (HC2.out _ HKK.out HPP.out HQQ.out).mono ?_; rintro e w6 ⟨rfl, hk6, hp6, ho6⟩)
        go_roundw
        case rel => exact .inr (.inr (.inl ⟨rfl, hk6, hp6, ho6⟩))
        case measure => simp [intOf]
      · have c2 := hk.pb.cell 2
        simp only [List.getElem?_cons_zero, List.getElem?_cons_succ] at c2
        have lPB := hk.pb.lt
        have HKK := Lib.hid hk; have HPP := Lib.hid hp; have HQQ := Lib.hid hq
        clear hk hp hq
        go_wp2_with (go_at_call 31; refine (HC3.out _ HKK.out HPP.out HQQ.out).mono ?_; rintro e w6 ⟨rfl, hk6, hp6, ho6⟩)
        go_roundw
        case rel => exact .inr (.inr (.inr (.inl ⟨rfl, hk6, hp6, ho6⟩)))
        case measure => simp [intOf]
      · have c3 := hk.pb.cell 3
        simp only [List.getElem?_cons_zero, List.getElem?_cons_succ] at c3
        have lPB := hk.pb.lt
        have HKK := Lib.hid hk; have HPP := Lib.hid hp; have HQQ := Lib.hid hq
        clear hk hp hq
        go_wp2_with (go_at_call 32; refine (HC4.out _ HKK.out HPP.out HQQ.out).mono ?_; rintro e w6 ⟨rfl, hk6, hp6, ho6⟩)
        go_roundw
        case rel => exact .inr (.inr (.inr (.inr ⟨rfl, hk6, hp6, ho6⟩)))
        case measure => simp [intOf]
      · obtain ⟨B9, A9, k9, adr9, tk9, hA9, _, _⟩ := hp
        have y0 := hk.yb.cell 0; have x4 := hA9.men.cell 4
        have i0 := hk.img.cell 0; have i1 := hk.img.cell 1; have i2 := hk.img.cell 2; have i3 := hk.img.cell 3
        simp only [List.getElem?_cons_zero, List.getElem?_cons_succ] at y0 x4 i0 i1 i2 i3
        have lYB := hk.yb.lt; have lX9 := hA9.men.lt; have lq5 := hk.img.lt
        have hrb : RdB wr b o N f := HR.out.below hk.bl
        have hob := own_rdB hq
        have hGl := own_len hq
        obtain ⟨hGl1, hGl2, hGl3, hGl4⟩ := hGl
        unfold maxLen at hGl4
        obtain ⟨h, hh⟩ : ∃ F, F = outD g f d D := ⟨_, rfl⟩
        rw [← hh] at hob hq
        have hgok := HOK.out
        have hh256 : ∀ k, h k < 256 := by rw [hh]; exact HOUT.out
        have htl := hgok.total_le; have htp := hgok.total_pos
        obtain ⟨tot, htot⟩ : ∃ t, t = g.total := ⟨_, rfl⟩
        have TC := fun W => total_c g hgok W
        have IBK := fun W n hn => iblock_c g hgok b o N cap n HN.out hcap hcb hn W
        rw [← htot] at TC IBK htl htp
        have hNt : N = tot * 1024 := by rw [htot]; exact HN.out
        obtain ⟨wq, hwq⟩ : ∃ W : World, W = wr := ⟨_, rfl⟩
        subst hwq
        have HKK := Lib.hid hk; have HQQ := Lib.hid hq; have HRB := Lib.hid hrb; have HOB := Lib.hid hob; have HTC := Lib.hid TC; have HIB := Lib.hid IBK; have HH := Lib.hid hh; have HT := Lib.hid htot; have HNT := Lib.hid hNt; have H256 := Lib.hid hh256
        obtain ⟨ki, hki, hk0, hk1, hk2⟩ := info_parts infoInt
        have lq0 := hk.bl.size
        clear hk hq hrb hob TC IBK hh htot hNt hA9 hh256 HC1 HC2 HC3 HC4 HK0 HP0 HO0
        go_wp2_with (go_at_call 33; refine (HTC.out _).mono ?_; rintro e w6 ⟨rfl, hb6⟩; obtain ⟨hc6, hf6⟩ := bcell hb6; have hz6 := hb6.size)
        have HB6 := Lib.hid hb6
        clear hb6
        go_loopw [11, 47] (fun v i' wr => ∃ k : Nat, k ≤ tot ∧ i' = .int .i64 k ∧ wr.ownsRow w6.heap.size 3 1 v (unlike f h k).length ((unlike f h k).map fun n => .int .i64 (n : Nat)) ∧ Below w6.heap.size w6 wr) (fun _ i' _ => tot - (intOf i').toNat)
        case atStart => exact ⟨0, by omega, rfl, World.ownsRow_nil _ _ _ _, Below.refl _ _⟩
        case round =>
          obtain ⟨k, hk, rfl, hown, hB⟩ := hrel
          have hsz := hB.size
          by_cases hlt : k < tot
          · have cb := fun (B q : Nat) (hl : B < wq.heap.size) => ((hB.cell (p := ⟨B, q, none⟩) (by show B < w6.heap.size; omega)).trans (hc6 B q hl))
            have j0 := (cb _ 0 lq5).trans i0; have j1 := (cb _ 1 lq5).trans i1; have j2 := (cb _ 2 lq5).trans i2; have j3 := (cb _ 3 lq5).trans i3; have jy := (cb _ 0 lYB).trans y0; have jx := (cb _ 4 lX9).trans x4
            have hBq : Below wq.heap.size wq wr := HB6.out.trans (hB.mono hz6)
            have hrb := (HRB.out.below hBq).sub (k * 1024) 1024 (by have := HNT.out; omega)
            have hob := (HOB.out.below hBq).sub (k * 1024) 1024 (by have := HNT.out; omega)
            rw [Nat.zero_add] at hob
            have e1 : IntKind.i64.wrap ((k : Int) * 1024) = (k : Int) * 1024 := wrap_in _ (by omega) (by omega)
            have e2 : IntKind.i64.wrap ((k : Int) + 1) = (k : Int) + 1 := wrap_in _ (by omega) (by omega)
            have e3 : IntKind.i64.wrap (((k : Int) + 1) * 1024) = ((k : Int) + 1) * 1024 := wrap_in _ (by omega) (by omega)
            have t1 : ((k : Int) * 1024).toNat = k * 1024 := by omega
            have t2 : (((k : Int) + 1) * 1024).toNat = k * 1024 + 1024 := by omega
            have m1 : max (((k : Int) + 1) * 1024) 0 = ((k : Int) + 1) * 1024 := by omega
            have hkN : (k + 1) * 1024 ≤ N := by have := HNT.out; omega
            have hkc : (k + 1) * 1024 ≤ capo := by omega
            have b0 : (0 : Int) ≤ (k : Int) * 1024 := by omega
            have b00 : (0 : Int) ≤ ((k : Int) + 1) * 1024 := by omega
            have b1 : (k : Int) * 1024 ≤ ((k : Int) + 1) * 1024 := by omega
            have b4 : (k : Int) * 1024 ≤ (k : Int) * 1024 + 1024 := by omega
            have b2 : ((k : Int) + 1) * 1024 ≤ (capo : Int) := by omega
            have b3 : ¬ capo = k * 1024 := by omega
            have lq5r : q5 < wr.heap.size := by omega
            have lYBr : YB < wr.heap.size := by omega
            have lX9r : X < wr.heap.size := by omega
            have HO := Lib.hid hown; have HBB := Lib.hid hB; have HRB2 := Lib.hid hrb; have HOB2 := Lib.hid hob
            clear hown hB hrb hob cb hBq hc6 hf6
            go_wp2
            refine wp_region_held_drew (S := (fun w' => w'.cell? ⟨q5, 0, none⟩ = some (.int .i64 (g.gr : Nat)) ∧ w'.cell? ⟨q5, 1, none⟩ = some (.int .i64 (g.ino : Nat)) ∧ w'.cell? ⟨q5, 2, none⟩ = some (.int .i64 (g.da : Nat)) ∧ w'.cell? ⟨q5, 3, none⟩ = some (.slice (some ⟨b, o, none⟩) N cap) ∧ w'.cell? ⟨YB, 0, none⟩ = some (.pointer (some ⟨X, 0, none⟩)) ∧ w'.cell? ⟨X, 4, none⟩ = some (.slice (some ⟨G, 0, none⟩) N capo))) (by kernel_rfl) ⟨j0, j1, j2, j3, jy, jx⟩ (fun hHeld => ?_)
            refine tkA (i := 0) (oi := ⟨_, _, _, _, _, _⟩) ?_
            simp only [putA, List.set]
            refine tkA (i := 1) (oi := ⟨_, _, _, _, _, _⟩) ?_
            simp only [putA, List.set]
            refine tkA (i := 3) (oi := ⟨_, _, _, _, _, _⟩) ?_
            simp only [putA, List.set]
            refine tkA (i := 4) (oi := ⟨_, _, _, _, _, _⟩) ?_
            simp only [putA, List.set]
            refine tkA (i := 5) (oi := ⟨_, _, _, _, _, _⟩) ?_
            simp only [putA, List.set]
            refine tkA (i := 6) (oi := ⟨_, _, _, _, _, _⟩) ?_
            simp only [putA, List.set]
            refine tkA (i := 7) (oi := ⟨_, _, _, _, _, _⟩) ?_
            simp only [putA, List.set]
            refine tkA (i := 8) (oi := ⟨_, _, _, _, _, _⟩) ?_
            simp only [putA, List.set]
            refine tkA (i := 9) (oi := ⟨_, _, _, _, _, _⟩) ?_
            simp only [putA, List.set]
            refine tkA (i := 10) (oi := ⟨_, _, _, _, _, _⟩) ?_
            simp only [putA, List.set]
            refine tkA (i := 11) (oi := ⟨_, _, _, _, _, _⟩) ?_
            simp only [putA, List.set]
            refine tkA (i := 12) (oi := ⟨_, _, _, _, _, _⟩) ?_
            simp only [putA, List.set]
            refine wpAnyH_ready (rs := [2]) (by kernel_rfl) (by simp) ?_
            refine AllReadyH.cons rfl (fun K hK => ?_) AllReadyH.nil
            clear e1 e2 e3 t1 t2 m1 b0 b00 b1 b2 b3 b4
            go_simp
            go_at_call 35
            refine (HIB.out _ k hlt).mono ?_
            rintro e w7 ⟨rfl, hb7'⟩
            have hb7 : Below wr.heap.size wr w7 := (Below.refl wr.heap.size wr).drew.trans hb7'
            clear hb7'
            have hz7 : wr.heap.size ≤ w7.heap.size := hb7.size
            go_simp
            refine hK.out _ _ ?_ (fun hHeld => ?_)
            · exact ⟨(hb7.cell (p := ⟨_, _, none⟩) lq5r).trans j0, (hb7.cell (p := ⟨_, _, none⟩) lq5r).trans j1, (hb7.cell (p := ⟨_, _, none⟩) lq5r).trans j2, (hb7.cell (p := ⟨_, _, none⟩) lq5r).trans j3, (hb7.cell (p := ⟨_, _, none⟩) lYBr).trans jy, (hb7.cell (p := ⟨_, _, none⟩) lX9r).trans jx⟩
            clear hK K
            refine wpAnyH_ready (rs := [13]) (by kernel_rfl) (by simp) ?_
            refine AllReadyH.cons rfl (fun K hK => ?_) AllReadyH.nil
            go_simp
            go_at_call 34
            have BE := beq_c b (o + k * 1024) 1024 G (k * 1024) (capo - k * 1024) 1024 (fun j => f (k * 1024 + j)) (fun j => h (k * 1024 + j)) (fun j => hf _) (fun j => H256.out _) _ (HRB2.out.below hb7) (HOB2.out.below hb7)
            obtain ⟨qe, hqe⟩ : ∃ x, x = eqB (fun j => f (k * 1024 + j)) (fun j => h (k * 1024 + j)) 1024 := ⟨_, rfl⟩
            rw [← hqe] at BE
            refine BE.mono ?_
            clear BE
            rintro e w8 ⟨rfl, rfl⟩
            have HQE := Lib.hid hqe
            clear hqe
            go_simp
            refine hK.out _ _ hHeld (fun hHeld => ?_)
            clear hK K
            refine tkA (i := 14) (oi := ⟨_, _, _, _, _, _⟩) ?_
            simp only [putA, List.set]
            refine wpAnyH_done (by kernel_rfl) ?_ _
            have hown7 := own_below HO.out hb7
            have hB7 := HBB.out.trans (hb7.mono (by show w6.heap.size ≤ wr.heap.size; exact hsz))
            have hun : unlike f h (k + 1) = if qe = true then unlike f h k else unlike f h k ++ [k] := by
              unfold unlike
              rw [List.range_succ, List.filter_append, HQE.out]
              cases hq : eqB (fun j => f (k * 1024 + j)) (fun j => h (k * 1024 + j)) 1024 <;> simp [hq]
            have HUN := Lib.hid hun; have HO7 := Lib.hid hown7; have HB7 := Lib.hid hB7
            have hlen : (unlike f h k).length ≤ k := by
              have := List.length_filter_le (fun k => !eqB (fun j => f (k * 1024 + j)) (fun j => h (k * 1024 + j)) 1024) (List.range k)
              rw [List.length_range] at this; exact this
            have hs67 : w6.heap.size ≤ w7.heap.size := Nat.le_trans hsz hz7
            clear hun hown7 hB7 hHeld j0 j1 j2 j3 jy jx hb7
            cases qe with
            | true =>
              go_wp2
              go_roundw
              case rel => exact ⟨k + 1, by omega, by go_num, by rw [HUN.out]; exact HO7.out, HB7.out⟩
              case measure => simp [intOf]; omega
            | false =>
              go_wp2_with (at_builtin; refine app_own [_] rfl _ _ 45 rfl w6.heap.size 3 ki (.int .i64 0) 1 8 Tryz.underlying45 hki hk0 hk1 hk2 rfl (by decide) _ _ _ rfl (by exact .inl HO7.out) rfl rfl (by simp [Value.oneCell']) (by unfold maxLen; omega) (by omega) hs67 ?_; intro g9 cap9 w9 hown9 hgrow9 hat9 hlt9)
              go_roundw
              case rel =>
                refine ⟨k + 1, by omega, by go_num, ?_, HB7.out.trans (own_below_grown HO7.out hgrow9 hs67)⟩
                rw [HUN.out]
                simp only [Bool.false_eq_true, if_false, List.length_append, List.length_cons, List.length_nil, List.map_append, List.map_cons, List.map_nil]
                exact hown9
              case measure => simp [intOf]; omega
          · obtain rfl : k = tot := by omega
            have jy := ((hB.cell (p := ⟨YB, 0, none⟩) (by show YB < w6.heap.size; omega)).trans (hc6 YB 0 lYB)).trans y0
            have jx := ((hB.cell (p := ⟨X, 4, none⟩) (by show X < w6.heap.size; omega)).trans (hc6 X 4 lX9)).trans x4
            have hBq : Below wq.heap.size wq wr := HB6.out.trans (hB.mono hz6)
            have hQ := own_below HQQ.out hBq
            have hBw : Below w.heap.size w wr := HKK.out.bl.trans (hBq.mono lq0)
            have HO := Lib.hid hown; have HQ2 := Lib.hid hQ; have HBW2 := Lib.hid hBw
            have lYBr : YB < wr.heap.size := by omega
            have lX9r : X < wr.heap.size := by omega
            clear hown hQ hBw hBq hB hc6 hf6 hlt
            go_wp2
            go_ret3
            have hgb := (own_len HQ2.out).1
            have hlg := HL.out.g
            refine ⟨G, capo, _, rfl, ?_, ?_, HBW2.out⟩
            · rw [← HH.out]; exact own_rebase HQ2.out hlg
            · rw [← HH.out, ← HT.out]
              exact own_mono HO.out (by omega)
theorem rep_c (g : Geo) (b o N cap d : Nat) (f : Nat → Nat) (w : World) (hg : g = supG f) (hr : RdB w b o N f) (hf : ∀ k, f k < 256) (hN : N = g.total * 1024) (hcap : N ≤ cap) (hcb : cap ≤ 9223372036854775807) (hof : ofOk f N = true) (hR : RepOk g f d) :
    Calls Tryz.prog 13 #[.slice (some ⟨b, o, none⟩) N cap] w fun e w' => ∃ G capo v, e = .returned (.tuple #[.slice (some ⟨G, 0, none⟩) N capo, v, .bool true]) ∧
      w'.ownsRow w.heap.size 5 1 (.slice (some ⟨G, 0, none⟩) N capo) N (bytesL (repO g f d) N) ∧
      w'.ownsRow w.heap.size 3 1 v (unlike f (repO g f d) g.total).length ((unlike f (repO g f d) g.total).map fun n => .int .i64 (n : Nat)) ∧ Below w.heap.size w w' :=
  rep_g (repD g f d) (repC g f) (mk1 g f d) g b o N cap d f w hg hr hf hN hcap hcb hof hR.ok hR.one (hR.ds hf) (repO_lt g f d hf) (fun _ _ _ _ _ _ _ _ hL W => pass1_c hR hL W) (fun _ _ _ _ _ _ _ _ hL W => pass2_c hR hf hN hL W)
end Go.Proofs.YtbeabehebenocaaGreatDoor
end
