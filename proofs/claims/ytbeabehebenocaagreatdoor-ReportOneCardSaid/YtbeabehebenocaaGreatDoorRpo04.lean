/- Part of the road to RpCard: RefB, RefC, IRead. -/
import Derived.Test.YtbeabehebenocaaGreatDoorRpo01
import Derived.Test.YtbeabehebenocaaGreatDoorRpo03
set_option linter.all false
set_option linter.unusedSimpArgs false
set_option linter.unusedVariables false
set_option linter.unusedSectionVars false
section
/- The reference's superblock and heads. -/
namespace Go.Proofs.YtbeabehebenocaaGreatDoor
open Go.RowKit

theorem own_has {w : World} {base e n : Nat} {v : Value} {f : Nat → Nat} (h : w.ownsRow base e 1 v n (bytesL f n)) (hn : 0 < n) : ∃ g cap, v = .slice (some ⟨g, 0, none⟩) n cap := by
  obtain ⟨g, cap, hv, _⟩ := own_rd h hn
  exact ⟨g, cap, hv⟩
theorem own_base {w : World} {base e size n : Nat} {v : Value} {xs : List Value} (h : w.ownsRow base e size v n xs) : ∀ k, v.ownBlock = some k → base ≤ k := by
  intro k hk
  obtain ⟨hl, h⟩ := h
  rcases h with ⟨hv, _⟩ | ⟨g', cap', cur, hv, hb, _⟩
  · subst hv; cases hk
  · subst hv; cases hk; exact hb

set_option maxRecDepth 100000 in
set_option maxHeartbeats 2000000 in
theorem rsuper_c (g : Geo) (hg : g.Ok) (w : World) : Calls Tryz.prog 17 #[.agg #[.int .i64 g.gr, .int .i64 g.ino, .int .i64 g.da]] w fun e w' => ∃ G cap, e = .returned (.slice (some ⟨G, 0, none⟩) 1024 cap) ∧ w'.ownsRow w.heap.size 5 1 (.slice (some ⟨G, 0, none⟩) 1024 cap) 1024 (bytesL (superF g) 1024) ∧ Below w.heap.size w w' := by
  obtain ⟨i0, hi, hz0, hz1, hz2⟩ := info_parts info8
  obtain ⟨g1, g2, i1, i2, d1, d2⟩ := id hg
  have kc := fun (w : World) (C : Array Value) (n c : Nat) => Lib.run_convert_bytes_const (P := Tryz.prog) w 25 5 C n c Tryz.underlying25 Tryz.underlying5
  go_enter Tryz.func17, Tryz.ntmps17
  go_wp2
  have gk := Blk.newL (e := 24) (w := w) [.int .i64 g.gr, .int .i64 g.ino, .int .i64 g.da]
  have hS := (⟨gk.cell 0, gk.cell 1, gk.cell 2⟩ : _ ∧ _ ∧ _)
  simp only [List.getElem?_cons_zero, List.getElem?_cons_succ] at hS
  refine wp_region_held_drew (S := (fun w' => w'.cell? ⟨w.heap.size, 0, none⟩ = some (.int .i64 (g.gr : Nat)) ∧ w'.cell? ⟨w.heap.size, 1, none⟩ = some (.int .i64 (g.ino : Nat)) ∧ w'.cell? ⟨w.heap.size, 2, none⟩ = some (.int .i64 (g.da : Nat)))) (by kernel_rfl) hS (fun hHeld => ?_)
  refine tkA (i := 2) (oi := ⟨_, _, _, _, _, _⟩) ?_
  simp only [putA, List.set]
  refine tkA (i := 3) (oi := ⟨_, _, _, _, _, _⟩) ?_
  simp only [putA, List.set]
  refine tkA (i := 5) (oi := ⟨_, _, _, _, _, _⟩) ?_
  simp only [putA, List.set]
  refine tkA (i := 6) (oi := ⟨_, _, _, _, _, _⟩) ?_
  simp only [putA, List.set]
  refine tkA (i := 8) (oi := ⟨_, _, _, _, _, _⟩) ?_
  simp only [putA, List.set]
  refine tkA (i := 9) (oi := ⟨_, _, _, _, _, _⟩) ?_
  simp only [putA, List.set]
  refine wpAnyH_ready (rs := [0]) (by kernel_rfl) (by simp) ?_
  refine AllReadyH.cons rfl (fun K hK => ?_) AllReadyH.nil
  go_simp
  have al : ∀ (W : World) (ob : Obj) (k q : Nat), k < W.heap.size → (W.alloc ob).cell? ⟨k, q, none⟩ = W.cell? ⟨k, q, none⟩ := fun W ob k q hk => World.cell?_of_block (w := W) (Below.heap_alloc _ _ _ hk)
  have hlw : w.heap.size < (w.alloc (.cells #[.int .i64 g.gr, .int .i64 g.ino, .int .i64 g.da] 24)).heap.size := by simp
  refine hK.out _ _ ?_ (fun hHeld => ?_)
  · exact ⟨(al _ _ _ _ hlw).trans hS.1, (al _ _ _ _ hlw).trans hS.2.1, (al _ _ _ _ hlw).trans hS.2.2⟩
  clear hK K
  refine wpAnyH_ready (rs := [1]) (by kernel_rfl) (by simp) ?_
  refine AllReadyH.cons rfl (fun K hK => ?_) AllReadyH.nil
  have kc1 : (Go.convert 25 25 (.slice (some ⟨w.heap.size + 1, 0, none⟩) 8 8)).run Tryz.prog (((w.alloc (.cells #[.int .i64 g.gr, .int .i64 g.ino, .int .i64 g.da] 24)).alloc (.cells #[.int .u8 76, .int .u8 79, .int .u8 67, .int .u8 75, .int .u8 71, .int .u8 65, .int .u8 84, .int .u8 69] 5)).drew) = .ok (.slice (some ⟨w.heap.size + 1, 0, none⟩) 8 8) (((w.alloc (.cells #[.int .i64 g.gr, .int .i64 g.ino, .int .i64 g.da] 24)).alloc (.cells #[.int .u8 76, .int .u8 79, .int .u8 67, .int .u8 75, .int .u8 71, .int .u8 65, .int .u8 84, .int .u8 69] 5 (8, 9))).drew) := by
    have h := kc (w.alloc (.cells #[.int .i64 g.gr, .int .i64 g.ino, .int .i64 g.da] 24)).drew #[.int .u8 76, .int .u8 79, .int .u8 67, .int .u8 75, .int .u8 71, .int .u8 65, .int .u8 84, .int .u8 69] 8 8
    have e1 : (w.alloc (.cells #[.int .i64 g.gr, .int .i64 g.ino, .int .i64 g.da] 24)).drew.heap.size = w.heap.size + 1 := by simp
    rw [e1] at h
    exact h
  go_simp
  have hm0 : RdB (((w.alloc (.cells #[.int .i64 g.gr, .int .i64 g.ino, .int .i64 g.da] 24)).alloc (.cells #[.int .u8 76, .int .u8 79, .int .u8 67, .int .u8 75, .int .u8 71, .int .u8 65, .int .u8 84, .int .u8 69] 5 (8, 9))).drew) (w.heap.size + 1) 0 8 markF := by
    have h := mark_rd (w.alloc (.cells #[.int .i64 g.gr, .int .i64 g.ino, .int .i64 g.da] 24))
    rw [World.size_alloc] at h
    exact h.below (Below.refl _ _).drew
  have hB0 : Below w.heap.size w (((w.alloc (.cells #[.int .i64 g.gr, .int .i64 g.ino, .int .i64 g.da] 24)).alloc (.cells #[.int .u8 76, .int .u8 79, .int .u8 67, .int .u8 75, .int .u8 71, .int .u8 65, .int .u8 84, .int .u8 69] 5 (8, 9))).drew) := (((Below.refl _ w).alloc (Nat.le_refl _) _).alloc (by simp) _).drew
  have hz0' : w.heap.size + 1 < (((w.alloc (.cells #[.int .i64 g.gr, .int .i64 g.ino, .int .i64 g.da] 24)).alloc (.cells #[.int .u8 76, .int .u8 79, .int .u8 67, .int .u8 75, .int .u8 71, .int .u8 65, .int .u8 84, .int .u8 69] 5 (8, 9))).drew).heap.size := by simp
  have hS0 : (fun w' => w'.cell? ⟨w.heap.size, 0, none⟩ = some (.int .i64 (g.gr : Nat)) ∧ w'.cell? ⟨w.heap.size, 1, none⟩ = some (.int .i64 (g.ino : Nat)) ∧ w'.cell? ⟨w.heap.size, 2, none⟩ = some (.int .i64 (g.da : Nat))) (((w.alloc (.cells #[.int .i64 g.gr, .int .i64 g.ino, .int .i64 g.da] 24)).alloc (.cells #[.int .u8 76, .int .u8 79, .int .u8 67, .int .u8 75, .int .u8 71, .int .u8 65, .int .u8 84, .int .u8 69] 5 (8, 9))).drew) := ⟨(al _ _ _ _ hlw).trans hS.1, (al _ _ _ _ hlw).trans hS.2.1, (al _ _ _ _ hlw).trans hS.2.2⟩
  refine hK.out _ _ ?_ (fun hHeld => ?_)
  · exact hS0
  clear hK K kc1
  generalize hW0 : ((w.alloc (.cells #[.int .i64 g.gr, .int .i64 g.ino, .int .i64 g.da] 24)).alloc (.cells #[.int .u8 76, .int .u8 79, .int .u8 67, .int .u8 75, .int .u8 71, .int .u8 65, .int .u8 84, .int .u8 69] 5 (8, 9))).drew = W0 at *
  clear hW0 kc
  refine wpAnyH_ready (rs := [4]) (by kernel_rfl) (by simp) ?_
  refine AllReadyH.cons rfl (fun K hK => ?_) AllReadyH.nil
  go_simp
  go_at_call 24
  refine (rput2_c (w.heap.size + 1) 8 g.gr 4 _ (markF) _ (by omega) (by omega) (by omega) (by omega) (by omega) (src_of_rd hm0 (by omega))).mono ?_
  rintro e w4 ⟨v4, rfl, ho4, hs4, hm4⟩
  have hz4 := hm4.size
  have hB4 := Below.mods hB0 hm4 (fun i hi e => (by have h0 : w.heap.size + 1 = _ := Option.some.inj e; omega)) (by omega)
  go_simp
  refine hK.out _ _ ?_ (fun hHeld => ?_)
  · exact ⟨(hm4.cell (by omega) (fun e => (by have h0 : w.heap.size + 1 = _ := Option.some.inj e; omega))).trans hS0.1, (hm4.cell (by omega) (fun e => (by have h0 : w.heap.size + 1 = _ := Option.some.inj e; omega))).trans hS0.2.1, (hm4.cell (by omega) (fun e => (by have h0 : w.heap.size + 1 = _ := Option.some.inj e; omega))).trans hS0.2.2⟩
  clear hK K
  refine wpAnyH_ready (rs := [7]) (by kernel_rfl) (by simp) ?_
  refine AllReadyH.cons rfl (fun K hK => ?_) AllReadyH.nil
  go_simp
  go_at_call 24
  refine (rput2_c (w.heap.size + 1) 12 g.ino 4 _ (superK g 1) _ (by omega) (by omega) (by omega) (by omega) (by omega) (.inl ho4)).mono ?_
  rintro e w7 ⟨v7, rfl, ho7, hs7, hm7⟩
  have hz7 := hm7.size
  have hB7 := Below.mods hB4 hm7 (fun i hi e => (by have h0 := own_base ho4 _ e; omega)) (by omega)
  go_simp
  refine hK.out _ _ ?_ (fun hHeld => ?_)
  · exact ⟨(hm7.cell (by omega) (fun e => (by have h0 := own_base ho4 _ e; omega))).trans hHeld.1, (hm7.cell (by omega) (fun e => (by have h0 := own_base ho4 _ e; omega))).trans hHeld.2.1, (hm7.cell (by omega) (fun e => (by have h0 := own_base ho4 _ e; omega))).trans hHeld.2.2⟩
  clear hK K
  refine wpAnyH_ready (rs := [10]) (by kernel_rfl) (by simp) ?_
  refine AllReadyH.cons rfl (fun K hK => ?_) AllReadyH.nil
  go_simp
  go_at_call 24
  refine (rput2_c (w.heap.size + 1) 16 g.da 4 _ (superK g 2) _ (by omega) (by omega) (by omega) (by omega) (by omega) (.inl ho7)).mono ?_
  rintro e w10 ⟨v10, rfl, ho10, hs10, hm10⟩
  have hz10 := hm10.size
  have hB10 := Below.mods hB7 hm10 (fun i hi e => (by have h0 := own_base ho7 _ e; omega)) (by omega)
  go_simp
  refine hK.out _ _ ?_ (fun hHeld => ?_)
  · exact ⟨(hm10.cell (by omega) (fun e => (by have h0 := own_base ho7 _ e; omega))).trans hHeld.1, (hm10.cell (by omega) (fun e => (by have h0 := own_base ho7 _ e; omega))).trans hHeld.2.1, (hm10.cell (by omega) (fun e => (by have h0 := own_base ho7 _ e; omega))).trans hHeld.2.2⟩
  clear hK K
  refine tkA (i := 11) (oi := ⟨_, _, _, _, _, _⟩) ?_
  simp only [putA, List.set]
  refine wpAnyH_done (by kernel_rfl) ?_ _
  clear hHeld hS hS0 hm0 hB0 hB4 hB7 hm4 hm7 hm10 hs4 hs7 hs10 ho4 ho7
  obtain ⟨G, cap, rfl⟩ := own_has ho10 (by omega)
  obtain ⟨F, hF⟩ : ∃ F, F = superK g 3 := ⟨_, rfl⟩
  have hf20 : ∀ k, F k < 256 := by rw [hF]; exact superK_lt g 3
  replace ho10 : w10.ownsRow (w.heap.size + 1) 5 1 (.slice (some ⟨G, 0, none⟩) 20 cap) 20 (bytesL F 20) := by rw [hF]; exact ho10
  have HF := Lib.hid hF
  clear hF
  have hsm := sumF_le (F) hf20
  have HO := Lib.hid ho10; have HB := Lib.hid hB10
  have hL := (own_len ho10).2.1
  clear ho10 hB10
  go_wp2
  go_loop [4, 5] (fun t i => ∃ k : Nat, k ≤ 20 ∧ i = .int .i64 k ∧ t = .int .i64 (sumF (F) k : Nat)) (fun _ i => 20 - (intOf i).toNat)
  case atStart => exact ⟨0, by omega, rfl, rfl⟩
  case round =>
    obtain ⟨k, hk, rfl, rfl⟩ := hrel
    have h1 := hsm k
    by_cases hlt : k < 20
    · have hc := (own_get HO.out hlt).1
      have h3 := hf20 k
      have h2 : Hid (sumF (F) (k + 1) = sumF (F) k + F k) := Lib.hid rfl
      clear hsm hf20
      go_wp2
      go_round
      case rel => exact ⟨k + 1, by omega, by go_num, by rw [h2.out]; simp⟩
      case measure => simp [intOf]; omega
    · obtain rfl : k = 20 := by omega
      clear hsm
      go_wp2_with (first
        | (go_at_call 24; refine (rput2_c (w.heap.size + 1) 20 (sumF (F) 20) 4 _ (F) _ (by omega) (by omega) (by omega) (by omega) (by omega) (.inl HO.out)).mono ?_; rintro e w11 ⟨v11, rfl, ho11, hs11, hm11⟩; have hz11 := hm11.size)
        | (go_at_call 25; refine (rfill_c (w.heap.size + 1) 24 1024 _ (catF 20 (F) (byteN (sumF (F) 20))) _ (by omega) (by omega) (by omega) (by omega) ho11).mono ?_; rintro e w12 ⟨v12, rfl, ho12, hs12, hm12⟩))
      obtain ⟨G2, cap2, rfl⟩ := own_has ho12 (by omega)
      go_ret
      have hB11 := Below.mods HB.out hm11 (fun i hi e => by have := own_base HO.out i e; omega) (by omega)
      have hB12 := Below.mods hB11 hm12 (fun i hi e => by have := own_base ho11 i e; omega) (by omega)
      refine ⟨_, _, rfl, own_mono (base := w.heap.size + 1) ?_ (by omega), hB12⟩
      have e2 : bytesL (superF g) 1024 = bytesL (catF 24 (catF 20 (superK g 3) (byteN (sumF (superK g 3) 20))) fun _ => 0) 1024 := bytesL_congr fun k hk => by
        unfold superF putF
        by_cases h : k < 24
        · rw [if_pos (by omega)]; unfold catF; rw [if_pos h]; rfl
        · rw [if_neg (by omega)]; unfold catF; rw [if_neg h]
      rw [e2, ← HF.out]
      exact ho12
end Go.Proofs.YtbeabehebenocaaGreatDoor
end

section
/- The reference's heads. -/
namespace Go.Proofs.YtbeabehebenocaaGreatDoor
open Go.RowKit

/-- a head as the reference packs it -/
def rheadF (g : Geo) (k : Nat) (fi : Nat → Nat) (n1 : Nat) (fd : Nat → Nat) (n2 : Nat) : Nat → Nat :=
  catF 64 (catF 16 (catF 4 (catF 2 (chr ⟨#[67, 71]⟩) (byteN k)) (fun _ => 0)) (rowB fi n1 (16 * g.ino))) (rowB fd n2 g.da)
theorem own_rdB {w : World} {base e g n cap : Nat} {f : Nat → Nat} (h : w.ownsRow base e 1 (.slice (some ⟨g, 0, none⟩) n cap) n (bytesL f n)) : RdB w g 0 n f := fun k hk => by
  rw [Nat.zero_add]; exact (own_get h hk).1

set_option maxRecDepth 100000 in
set_option maxHeartbeats 2000000 in
theorem rphead_c (g : Geo) (hg : g.Ok) (k b1 n1 c1 b2 n2 c2 : Nat) (fi fd : Nat → Nat) (hk : k < 65536) (hfi : ∀ j, fi j < 256) (hfd : ∀ j, fd j < 256) (w : World) (h1 : RdB w b1 0 n1 fi) (h2 : RdB w b2 0 n2 fd) (hn1 : 0 < n1) (hn2 : 0 < n2) :
    Calls Tryz.prog 18 #[.agg #[.int .i64 g.gr, .int .i64 g.ino, .int .i64 g.da], .int .i64 k, .slice (some ⟨b1, 0, none⟩) n1 c1, .slice (some ⟨b2, 0, none⟩) n2 c2] w fun e w' => ∃ G cap, e = .returned (.slice (some ⟨G, 0, none⟩) 1024 cap) ∧ w'.ownsRow w.heap.size 5 1 (.slice (some ⟨G, 0, none⟩) 1024 cap) 1024 (bytesL (rheadF g k fi n1 fd n2) 1024) ∧ Below w.heap.size w w' := by
  obtain ⟨i0, hi, hz0, hz1, hz2⟩ := info_parts info8
  obtain ⟨g1, g2, i1, i2, d1, d2⟩ := id hg
  have lb1 := lt_of_cell (h1 0 hn1); have lb2 := lt_of_cell (h2 0 hn2)
  have kc := fun (w : World) (C : Array Value) (n c : Nat) => Lib.run_convert_bytes_const (P := Tryz.prog) w 25 5 C n c Tryz.underlying25 Tryz.underlying5
  have kc1 := kc (w.alloc (.cells #[.int .i64 g.gr, .int .i64 g.ino, .int .i64 g.da] 24)) #[.int .u8 67, .int .u8 71] 2 2
  simp only [World.size_alloc] at kc1
  clear kc
  have H1 := Lib.hid h1; have H2 := Lib.hid h2
  have hm0 : RdB ((w.alloc (.cells #[.int .i64 g.gr, .int .i64 g.ino, .int .i64 g.da] 24)).alloc (.cells #[.int .u8 67, .int .u8 71] 5 (2, 3))) (w.heap.size + 1) 0 2 (chr ⟨#[67, 71]⟩) := fun j hj => by
    rw [Nat.zero_add, cell_of_row _ (w.heap.size + 1) j #[.int .u8 67, .int .u8 71] 5 (2, 3) (by have h0 := heap_alloc_new (w.alloc (.cells #[.int .i64 g.gr, .int .i64 g.ino, .int .i64 g.da] 24)) (.cells #[.int .u8 67, .int .u8 71] 5 (2, 3)); rw [World.size_alloc] at h0; exact h0)]
    match j, hj with
    | 0, _ | 1, _ => rfl
  have HM0 := Lib.hid hm0
  clear h1 h2 hm0
  go_enter Tryz.func18, Tryz.ntmps18
  go_wp2_with (first
    | (go_at_call 24; refine (rput2_c (w.heap.size + 1) 2 k 2 _ (chr ⟨#[67, 71]⟩) _ (by omega) (by omega) (by omega) (by omega) (by simp) (src_of_rd HM0.out (by omega))).mono ?_; rintro e w4 ⟨v4, rfl, ho4, hs4, hm4⟩; have hz4 := hm4.size)
    | (go_at_call 25; refine (rfill_c (w.heap.size + 1) 4 16 _ _ _ (by omega) (by omega) (by omega) (by simp at hz4; omega) ho4).mono ?_; rintro e w5 ⟨v5, rfl, ho5, hs5, hm5⟩; have hz5 := hm5.size)
    | (at_make; refine mk_one _ rfl _ _ 25 rfl 5 i0 (.int .u8 0) 1 Tryz.underlying25 hi hz0 hz1 hz2 rfl _ _ _ _ 48 rfl rfl rfl rfl (by omega) (by unfold maxLen; omega) ?_; intro w6 hblk hgr; rw [zeros_bytes] at hblk; have HBK := Lib.hid hblk; have HGR := Lib.hid hgr; clear hblk hgr))
  obtain ⟨G5, cap5, rfl⟩ := own_has ho5 (by omega)
  have gk : Blk 24 ((w.alloc (.cells #[.int .i64 g.gr, .int .i64 g.ino, .int .i64 g.da] 24)).alloc (.cells #[.int .u8 67, .int .u8 71] 5 (2, 3))) w.heap.size [.int .i64 g.gr, .int .i64 g.ino, .int .i64 g.da] := (Blk.newL _).alloc _
  have gk4 := gk.mods hm4 (fun e => by have h0 : w.heap.size + 1 = w.heap.size := Option.some.inj e; omega)
  have gk5 := gk4.mods hm5 (fun e => by have h0 := own_base ho4 _ e; omega)
  have hB0 : Below w.heap.size w ((w.alloc (.cells #[.int .i64 g.gr, .int .i64 g.ino, .int .i64 g.da] 24)).alloc (.cells #[.int .u8 67, .int .u8 71] 5 (2, 3))) := ((Below.refl _ w).alloc (Nat.le_refl _) _).alloc (by simp) _
  have hB4 := Below.mods hB0 hm4 (fun i hi e => by have h0 : w.heap.size + 1 = i := Option.some.inj e; omega) (by simp; omega)
  have hB5 := Below.mods hB4 hm5 (fun i hi e => by have h0 := own_base ho4 _ e; omega) (by simp at hz4; omega)
  have hB56 : Below w5.heap.size w5 w6 := (Below.refl _ _).grown HGR.out (Nat.le_refl _) (fun k e => by cases e)
  have gk6 := gk5.below hB56 gk5.lt
  have ho6 := own_below ho5 hB56
  have hB6 := hB5.trans (hB56.mono hB5.size)
  have k0 := gk6.cell 0; have k1 := gk6.cell 1; have k2 := gk6.cell 2
  simp only [List.getElem?_cons_zero, List.getElem?_cons_succ] at k0 k1 k2
  have rx0 : RdB w6 w5.heap.size 0 48 (rowB fi n1 0) := BlkB_rd HBK.out
  have H6 := Lib.hid ho6; have HB6 := Lib.hid hB6; have HGK := Lib.hid gk6
  have l6 := gk6.lt
  have l6a := hB6.size
  have l65 := hB56.size
  have l6x := HBK.out.lt
  clear gk gk4 gk5 gk6 hB0 hB4 hB5 hB56 ho4 ho5 ho6 hs4 hs5 hm4 hm5 hB6 kc1 hz4 hz5 HGR HBK HM0
  go_loopw [10, 11] (fun x i wr => ∃ (j G cap : Nat), j ≤ 16 * g.ino ∧ i = .int .i64 j ∧ x = .slice (some ⟨G, 0, none⟩) 48 cap ∧ RdB wr G 0 48 (rowB fi n1 j) ∧ Below w6.heap.size w6 wr) (fun _ i _ => 16 * g.ino - (intOf i).toNat)
  case atStart => exact ⟨0, _, _, by omega, rfl, rfl, rx0, Below.refl _ _⟩
  case round =>
    obtain ⟨j, G, capx, hj, rfl, rfl, hrx, hBw⟩ := hrel
    have hsz := hBw.size
    have q0 := (hBw.cell (p := ⟨w.heap.size, 0, none⟩) l6).trans k0; have q1 := (hBw.cell (p := ⟨w.heap.size, 1, none⟩) l6).trans k1; have q2 := (hBw.cell (p := ⟨w.heap.size, 2, none⟩) l6).trans k2
    by_cases hlt : j < 16 * g.ino
    · have hq1 : ((j : Nat) : Int) < 16 * (g.ino : Int) := by omega
      have BG := fun W (hW : RdB W b1 0 n1 fi) => rbget_c b1 0 n1 c1 j fi W hfi hW (by omega)
      obtain ⟨bt, hbt⟩ : ∃ bt, bt = getBit fi n1 j := ⟨_, rfl⟩
      rw [← hbt] at BG
      have WG := fun W (hW : RdB W G 0 48 (rowB fi n1 j)) => rwith_c G 0 48 capx j (rowB fi n1 j) bt W (rowB_byte _ _ _) hW (by omega) (by omega) (by omega)
      have e1 : withB (rowB fi n1 j) j bt = rowB fi n1 (j + 1) := by rw [hbt]; exact funext (rowB_with fi n1 j)
      rw [e1] at WG
      have hr1 : RdB wr b1 0 n1 fi := (H1.out.below HB6.out).below (hBw.mono (by omega))
      have HBG := Lib.hid BG; have HWG := Lib.hid WG; have HR1 := Lib.hid hr1; have HRX := Lib.hid hrx; have HBT := Lib.hid hbt
      clear BG WG hr1 hrx hbt e1
      go_wp2_with (first
        | (go_at_call 44; refine (HBG.out _ HR1.out).mono ?_; rintro e w7 ⟨rfl, rfl⟩)
        | (go_at_call 43; refine (HWG.out _ HRX.out).mono ?_; rintro e w8 ⟨v8, rfl, ho8, hb8⟩))
      go_roundw
      case rel =>
        obtain ⟨G8, cap8, rfl⟩ := own_has ho8 (by omega)
        exact ⟨j + 1, G8, cap8, by omega, by go_num, rfl, own_rdB ho8, hBw.trans (hb8.mono hsz)⟩
      case measure => simp [intOf]; omega
    · obtain rfl : j = 16 * g.ino := by omega
      have h6w := own_below H6.out hBw
      have hr2 : RdB wr b2 0 n2 fd := (H2.out.below HB6.out).below (hBw.mono (by omega))
      have HRX := Lib.hid hrx; have HR2 := Lib.hid hr2; have H6W := Lib.hid h6w; have HBW := Lib.hid hBw; have HGW := Lib.hid (HGK.out.below hBw l6)
      clear hrx hr2 h6w hBw hlt
      go_wp2_with (at_make; refine mk_one _ rfl _ _ 25 rfl 5 i0 (.int .u8 0) 1 Tryz.underlying25 hi hz0 hz1 hz2 rfl _ _ _ _ 960 rfl rfl rfl rfl (by omega) (by unfold maxLen; omega) ?_; intro w9 hblk hgr; rw [zeros_bytes] at hblk; have HBK := Lib.hid hblk; have HGR := Lib.hid hgr; clear hblk hgr)
      have hB9 : Below wr.heap.size wr w9 := (Below.refl _ _).grown HGR.out (Nat.le_refl _) (fun k e => by cases e)
      have gk9 := HGW.out.below hB9 (by omega)
      have p0 := gk9.cell 0; have p1 := gk9.cell 1; have p2 := gk9.cell 2
      simp only [List.getElem?_cons_zero, List.getElem?_cons_succ] at p0 p1 p2
      have h69 := own_below H6W.out hB9
      have hrx9 := HRX.out.below hB9
      have hr29 := HR2.out.below hB9
      have hBT := HB6.out.trans (HBW.out.mono l6a)
      have hBT9 := hBT.trans (hB9.mono hBT.size)
      have ry0 : RdB w9 wr.heap.size 0 960 (rowB fd n2 0) := BlkB_rd HBK.out
      have l9 := gk9.lt; have s9 := hBT9.size
      have s69 : w6.heap.size ≤ w9.heap.size := Nat.le_trans HBW.out.size hB9.size
      have H69 := Lib.hid h69; have HRX9 := Lib.hid hrx9; have HR29 := Lib.hid hr29; have HB9 := Lib.hid hBT9
      clear h69 hrx9 hr29 hBT9 hBT hB9 gk9 HBK HGR q0 q1 q2 k0 k1 k2
      obtain ⟨wm, hwm⟩ : ∃ wm : World, wm = wr := ⟨_, rfl⟩
      subst hwm
      go_loopw [12, 13] (fun y i wr => ∃ (j G cap : Nat), j ≤ g.da ∧ i = .int .i64 j ∧ y = .slice (some ⟨G, 0, none⟩) 960 cap ∧ RdB wr G 0 960 (rowB fd n2 j) ∧ w6.heap.size ≤ G ∧ Below w9.heap.size w9 wr) (fun _ i _ => g.da - (intOf i).toNat)
      case atStart => exact ⟨0, _, _, by omega, rfl, rfl, ry0, by omega, Below.refl _ _⟩
      case round =>
        obtain ⟨j, G', capy, hj, rfl, rfl, hry, hG6, hBw⟩ := hrel
        have hsz := hBw.size
        have q0 := (hBw.cell (p := ⟨w.heap.size, 0, none⟩) l9).trans p0; have q1 := (hBw.cell (p := ⟨w.heap.size, 1, none⟩) l9).trans p1; have q2 := (hBw.cell (p := ⟨w.heap.size, 2, none⟩) l9).trans p2
        by_cases hlt : j < g.da
        · have BG := fun W (hW : RdB W b2 0 n2 fd) => rbget_c b2 0 n2 c2 j fd W hfd hW (by omega)
          obtain ⟨bt, hbt⟩ : ∃ bt, bt = getBit fd n2 j := ⟨_, rfl⟩
          rw [← hbt] at BG
          have WG := fun W (hW : RdB W G' 0 960 (rowB fd n2 j)) => rwith_c G' 0 960 capy j (rowB fd n2 j) bt W (rowB_byte _ _ _) hW (by omega) (by omega) (by omega)
          have e1 : withB (rowB fd n2 j) j bt = rowB fd n2 (j + 1) := by rw [hbt]; exact funext (rowB_with fd n2 j)
          rw [e1] at WG
          have hr1 : RdB wr b2 0 n2 fd := HR29.out.below hBw
          have HBG := Lib.hid BG; have HWG := Lib.hid WG; have HR1 := Lib.hid hr1; have HRY := Lib.hid hry; have HBT := Lib.hid hbt
          clear BG WG hr1 hry hbt e1
          go_wp2_with (first
            | (go_at_call 44; refine (HBG.out _ HR1.out).mono ?_; rintro e w7 ⟨rfl, rfl⟩)
            | (go_at_call 43; refine (HWG.out _ HRY.out).mono ?_; rintro e w8 ⟨v8, rfl, ho8, hb8⟩))
          go_roundw
          case rel =>
            obtain ⟨G8, cap8, rfl⟩ := own_has ho8 (by omega)
            exact ⟨j + 1, G8, cap8, by omega, by go_num, rfl, own_rdB ho8, by have h0 := (own_len ho8).1; omega, hBw.trans (hb8.mono hsz)⟩
          case measure => simp [intOf]; omega
        · obtain rfl : j = g.da := by omega
          have hA := own_below H69.out hBw
          have hX := HRX9.out.below hBw
          have HA := Lib.hid hA; have HX := Lib.hid hX; have HY := Lib.hid hry; have HBW2 := Lib.hid hBw
          clear hA hX hry hBw hlt
          have sw : w.heap.size + 1 ≤ wr.heap.size := by omega
          have hG5 := own_len H6.out
          have hlY := lt_of_cell (HY.out 0 (by omega))
          go_wp2_with (at_builtin; first
            | (refine app_bytes rfl _ _ 25 rfl (w.heap.size + 1) 5 i0 Tryz.underlying25 hi hz0 hz1 hz2 _ 16 (catF 4 (catF 2 (chr ⟨#[67, 71]⟩) (byteN k)) (fun _ => 0)) (by rfl) (.inl HA.out) G 0 48 capx (rowB fi n1 (16 * g.ino)) (by rfl) HX.out (by omega) (by omega) sw ?_; intro g5 cap5 w3 ho5 hgr5 hat5; have HO5 := Lib.hid ho5; have z5 := hgr5.size; have hm5 : Mods (fun k => k = G5) wr w3 := (Mods.refl (fun k => k = G5) wr).grown hgr5 (fun k e _ => (Option.some.inj (show some G5 = some k from e)).symm); have HY3 : RdB w3 G' 0 960 (rowB fd n2 g.da) := fun q hq => (hm5.cell hlY (by omega)).trans (HY.out q hq); have HM5 := Lib.hid hm5; have HAT := Lib.hid hat5; clear ho5 hgr5 hat5 hm5)
            | (refine app_bytes rfl _ _ 25 rfl (w.heap.size + 1) 5 i0 Tryz.underlying25 hi hz0 hz1 hz2 _ 64 (catF 16 (catF 4 (catF 2 (chr ⟨#[67, 71]⟩) (byteN k)) (fun _ => 0)) (rowB fi n1 (16 * g.ino))) (by rfl) (.inl HO5.out) G' 0 960 capy (rowB fd n2 g.da) (by rfl) HY3 (by omega) (by omega) (by omega) ?_; intro g7 cap7 w4' ho7 hgr7 hat7))
          go_ret
          have hB3 := Below.mods (HB9.out.trans (HBW2.out.mono s9)) HM5.out (fun i hi e => by omega) (by omega)
          exact ⟨_, _, rfl, own_mono ho7 (by omega), Below.mods hB3 ((Mods.refl (fun k => k = g5) w3).grown hgr7 (fun k e _ => (Option.some.inj (show some g5 = some k from e)).symm)) (fun i hi e => by have h0 := (own_len HO5.out).1; omega) (by omega)⟩
end Go.Proofs.YtbeabehebenocaaGreatDoor
end

section
/- Inodes read. -/
namespace Go.Proofs.YtbeabehebenocaaGreatDoor
open Go.RowKit

/-- the inode that 64 bytes say -/
def inoRd (f : Nat → Nat) : InoN := fun j => if j = 0 then leN f 2 else if j = 1 then leN (fun k => f (2 + k)) 2 else if j = 2 then leN (fun k => f (4 + k)) 4 else leN (fun k => f (8 + 4 * (j - 3) + k)) 4
def iOk (f : Nat → Nat) : Bool := inoOk (inoRd f) && eqB (inoF (inoRd f)) f 64
theorem inoRd_r (f : Nat → Nat) (hf : ∀ k, f k < 256) : InoR (inoRd f) where
  k := leN_lt f hf 2
  l := leN_lt (fun k => f (2 + k)) (fun k => hf _) 2
  s := leN_lt (fun k => f (4 + k)) (fun k => hf _) 4
  p := fun j h1 h2 => by
    have e : inoRd f j = leN (fun k => f (8 + 4 * (j - 3) + k)) 4 := by
      unfold inoRd; rw [if_neg (by omega), if_neg (by omega), if_neg (by omega)]
    rw [e]
    exact leN_lt _ (fun k => hf _) 4
theorem inoL_set (i : InoN) (j x : Nat) (hj : j < 13) : (inoL i).set j (.int .i64 (x : Int)) = inoL (fun q => if q = j then x else i q) := by
  match j, hj with
  | 0, _ | 1, _ | 2, _ | 3, _ | 4, _ | 5, _ | 6, _ | 7, _ | 8, _ | 9, _ | 10, _ | 11, _ | 12, _ => rfl
theorem inoL_congr {i j : InoN} (h : ∀ k, k < 13 → i k = j k) : inoL i = inoL j := by
  unfold inoL
  rw [h 0 (by omega), h 1 (by omega), h 2 (by omega), h 3 (by omega), h 4 (by omega), h 5 (by omega), h 6 (by omega), h 7 (by omega), h 8 (by omega), h 9 (by omega), h 10 (by omega), h 11 (by omega), h 12 (by omega)]
theorem cells13 {w : World} {B : Nat} {i : InoN} {t : TypeId} (h : Blk t w B (inoL i)) : w.cell? ⟨B, 0, none⟩ = some (.int .i64 (i 0 : Nat)) ∧ w.cell? ⟨B, 1, none⟩ = some (.int .i64 (i 1 : Nat)) ∧ w.cell? ⟨B, 2, none⟩ = some (.int .i64 (i 2 : Nat)) ∧ w.cell? ⟨B, 3, none⟩ = some (.int .i64 (i 3 : Nat)) ∧ w.cell? ⟨B, 4, none⟩ = some (.int .i64 (i 4 : Nat)) ∧ w.cell? ⟨B, 5, none⟩ = some (.int .i64 (i 5 : Nat)) ∧ w.cell? ⟨B, 6, none⟩ = some (.int .i64 (i 6 : Nat)) ∧ w.cell? ⟨B, 7, none⟩ = some (.int .i64 (i 7 : Nat)) ∧ w.cell? ⟨B, 8, none⟩ = some (.int .i64 (i 8 : Nat)) ∧ w.cell? ⟨B, 9, none⟩ = some (.int .i64 (i 9 : Nat)) ∧ w.cell? ⟨B, 10, none⟩ = some (.int .i64 (i 10 : Nat)) ∧ w.cell? ⟨B, 11, none⟩ = some (.int .i64 (i 11 : Nat)) ∧ w.cell? ⟨B, 12, none⟩ = some (.int .i64 (i 12 : Nat)) := by
  refine ⟨?_, ?_, ?_, ?_, ?_, ?_, ?_, ?_, ?_, ?_, ?_, ?_, ?_⟩ <;> rw [h.cell] <;> rfl
theorem frozen13 {w : World} {B : Nat} {xs : List Value} {t : TypeId} (h : Blk t w B xs) : w.frozen? ⟨B, 0, none⟩ = false ∧ w.frozen? ⟨B, 1, none⟩ = false ∧ w.frozen? ⟨B, 2, none⟩ = false ∧ w.frozen? ⟨B, 3, none⟩ = false ∧ w.frozen? ⟨B, 4, none⟩ = false ∧ w.frozen? ⟨B, 5, none⟩ = false ∧ w.frozen? ⟨B, 6, none⟩ = false ∧ w.frozen? ⟨B, 7, none⟩ = false ∧ w.frozen? ⟨B, 8, none⟩ = false ∧ w.frozen? ⟨B, 9, none⟩ = false ∧ w.frozen? ⟨B, 10, none⟩ = false ∧ w.frozen? ⟨B, 11, none⟩ = false ∧ w.frozen? ⟨B, 12, none⟩ = false := by
  refine ⟨?_, ?_, ?_, ?_, ?_, ?_, ?_, ?_, ?_, ?_, ?_, ?_, ?_⟩ <;> exact h.frozen _

def put13 (w : World) (B : Nat) (i : InoN) : World :=
  ((((((((((((w.setCell ⟨B, 0, none⟩ (.int .i64 (i 0 : Nat))).setCell ⟨B, 1, none⟩ (.int .i64 (i 1 : Nat))).setCell ⟨B, 2, none⟩ (.int .i64 (i 2 : Nat))).setCell ⟨B, 3, none⟩ (.int .i64 (i 3 : Nat))).setCell ⟨B, 4, none⟩ (.int .i64 (i 4 : Nat))).setCell ⟨B, 5, none⟩ (.int .i64 (i 5 : Nat))).setCell ⟨B, 6, none⟩ (.int .i64 (i 6 : Nat))).setCell ⟨B, 7, none⟩ (.int .i64 (i 7 : Nat))).setCell ⟨B, 8, none⟩ (.int .i64 (i 8 : Nat))).setCell ⟨B, 9, none⟩ (.int .i64 (i 9 : Nat))).setCell ⟨B, 10, none⟩ (.int .i64 (i 10 : Nat))).setCell ⟨B, 11, none⟩ (.int .i64 (i 11 : Nat))).setCell ⟨B, 12, none⟩ (.int .i64 (i 12 : Nat))
theorem put13_blk {t : TypeId} {w : World} {B : Nat} {j : InoN} (i : InoN) (h : Blk t w B (inoL j)) : Blk t (put13 w B i) B (inoL i) :=
  ((((((((((((h.set 0 _).set 1 _).set 2 _).set 3 _).set 4 _).set 5 _).set 6 _).set 7 _).set 8 _).set 9 _).set 10 _).set 11 _).set 12 _
theorem put13_below (w : World) (i : InoN) {n B : Nat} (h : n ≤ B) : Below n w (put13 w B i) := by
  unfold put13
  have hs : ∀ (X : World) (k : Nat) (v : Value), Below n w X → Below n w (X.setCell ⟨B, k, none⟩ v) := fun X k v hX => hX.setCell (p := ⟨B, k, none⟩) h v
  exact hs _ _ _ (hs _ _ _ (hs _ _ _ (hs _ _ _ (hs _ _ _ (hs _ _ _ (hs _ _ _ (hs _ _ _ (hs _ _ _ (hs _ _ _ (hs _ _ _ (hs _ _ _ (hs _ _ _ (Below.refl _ _)))))))))))))

set_option maxRecDepth 100000 in
set_option maxHeartbeats 6000000 in
theorem iread_c (B o cap : Nat) (f : Nat → Nat) (hf : ∀ k, f k < 256) (w : World) (h : RdB w B o 64 f) (hcap : 64 ≤ cap) (hcb : cap ≤ 1000000000) :
    Calls Tryz.prog 88 #[.slice (some ⟨B, o, none⟩) 64 cap] w fun e w' => (iOk f = true → e = .returned (.tuple #[inoV (inoRd f), .int .i64 0])) ∧
      (iOk f = false → e = .returned (.tuple #[inoV noIno, .int .i64 5])) ∧ Below w.heap.size w w' := by
  have hBl := lt_of_cell (h 0 (by omega))
  obtain ⟨I, hI⟩ : ∃ I, I = inoRd f := ⟨_, rfl⟩
  have G0 : ∀ W c, RdB W B o 64 f → Calls Tryz.prog 104 #[.slice (some ⟨B, o, none⟩) 2 c] W fun e w' => e = .returned (.int .i64 (I 0 : Nat)) ∧ W = w' := fun W c h => by
    have := get_c B (o + 0) 2 c _ W (fun k => hf (0 + k)) (by omega) (h.sub 0 2 (by omega)); rw [hI]; simpa [inoRd] using this
  have G1 : ∀ W c, RdB W B o 64 f → Calls Tryz.prog 104 #[.slice (some ⟨B, o + 2, none⟩) 2 c] W fun e w' => e = .returned (.int .i64 (I 1 : Nat)) ∧ W = w' := fun W c h => by
    have := get_c B (o + 2) 2 c _ W (fun k => hf (2 + k)) (by omega) (h.sub 2 2 (by omega)); rw [hI]; simpa [inoRd] using this
  have G2 : ∀ W c, RdB W B o 64 f → Calls Tryz.prog 104 #[.slice (some ⟨B, o + 4, none⟩) 4 c] W fun e w' => e = .returned (.int .i64 (I 2 : Nat)) ∧ W = w' := fun W c h => by
    have := get_c B (o + 4) 4 c _ W (fun k => hf (4 + k)) (by omega) (h.sub 4 4 (by omega)); rw [hI]; simpa [inoRd] using this
  have G11 : ∀ W c, RdB W B o 64 f → Calls Tryz.prog 104 #[.slice (some ⟨B, o + 40, none⟩) 4 c] W fun e w' => e = .returned (.int .i64 (I 11 : Nat)) ∧ W = w' := fun W c h => by
    have := get_c B (o + 40) 4 c _ W (fun k => hf (40 + k)) (by omega) (h.sub 40 4 (by omega)); rw [hI]; simpa [inoRd] using this
  have G12 : ∀ W c, RdB W B o 64 f → Calls Tryz.prog 104 #[.slice (some ⟨B, o + 44, none⟩) 4 c] W fun e w' => e = .returned (.int .i64 (I 12 : Nat)) ∧ W = w' := fun W c h => by
    have := get_c B (o + 44) 4 c _ W (fun k => hf (44 + k)) (by omega) (h.sub 44 4 (by omega)); rw [hI]; simpa [inoRd] using this
  have GD : ∀ W c k, k < 8 → RdB W B o 64 f → Calls Tryz.prog 104 #[.slice (some ⟨B, o + (8 + 4 * k), none⟩) 4 c] W fun e w' => e = .returned (.int .i64 (I (3 + k) : Nat)) ∧ W = w' := fun W c k hk h => by
    have := get_c B (o + (8 + 4 * k)) 4 c _ W (fun j => hf (8 + 4 * k + j)) (by omega) (h.sub (8 + 4 * k) 4 (by omega))
    rw [hI]
    have e : inoRd f (3 + k) = leN (fun j => f (8 + 4 * k + j)) 4 := by
      unfold inoRd; rw [if_neg (by omega), if_neg (by omega), if_neg (by omega)]; rw [show 3 + k - 3 = k by omega]
    rw [e]; exact this
  have HG0 := Lib.hid G0; have HG1 := Lib.hid G1; have HG2 := Lib.hid G2; have HG11 := Lib.hid G11; have HG12 := Lib.hid G12; have HGD := Lib.hid GD; have HI := Lib.hid hI; have HR := Lib.hid h
  have c0 : (2 : Int) ≤ (cap : Int) := by omega
  have c1 : (4 : Int) ≤ (cap : Int) := by omega
  have c2 : (8 : Int) ≤ (cap : Int) := by omega
  have c3 : (44 : Int) ≤ (cap : Int) := by omega
  have c4 : (48 : Int) ≤ (cap : Int) := by omega
  have n0 : cap ≠ 0 := by omega
  have n1 : cap ≠ 2 := by omega
  have n2 : cap ≠ 4 := by omega
  have n3 : cap ≠ 40 := by omega
  have n4 : cap ≠ 44 := by omega
  clear G0 G1 G2 G11 G12 GD hI h
  go_enter Tryz.func88, Tryz.ntmps88
  go_upto_region 4 with fail
  go_cut [4] (fun s5 wx => s5 = .pointer (some ⟨w.heap.size + 1, 0, none⟩) ∧ Blk 40 wx (w.heap.size + 1) (inoL fun j => if 3 ≤ j ∧ j < 11 then 0 else I j) ∧ Blk 40 wx w.heap.size (inoL noIno) ∧ Below w.heap.size w wx)
  case first =>
    go_region_held3 (fun w' => RdB w' B o 64 f ∧ w.heap.size < w'.heap.size ∧ Below w.heap.size w w')
      (first | (go_split_ands; exact ⟨HR.out.below (((Below.refl _ _).alloc (Nat.le_refl _) _).drew), by simp, ((Below.refl _ _).alloc (Nat.le_refl _) _).drew⟩) | (go_split_ands; exact ⟨HR.out.below ((((Below.refl _ _).alloc (Nat.le_refl _) _).alloc (by simp) _).drew), by simp; omega, (((Below.refl _ _).alloc (Nat.le_refl _) _).alloc (by simp) _).drew⟩) | go_keep)
      (first
        | (go_at_call 104; go_split_ands; ((with_reducible refine (HG0.out _ _ (by assumption)).mono ?_)); rintro e w2 ⟨rfl, rfl⟩)
        | (go_at_call 104; go_split_ands; ((with_reducible refine (HG1.out _ _ (by assumption)).mono ?_)); rintro e w2 ⟨rfl, rfl⟩)
        | (go_at_call 104; go_split_ands; ((with_reducible refine (HG2.out _ _ (by assumption)).mono ?_)); rintro e w2 ⟨rfl, rfl⟩)
        | (go_at_call 104; go_split_ands; ((with_reducible refine (HG11.out _ _ (by assumption)).mono ?_)); rintro e w2 ⟨rfl, rfl⟩)
        | (go_at_call 104; go_split_ands; ((with_reducible refine (HG12.out _ _ (by assumption)).mono ?_)); rintro e w2 ⟨rfl, rfl⟩))
    all_goals
      go_wp2_with fail
      go_meet
      exact ⟨rfl, (Blk.snd _ _).drew, (Blk.fst _ _).drew, (((Below.refl _ _).alloc (Nat.le_refl _) _).alloc (by simp) _).drew⟩
  case rest =>
    obtain ⟨rfl, hG1, hG0, hBx⟩ := hcut
    clear n0 n1 n2 n3 n4 c0 c1 c2 c3 c4
    have hl0 := hG0.lt
    have hsx := hBx.size
    go_wp2_with fail
    go_loopw [28] (fun i' wr => ∃ k : Nat, k ≤ 8 ∧ i' = .int .i64 k ∧ Blk 40 wr (w.heap.size + 1) (inoL fun j => if 3 + k ≤ j ∧ j < 11 then 0 else I j) ∧ Blk 40 wr w.heap.size (inoL noIno) ∧ Below w.heap.size w wr) (fun i' _ => 8 - (intOf i').toNat)
    case atStart => exact ⟨0, by omega, rfl, hG1, hG0, hBx⟩
    case round =>
      obtain ⟨k, hk, rfl, hI1, hI0, hB⟩ := hrel
      by_cases hlt : k < 8
      · have hck := hI1.cell (3 + k)
        rw [inoL_get _ _ (by omega)] at hck
        have hfk := hI1.frozen (3 + k)
        have hl1 := hI1.lt
        have hRx := HR.out.below hB
        have e1 : cap ≠ 8 + 4 * k := by omega
        have H1 := Lib.hid hI1; have H0 := Lib.hid hI0; have HRX := Lib.hid hRx
        clear hI1 hI0 hRx
        go_wp2_with (go_at_call 104; refine (HGD.out _ _ k hlt HRX.out).mono ?_; rintro e w2 ⟨rfl, rfl⟩)
        go_roundw
        case rel =>
          refine ⟨k + 1, by omega, by go_num, ?_, H0.out.other _ _ (by simp), hB.setCell (p := ⟨w.heap.size + 1, 3 + k, none⟩) (by simp) _⟩
          have h2 := H1.out.set (3 + k) (.int .i64 (I (3 + k) : Nat))
          rw [inoL_set _ _ _ (by omega)] at h2
          rw [inoL_congr (i := fun j => if 3 + (k + 1) ≤ j ∧ j < 11 then 0 else I j) (j := fun q => if q = 3 + k then I (3 + k) else if 3 + k ≤ q ∧ q < 11 then 0 else I q) fun j _ => by
            show (if 3 + (k + 1) ≤ j ∧ j < 11 then 0 else I j) = if j = 3 + k then I (3 + k) else if 3 + k ≤ j ∧ j < 11 then 0 else I j
            by_cases e1 : j = 3 + k
            · subst e1; rw [if_neg (by omega), if_pos rfl]
            · rw [if_neg e1]
              by_cases e2 : 3 + k ≤ j ∧ j < 11
              · rw [if_pos (by omega), if_pos e2]
              · rw [if_neg (by omega), if_neg e2]]
          exact h2
        case measure => simp [intOf]; omega
      · obtain rfl : k = 8 := by omega
        rw [inoL_congr (j := I) fun j _ => by rw [if_neg (by omega)]] at hI1
        obtain ⟨a0, a1, a2, a3, a4, a5, a6, a7, a8, a9, a10, a11, a12⟩ := cells13 hI1
        obtain ⟨f0, f1, f2, f3, f4, f5, f6, f7, f8, f9, f10, f11, f12⟩ := frozen13 hI0
        obtain ⟨z0, z1, z2, z3, z4, z5, z6, z7, z8, z9, z10, z11, z12⟩ := cells13 hI0
        have hl1 := hI1.lt
        have hRx := HR.out.below hB
        have hlr : w.heap.size < wr.heap.size := by omega
        have hpk := ipack_c I (HI.out ▸ inoRd_r f hf)
        have HP := Lib.hid hpk; have HRX := Lib.hid hRx
        unfold inoV at HP
        clear hpk hRx
        cases hok : inoOk I with
        | false =>
          have hs : iOk f = false := by simp [iOk, ← HI.out, hok]
          have Hs := Lib.hid hs
          have Hok := Lib.hid hok
          clear hs hok
          go_wp2_with (go_at_call 83; refine (HP.out _).mono ?_; rintro e w2 ⟨hb2, -, hno⟩; obtain rfl := hno Hok.out; obtain ⟨hc2, hf2⟩ := bcell hb2)
          change bodyPost _ _ _ _ _ (put13 w2 w.heap.size noIno)
          have hk := put13_blk (i := noIno) (hI0.below hb2 hlr)
          have hbz := put13_below w2 noIno (Nat.le_refl w.heap.size)
          generalize put13 w2 w.heap.size noIno = W at hk hbz ⊢
          clear z0 z1 z2 z3 z4 z5 z6 z7 z8 z9 z10 z11 z12 a0 a1 a2 a3 a4 a5 a6 a7 a8 a9 a10 a11 a12 f0 f1 f2 f3 f4 f5 f6 f7 f8 f9 f10 f11 f12
          obtain ⟨y0, y1, y2, y3, y4, y5, y6, y7, y8, y9, y10, y11, y12⟩ := cells13 hk
          refine bodyPost_ret (v := .tuple #[inoV noIno, .int .i64 5]) ?_ rfl ?_
          · simp [results, Tryz.results88, go_sem, y0, y1, y2, y3, y4, y5, y6, y7, y8, y9, y10, y11, y12, inoV]
          · refine ⟨fun h => ?_, fun _ => rfl, (hB.trans (hb2.mono hB.size)).trans hbz⟩
            rw [Hs.out] at h; cases h
        | true =>
          obtain ⟨q, hq⟩ : ∃ q, q = eqB (inoF I) f 64 := ⟨_, rfl⟩
          have hs : iOk f = q := by simp [iOk, ← HI.out, hok, hq]
          have Hs := Lib.hid hs
          have Hok := Lib.hid hok
          have Hq := Lib.hid hq
          clear hs hok hq
          cases q with
          | true =>
            go_wp2_with (first
              | (go_at_call 83; refine (HP.out _).mono ?_; rintro e w2 ⟨hb2, hyes, -⟩; obtain ⟨B2, cap2, rfl, ho2⟩ := hyes Hok.out; obtain ⟨hc2, hf2⟩ := bcell hb2; obtain ⟨_, _, hv, _, _, _, hr2⟩ := own_rd ho2 (by omega); cases hv; have HK := Lib.hid hr2; clear hr2 ho2 hyes)
              | (go_at_call 34; refine (beq_c B2 0 cap2 B o cap 64 (inoF I) f (inoF_lt I) hf _ HK.out (HRX.out.below hb2)).mono ?_; rw [← Hq.out]; rintro e w3 ⟨rfl, rfl⟩))
            change bodyPost _ _ _ _ _ (put13 w2 w.heap.size I)
            have hk := put13_blk (i := I) (hI0.below hb2 hlr)
            have hbz := put13_below w2 I (Nat.le_refl w.heap.size)
            generalize put13 w2 w.heap.size I = W at hk hbz ⊢
            clear z0 z1 z2 z3 z4 z5 z6 z7 z8 z9 z10 z11 z12 a0 a1 a2 a3 a4 a5 a6 a7 a8 a9 a10 a11 a12 f0 f1 f2 f3 f4 f5 f6 f7 f8 f9 f10 f11 f12
            obtain ⟨y0, y1, y2, y3, y4, y5, y6, y7, y8, y9, y10, y11, y12⟩ := cells13 hk
            refine bodyPost_ret (v := .tuple #[inoV I, .int .i64 0]) ?_ rfl ?_
            · simp [results, Tryz.results88, go_sem, y0, y1, y2, y3, y4, y5, y6, y7, y8, y9, y10, y11, y12, inoV]
            · refine ⟨fun h => ?_, fun h => ?_, (hB.trans (hb2.mono hB.size)).trans hbz⟩
              · rw [← HI.out]
              · rw [Hs.out] at h; cases h
          | false =>
            go_wp2_with (first
              | (go_at_call 83; refine (HP.out _).mono ?_; rintro e w2 ⟨hb2, hyes, -⟩; obtain ⟨B2, cap2, rfl, ho2⟩ := hyes Hok.out; obtain ⟨hc2, hf2⟩ := bcell hb2; obtain ⟨_, _, hv, _, _, _, hr2⟩ := own_rd ho2 (by omega); cases hv; have HK := Lib.hid hr2; clear hr2 ho2 hyes)
              | (go_at_call 34; refine (beq_c B2 0 cap2 B o cap 64 (inoF I) f (inoF_lt I) hf _ HK.out (HRX.out.below hb2)).mono ?_; rw [← Hq.out]; rintro e w3 ⟨rfl, rfl⟩))
            change bodyPost _ _ _ _ _ (put13 w2 w.heap.size noIno)
            have hk := put13_blk (i := noIno) (hI0.below hb2 hlr)
            have hbz := put13_below w2 noIno (Nat.le_refl w.heap.size)
            generalize put13 w2 w.heap.size noIno = W at hk hbz ⊢
            clear z0 z1 z2 z3 z4 z5 z6 z7 z8 z9 z10 z11 z12 a0 a1 a2 a3 a4 a5 a6 a7 a8 a9 a10 a11 a12 f0 f1 f2 f3 f4 f5 f6 f7 f8 f9 f10 f11 f12
            obtain ⟨y0, y1, y2, y3, y4, y5, y6, y7, y8, y9, y10, y11, y12⟩ := cells13 hk
            refine bodyPost_ret (v := .tuple #[inoV noIno, .int .i64 5]) ?_ rfl ?_
            · simp [results, Tryz.results88, go_sem, y0, y1, y2, y3, y4, y5, y6, y7, y8, y9, y10, y11, y12, inoV]
            · refine ⟨fun h => ?_, fun _ => rfl, (hB.trans (hb2.mono hB.size)).trans hbz⟩
              rw [Hs.out] at h; cases h
end Go.Proofs.YtbeabehebenocaaGreatDoor
end
