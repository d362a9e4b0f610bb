/- Part of the road to HeadsRow: RefD, RefE, RefF. -/
import Derived.Lib.AppendStr
import Derived.Test.YtolbahfbhcpgdaaHeads04
import Derived.Test.YtolbahfbhcpgdaaHeads03
import Derived.Test.YtolbahfbhcpgdaaHeads05
import Derived.Test.YtolbahfbhcpgdaaHeads02
set_option linter.all false
set_option linter.unusedSimpArgs false
set_option linter.unusedVariables false
set_option linter.unusedSectionVars false
section
/- The reference's inodes, packed. -/
namespace Go.Proofs.Ytolbahfbhcpgdaa
open Go.RowKit

set_option maxRecDepth 100000 in
set_option maxHeartbeats 4000000 in
theorem rpino_c (i : InoN) (hr : InoR i) (hk : i 0 ≠ 0 ∧ i 0 ≤ 2) (w : World) :
    Calls Try.prog 16 #[inoV i] w fun e w' => ∃ G cap, e = .returned (.tuple #[.slice (some ⟨G, 0, none⟩) 64 cap, .bool true]) ∧ w'.ownsRow w.heap.size 5 1 (.slice (some ⟨G, 0, none⟩) 64 cap) 64 (bytesL (inoF i) 64) ∧ Below w.heap.size w w' := by
  obtain ⟨hk0, hk2⟩ := hk
  have l1 := hr.l; have l2 := hr.s
  have l11 := hr.p 11 (by omega) (by omega); have l12 := hr.p 12 (by omega) (by omega)
  have HR := Lib.hid hr
  have e02 : bytesL (catF 0 (fun _ => 0) (byteN (i 0))) (0 + 2) = bytesL (byteN (i 0)) 2 := bytesL_congr fun k _ => by simp [catF]
  have d0 : decide ((i 0 : Int) < 0) = false := by simp
  have d1 : decide ((2 : Int) < (i 0 : Int)) = false := by simp; omega
  have d2 : (((i 0 : Nat) : Int) == 0) = false := by simp; omega
  have bx := inoL_new w i 49
  obtain ⟨c0, c1, c2, c3, c4, c5, c6, c7, c8, c9, c10, c11, c12⟩ := cells13 bx
  have F2 := rfits2_c (i 1) l1
  have F4a := rfits4_c (i 2) l2
  have F4b := rfits4_c (i 11) l11
  have F4c := rfits4_c (i 12) l12
  have HF2 := Lib.hid F2; have HFa := Lib.hid F4a; have HFb := Lib.hid F4b; have HFc := Lib.hid F4c; have HBX := Lib.hid bx
  unfold inoV
  clear hr F2 F4a F4b F4c bx c3 c4 c5 c6 c7 c8 c9 c10
  go_enter Try.func16, Try.ntmps16
  go_wp2_with (go_at_call 21; first
    | (with_reducible refine (HF2.out _).mono ?_; rintro e w1 ⟨rfl, rfl⟩)
    | (with_reducible refine (HFa.out _).mono ?_; rintro e w1 ⟨rfl, rfl⟩)
    | (with_reducible refine (HFb.out _).mono ?_; rintro e w1 ⟨rfl, rfl⟩)
    | (with_reducible refine (HFc.out _).mono ?_; rintro e w1 ⟨rfl, rfl⟩))
  have hk0 := HBX.out.drew
  have hB0 : Below w.heap.size w (w.alloc (.cells #[.int .i64 (i 0 : Nat), .int .i64 (i 1 : Nat), .int .i64 (i 2 : Nat), .int .i64 (i 3 : Nat), .int .i64 (i 4 : Nat), .int .i64 (i 5 : Nat), .int .i64 (i 6 : Nat), .int .i64 (i 7 : Nat), .int .i64 (i 8 : Nat), .int .i64 (i 9 : Nat), .int .i64 (i 10 : Nat), .int .i64 (i 11 : Nat), .int .i64 (i 12 : Nat)] 49)).drew := ((Below.refl _ w).alloc (Nat.le_refl _) _).drew
  have hs0 : w.heap.size + 1 ≤ (w.alloc (.cells #[.int .i64 (i 0 : Nat), .int .i64 (i 1 : Nat), .int .i64 (i 2 : Nat), .int .i64 (i 3 : Nat), .int .i64 (i 4 : Nat), .int .i64 (i 5 : Nat), .int .i64 (i 6 : Nat), .int .i64 (i 7 : Nat), .int .i64 (i 8 : Nat), .int .i64 (i 9 : Nat), .int .i64 (i 10 : Nat), .int .i64 (i 11 : Nat), .int .i64 (i 12 : Nat)] 49)).drew.heap.size := by simp
  refine wp_region_held_drew (S := (fun w' => w'.cell? ⟨w.heap.size, 0, none⟩ = some (.int .i64 (i 0 : Nat)) ∧ w'.cell? ⟨w.heap.size, 1, none⟩ = some (.int .i64 (i 1 : Nat)) ∧ w'.cell? ⟨w.heap.size, 2, none⟩ = some (.int .i64 (i 2 : Nat)))) (by kernel_rfl) ⟨hk0.cell 0, hk0.cell 1, hk0.cell 2⟩ (fun hHeld => ?_)
  refine wpAnyH_take (i := 0) (oi := ⟨_, _, _, _, _, _⟩) (v := ?_) rfl (by kernel_rfl) (by kernel_rfl) (by kernel_rfl) (fun _ _ _ h => h) (Or.inl ⟨by kernel_rfl, ?_⟩) (by assumption) ?_
  rotate_left
  · (intro w hSw; (try dsimp only at hSw); go_simp; first | done | with_reducible rfl)
  simp only [Act.put, List.setIfInBounds_toArray, List.set_cons_zero, List.set_cons_succ]
  refine wpAnyH_take (i := 1) (oi := ⟨_, _, _, _, _, _⟩) (v := ?_) rfl (by kernel_rfl) (by kernel_rfl) (by kernel_rfl) (fun _ _ _ h => h) (Or.inl ⟨by kernel_rfl, ?_⟩) (by assumption) ?_
  rotate_left
  · (intro w hSw; (try dsimp only at hSw); go_simp; first | done | with_reducible rfl)
  simp only [Act.put, List.setIfInBounds_toArray, List.set_cons_zero, List.set_cons_succ]
  refine wpAnyH_take (i := 3) (oi := ⟨_, _, _, _, _, _⟩) (v := ?_) rfl (by kernel_rfl) (by kernel_rfl) (by kernel_rfl) (fun _ _ _ h => h) (Or.inl ⟨by kernel_rfl, ?_⟩) (by assumption) ?_
  rotate_left
  · (intro w hSw; (try dsimp only at hSw); go_simp; first | done | with_reducible rfl)
  simp only [Act.put, List.setIfInBounds_toArray, List.set_cons_zero, List.set_cons_succ]
  refine wpAnyH_take (i := 4) (oi := ⟨_, _, _, _, _, _⟩) (v := ?_) rfl (by kernel_rfl) (by kernel_rfl) (by kernel_rfl) (fun _ _ _ h => h) (Or.inl ⟨by kernel_rfl, ?_⟩) (by assumption) ?_
  rotate_left
  · (intro w hSw; (try dsimp only at hSw); go_simp; first | done | with_reducible rfl)
  simp only [Act.put, List.setIfInBounds_toArray, List.set_cons_zero, List.set_cons_succ]
  refine wpAnyH_take (i := 6) (oi := ⟨_, _, _, _, _, _⟩) (v := ?_) rfl (by kernel_rfl) (by kernel_rfl) (by kernel_rfl) (fun _ _ _ h => h) (Or.inl ⟨by kernel_rfl, ?_⟩) (by assumption) ?_
  rotate_left
  · (intro w hSw; (try dsimp only at hSw); go_simp; first | done | with_reducible rfl)
  simp only [Act.put, List.setIfInBounds_toArray, List.set_cons_zero, List.set_cons_succ]
  refine wpAnyH_take (i := 7) (oi := ⟨_, _, _, _, _, _⟩) (v := ?_) rfl (by kernel_rfl) (by kernel_rfl) (by kernel_rfl) (fun _ _ _ h => h) (Or.inl ⟨by kernel_rfl, ?_⟩) (by assumption) ?_
  rotate_left
  · (intro w hSw; (try dsimp only at hSw); go_simp; first | done | with_reducible rfl)
  simp only [Act.put, List.setIfInBounds_toArray, List.set_cons_zero, List.set_cons_succ]
  generalize (w.alloc (.cells #[.int .i64 (i 0 : Nat), .int .i64 (i 1 : Nat), .int .i64 (i 2 : Nat), .int .i64 (i 3 : Nat), .int .i64 (i 4 : Nat), .int .i64 (i 5 : Nat), .int .i64 (i 6 : Nat), .int .i64 (i 7 : Nat), .int .i64 (i 8 : Nat), .int .i64 (i 9 : Nat), .int .i64 (i 10 : Nat), .int .i64 (i 11 : Nat), .int .i64 (i 12 : Nat)] 49)).drew = W0 at hk0 hB0 hs0 hHeld ⊢
  refine wpAnyH_ready (rs := [2]) (by kernel_rfl) (by simp) ?_
  refine AllReadyH.cons rfl (fun K hK => ?_) AllReadyH.nil
  go_simp
  go_at_call 23
  refine (rput2_c (w.heap.size + 1) (0) (i 0) 2 _ (fun _ => 0) _ (by omega) (by omega) (by omega) (by omega) (by omega) (.inl (World.ownsRow_nil _ _ _ _))).mono ?_
  rintro e w2 ⟨v2, rfl, ho2, hs2, hm2⟩
  have hz2 := hm2.size
  have hB2 := Below.mods hB0 hm2 (fun i hi e => (by cases e)) (by omega)
  have hk2 := hk0.mods hm2 (fun e => (by cases e))
  rw [e02] at ho2
  go_simp
  refine hK.out _ _ ?_ (fun hHeld => ?_)
  · exact ⟨hk2.cell 0, hk2.cell 1, hk2.cell 2⟩
  clear hK K
  refine wpAnyH_ready (rs := [5]) (by kernel_rfl) (by simp) ?_
  refine AllReadyH.cons rfl (fun K hK => ?_) AllReadyH.nil
  go_simp
  go_at_call 23
  refine (rput2_c (w.heap.size + 1) (2) (i 1) 2 _ (byteN (i 0)) _ (by omega) (by omega) (by omega) (by omega) (by omega) (.inl ho2)).mono ?_
  rintro e w5 ⟨v5, rfl, ho5, hs5, hm5⟩
  have hz5 := hm5.size
  have hB5 := Below.mods hB2 hm5 (fun i hi e => (by have h0 := own_base ho2 _ e; omega)) (by omega)
  have hk5 := hk2.mods hm5 (fun e => (by have h0 := own_base ho2 _ e; omega))
  go_simp
  refine hK.out _ _ ?_ (fun hHeld => ?_)
  · exact ⟨hk5.cell 0, hk5.cell 1, hk5.cell 2⟩
  clear hK K
  refine wpAnyH_ready (rs := [8]) (by kernel_rfl) (by simp) ?_
  refine AllReadyH.cons rfl (fun K hK => ?_) AllReadyH.nil
  go_simp
  go_at_call 23
  refine (rput2_c (w.heap.size + 1) (4) (i 2) 4 _ (catF 2 (byteN (i 0)) (byteN (i 1))) _ (by omega) (by omega) (by omega) (by omega) (by omega) (.inl ho5)).mono ?_
  rintro e w8 ⟨v8, rfl, ho8, hs8, hm8⟩
  have hz8 := hm8.size
  have hB8 := Below.mods hB5 hm8 (fun i hi e => (by have h0 := own_base ho5 _ e; omega)) (by omega)
  have hk8 := hk5.mods hm8 (fun e => (by have h0 := own_base ho5 _ e; omega))
  go_simp
  refine hK.out _ _ ?_ (fun hHeld => ?_)
  · exact ⟨hk8.cell 0, hk8.cell 1, hk8.cell 2⟩
  clear hK K
  refine wpAnyH_take (i := 9) (oi := ⟨_, _, _, _, _, _⟩) (v := ?_) rfl (by kernel_rfl) (by kernel_rfl) (by kernel_rfl) (fun _ _ _ h => h) (Or.inl ⟨by kernel_rfl, ?_⟩) (by assumption) ?_
  rotate_left
  · (intro w hSw; (try dsimp only at hSw); go_simp; first | done | with_reducible rfl)
  simp only [Act.put, List.setIfInBounds_toArray, List.set_cons_zero, List.set_cons_succ]
  refine wpAnyH_done (by kernel_rfl) ?_ _
  have hzz : w.heap.size + 1 ≤ w8.heap.size := by omega
  replace ho8 : w8.ownsRow (w.heap.size + 1) 5 1 v8 8 (bytesL (inoK i 0) 8) := ho8
  have lk8 := hk8.lt
  clear hHeld hk0 hk2 hk5 hB0 hB2 hB5 hm2 hm5 hm8 hs2 hs5 hs8 ho2 ho5 hs0 hz2 hz5 hz8 c0 c1 c2 c11 c12 d0 d1 d2
  obtain ⟨g8, cap8, rfl⟩ := own_has ho8 (by omega)
  go_wp2
  go_loopw [4, 5] (fun v j' wr => ∃ (j G cap : Nat), j ≤ 8 ∧ j' = .int .i64 j ∧ v = .slice (some ⟨G, 0, none⟩) (8 + 4 * j) cap ∧ wr.ownsRow (w.heap.size + 1) 5 1 (.slice (some ⟨G, 0, none⟩) (8 + 4 * j) cap) (8 + 4 * j) (bytesL (inoK i j) (8 + 4 * j)) ∧ Blk 49 wr w.heap.size (inoL i) ∧ Below w.heap.size w wr ∧ w.heap.size + 1 ≤ wr.heap.size) (fun _ j' _ => 8 - (intOf j').toNat)
  case atStart => exact ⟨0, _, _, by omega, rfl, rfl, ho8, hk8, hB8, hzz⟩
  case round =>
    obtain ⟨j, G, cap, hj, rfl, rfl, ho, hkb, hBw, hzw⟩ := hrel
    by_cases hlt : j < 8
    · have hc := hkb.cell (3 + j)
      rw [inoL_get _ _ (by omega)] at hc
      have lp := HR.out.p (3 + j) (by omega) (by omega)
      have F4 := rfits4_c (i (3 + j)) lp
      have RP := fun W hW hO => rput2_c (w.heap.size + 1) (8 + 4 * j) (i (3 + j)) 4 (.slice (some ⟨G, 0, none⟩) (8 + 4 * j) cap) (inoK i j) W (by omega) (by omega) lp (by omega) hW hO
      have HF4 := Lib.hid F4; have HRP := Lib.hid RP; have HO := Lib.hid ho; have HK := Lib.hid hkb; have HBW := Lib.hid hBw
      have lkb := hkb.lt
      clear F4 RP ho hkb hBw
      go_wp2_with (first
        | (go_at_call 21; refine (HF4.out _).mono ?_; rintro e w1 ⟨rfl, rfl⟩)
        | (go_at_call 23; refine (HRP.out _ hzw (.inl HO.out)).mono ?_; rintro e w3 ⟨v3, rfl, ho3, hs3, hm3⟩))
      go_roundw
      case rel =>
        obtain ⟨g3, cap3, rfl⟩ := own_has ho3 (by omega)
        have hz3 := hm3.size
        exact ⟨j + 1, g3, cap3, by omega, by go_num, rfl, ho3, HK.out.mods hm3 (fun e => by have h0 := own_base HO.out _ e; omega), Below.mods HBW.out hm3 (fun q hq e => by have h0 := own_base HO.out _ e; omega) (by omega), by omega⟩
      case measure => simp [intOf]; omega
    · obtain rfl : j = 8 := by omega
      have HO := Lib.hid ho; have HBW := Lib.hid hBw
      have e11 := hkb.cell 11; have e12 := hkb.cell 12
      rw [inoL_get _ _ (by omega)] at e11 e12
      have l9 := hkb.lt
      clear ho hlt
      go_wp2
      refine wp_region_held_drew (S := (fun w' => w'.cell? ⟨w.heap.size, 11, none⟩ = some (.int .i64 (i 11 : Nat)) ∧ w'.cell? ⟨w.heap.size, 12, none⟩ = some (.int .i64 (i 12 : Nat)))) (by kernel_rfl) ⟨e11, e12⟩ (fun hHeld => ?_)
      refine wpAnyH_take (i := 0) (oi := ⟨_, _, _, _, _, _⟩) (v := ?_) rfl (by kernel_rfl) (by kernel_rfl) (by kernel_rfl) (fun _ _ _ h => h) (Or.inl ⟨by kernel_rfl, ?_⟩) (by assumption) ?_
      rotate_left
      · (intro w hSw; (try dsimp only at hSw); go_simp; first | done | with_reducible rfl)
      simp only [Act.put, List.setIfInBounds_toArray, List.set_cons_zero, List.set_cons_succ]
      refine wpAnyH_take (i := 1) (oi := ⟨_, _, _, _, _, _⟩) (v := ?_) rfl (by kernel_rfl) (by kernel_rfl) (by kernel_rfl) (fun _ _ _ h => h) (Or.inl ⟨by kernel_rfl, ?_⟩) (by assumption) ?_
      rotate_left
      · (intro w hSw; (try dsimp only at hSw); go_simp; first | done | with_reducible rfl)
      simp only [Act.put, List.setIfInBounds_toArray, List.set_cons_zero, List.set_cons_succ]
      refine wpAnyH_take (i := 2) (oi := ⟨_, _, _, _, _, _⟩) (v := ?_) rfl (by kernel_rfl) (by kernel_rfl) (by kernel_rfl) (fun _ _ _ h => h) (Or.inl ⟨by kernel_rfl, ?_⟩) (by assumption) ?_
      rotate_left
      · (intro w hSw; (try dsimp only at hSw); go_simp; first | done | with_reducible rfl)
      simp only [Act.put, List.setIfInBounds_toArray, List.set_cons_zero, List.set_cons_succ]
      refine wpAnyH_take (i := 4) (oi := ⟨_, _, _, _, _, _⟩) (v := ?_) rfl (by kernel_rfl) (by kernel_rfl) (by kernel_rfl) (fun _ _ _ h => h) (Or.inl ⟨by kernel_rfl, ?_⟩) (by assumption) ?_
      rotate_left
      · (intro w hSw; (try dsimp only at hSw); go_simp; first | done | with_reducible rfl)
      simp only [Act.put, List.setIfInBounds_toArray, List.set_cons_zero, List.set_cons_succ]
      refine wpAnyH_take (i := 5) (oi := ⟨_, _, _, _, _, _⟩) (v := ?_) rfl (by kernel_rfl) (by kernel_rfl) (by kernel_rfl) (fun _ _ _ h => h) (Or.inl ⟨by kernel_rfl, ?_⟩) (by assumption) ?_
      rotate_left
      · (intro w hSw; (try dsimp only at hSw); go_simp; first | done | with_reducible rfl)
      simp only [Act.put, List.setIfInBounds_toArray, List.set_cons_zero, List.set_cons_succ]
      have hk0 := hkb.drew
      have hB0 := hBw.drew
      have HO2 := own_below HO.out (Below.refl _ wr).drew
      have hs0 : w.heap.size + 1 ≤ wr.drew.heap.size := hzw
      clear hkb hBw
      generalize wr.drew = W0 at hk0 hB0 hs0 HO2 hHeld ⊢
      refine wpAnyH_ready (rs := [3]) (by kernel_rfl) (by simp) ?_
      refine AllReadyH.cons rfl (fun K hK => ?_) AllReadyH.nil
      go_simp
      go_at_call 23
      refine (rput2_c (w.heap.size + 1) (40) (i 11) 4 _ (inoK i 8) _ (by omega) (by omega) (by omega) (by omega) (by omega) (.inl HO2)).mono ?_
      rintro e w3 ⟨v3, rfl, ho3, hs3, hm3⟩
      have hz3 := hm3.size
      have hB3 := Below.mods hB0 hm3 (fun i hi e => (by have h0 := own_base HO2 _ e; omega)) (by omega)
      have hk3 := hk0.mods hm3 (fun e => (by have h0 := own_base HO2 _ e; omega))
      go_simp
      refine hK.out _ _ ?_ (fun hHeld => ?_)
      · exact ⟨hk3.cell 11, hk3.cell 12⟩
      clear hK K
      refine wpAnyH_ready (rs := [6]) (by kernel_rfl) (by simp) ?_
      refine AllReadyH.cons rfl (fun K hK => ?_) AllReadyH.nil
      go_simp
      go_at_call 23
      refine (rput2_c (w.heap.size + 1) (44) (i 12) 4 _ (inoK i 9) _ (by omega) (by omega) (by omega) (by omega) (by omega) (.inl ho3)).mono ?_
      rintro e w6 ⟨v6, rfl, ho6, hs6, hm6⟩
      have hz6 := hm6.size
      have hB6 := Below.mods hB3 hm6 (fun i hi e => (by have h0 := own_base ho3 _ e; omega)) (by omega)
      have hk6 := hk3.mods hm6 (fun e => (by have h0 := own_base ho3 _ e; omega))
      go_simp
      refine hK.out _ _ ?_ (fun hHeld => ?_)
      · exact ⟨hk6.cell 11, hk6.cell 12⟩
      clear hK K
      refine wpAnyH_ready (rs := [7]) (by kernel_rfl) (by simp) ?_
      refine AllReadyH.cons rfl (fun K hK => ?_) AllReadyH.nil
      go_simp
      go_at_call 22
      refine (rfill_c (w.heap.size + 1) 48 64 _ (inoK i 10) _ (by omega) (by omega) (by omega) (by omega) ho6).mono ?_
      rintro e w7 ⟨v7, rfl, ho7, hs7, hm7⟩
      have hz7 := hm7.size
      have hB7 := Below.mods hB6 hm7 (fun q hq e => by have h0 := own_base ho6 _ e; omega) (by omega)
      have hk7 := hk6.mods hm7 (fun e => by have h0 := own_base ho6 _ e; omega)
      go_simp
      refine hK.out _ _ ?_ (fun hHeld => ?_)
      · exact ⟨hk7.cell 11, hk7.cell 12⟩
      clear hK K
      refine wpAnyH_take (i := 8) (oi := ⟨_, _, _, _, _, _⟩) (v := ?_) rfl (by kernel_rfl) (by kernel_rfl) (by kernel_rfl) (fun _ _ _ h => h) (Or.inl ⟨by kernel_rfl, ?_⟩) (by assumption) ?_
      rotate_left
      · (intro w hSw; (try dsimp only at hSw); go_simp; first | done | with_reducible rfl)
      simp only [Act.put, List.setIfInBounds_toArray, List.set_cons_zero, List.set_cons_succ]
      refine wpAnyH_take (i := 9) (oi := ⟨_, _, _, _, _, _⟩) (v := ?_) rfl (by kernel_rfl) (by kernel_rfl) (by kernel_rfl) (fun _ _ _ h => h) (Or.inl ⟨by kernel_rfl, ?_⟩) (by assumption) ?_
      rotate_left
      · (intro w hSw; (try dsimp only at hSw); go_simp; first | done | with_reducible rfl)
      simp only [Act.put, List.setIfInBounds_toArray, List.set_cons_zero, List.set_cons_succ]
      refine wpAnyH_done (by kernel_rfl) ?_ _
      obtain ⟨g7, cap7, rfl⟩ := own_has ho7 (by omega)
      have HO7 := Lib.hid ho7; have HB7 := Lib.hid hB7
      clear hHeld hk0 hk3 hk6 hk7 hB0 hB3 hB6 hB7 hm3 hm6 hm7 hs3 hs6 hs7 ho3 ho6 ho7 HO2
      go_wp2
      go_ret2
      exact ⟨_, _, rfl, own_mono HO7.out (by omega), HB7.out⟩
end Go.Proofs.Ytolbahfbhcpgdaa
end

section
/- The reference's entries, packed. -/
namespace Go.Proofs.Ytolbahfbhcpgdaa
open Go.RowKit
open Go.Lib (byteCells byteCells_length)

theorem strCells_chr (s : ByteArray) : Lib.strCells s = bytesL (chr s) s.size := byteCells_chr s
/-- append(b, s...) of a string, at a step of a region that draws its order -/
theorem step_app_str {P : Program} {ops : Array Oper} {o : Oper} {a : Act} {w : World} {K : Act → World → Prop} {Q : Exit → Act → World → Prop} {E : Prop} (hgd : o.guard = none) (sl x : Operand) (t u : TypeId)
    (ho : o.op = .call { callee := .builtin .append, args := #[sl, x], argTypes := #[t, u] })
    (base : Nat) (e : TypeId) (i : TypeInfo) (ht : P.underlying t = some (.slice e)) (hu : P.underlying u = some .string) (hi : P.info? e = some i) (hz : i.zero = some (.int .u8 0)) (hsize : i.size = 1) (hby : i.bytes = 1)
    (v : Value) (n : Nat) (f : Nat → Nat) (hs : a.eval sl = v) (hown : w.ownsRow base e 1 v n (bytesL f n)) (s : ByteArray) (hx : a.eval x = .string s) (hb : n + s.size ≤ 1000000) (hbase : base ≤ w.heap.size)
    (h : ∀ v' w', w'.ownsRow base e 1 v' (n + s.size) (bytesL (catF n f (chr s)) (n + s.size)) → Mods (fun k => v.ownBlock = some k) w w' → K (a.put o.dst v') w') :
    if Region.wanted o (yielded ops a.tmps) = true then Oper.wp P o a w K Q else E := by
  have hw : Region.wanted o (yielded ops a.tmps) = true := by simp [Region.wanted, hgd]
  rw [if_pos hw]
  obtain ⟨v', w', hr, h2, h3, h4⟩ := Lib.run_append_own_string (P := P) w base t u o.type e i ht hu hi hz hsize hby v n _ hown s (by unfold maxLen; omega) (by omega) hbase
  rw [strCells_chr, bytesL_append] at h2
  unfold Oper.wp execOp
  simp only [ho, resolve, invoke, builtin, Sem.run_bind, Sem.run_pure, Result.andThen_ok, List.map_toArray, List.map_cons, List.map_nil, hs, hx, hr]
  exact h v' w' h2 ((Mods.refl _ w).grown h3 fun k e _ => e)

set_option maxRecDepth 100000 in
set_option maxHeartbeats 2000000 in
theorem rpent_c (x : Nat) (s : ByteArray) (hx : x ≠ 0) (hx2 : x < 4294967296) (hs : nameOk s = true) (w : World) :
    Calls Try.prog 12 #[.agg #[.int .i64 x, .string s]] w fun e w' => ∃ G cap, e = .returned (.tuple #[.slice (some ⟨G, 0, none⟩) 32 cap, .bool true]) ∧ w'.ownsRow w.heap.size 5 1 (.slice (some ⟨G, 0, none⟩) 32 cap) 32 (bytesL (entF x s) 32) ∧ Below w.heap.size w w' := by
  obtain ⟨i0, hi0, hz0, hz1, hz2⟩ := info_parts info8
  have hsz : s.size ≤ 27 := entOk_size (ino := x) (by simp [entOk, hx, hs])
  have hs0 : 0 < s.size := by
    have h := hs
    simp only [nameOk, Bool.and_eq_true, decide_eq_true_eq] at h; exact h.1
  have d2 : (((x : Nat) : Int) == 0) = false := by simp; omega
  have NM := rname_c s (by omega)
  rw [hs] at NM
  have FT := rfits4_c x hx2
  have HNM := Lib.hid NM; have HFT := Lib.hid FT
  have bx : Blk 38 (w.alloc (.cells #[.int .i64 (x : Nat), .string s] 38)) w.heap.size [.int .i64 (x : Nat), .string s] := Blk.newL _
  have e02 : bytesL (catF 0 (fun _ => 0) (byteN x)) (0 + 4) = bytesL (byteN x) 4 := bytesL_congr fun k _ => by simp [catF]
  have HBX := Lib.hid bx; have HE02 := Lib.hid e02
  clear NM FT hs hx bx e02
  go_enter Try.func12, Try.ntmps12
  go_wp2_with (first
    | (go_at_call 20; refine (HNM.out _).mono ?_; rintro e w1 ⟨rfl, rfl⟩)
    | (go_at_call 21; refine (HFT.out _).mono ?_; rintro e w1 ⟨rfl, rfl⟩))
  have hk0 := HBX.out.drew
  have hB0 : Below w.heap.size w (w.alloc (.cells #[.int .i64 (x : Nat), .string s] 38)).drew := ((Below.refl _ w).alloc (Nat.le_refl _) _).drew
  have hs0' : w.heap.size + 1 ≤ (w.alloc (.cells #[.int .i64 (x : Nat), .string s] 38)).drew.heap.size := by simp
  refine wp_region_held_drew (S := (fun w' => w'.cell? ⟨w.heap.size, 0, none⟩ = some (.int .i64 (x : Nat)) ∧ w'.cell? ⟨w.heap.size, 1, none⟩ = some (.string s))) (by kernel_rfl) ⟨hk0.cell 0, hk0.cell 1⟩ (fun hHeld => ?_)
  refine wpAnyH_take (i := 0) (oi := ⟨_, _, _, _, _, _⟩) (v := ?_) rfl (by kernel_rfl) (by kernel_rfl) (by kernel_rfl) (fun _ _ _ h => h) (Or.inl ⟨by kernel_rfl, ?_⟩) (by assumption) ?_
  rotate_left
  · (intro w hSw; (try dsimp only at hSw); go_simp; first | done | with_reducible rfl)
  simp only [Act.put, List.setIfInBounds_toArray, List.set_cons_zero, List.set_cons_succ]
  refine wpAnyH_take (i := 1) (oi := ⟨_, _, _, _, _, _⟩) (v := ?_) rfl (by kernel_rfl) (by kernel_rfl) (by kernel_rfl) (fun _ _ _ h => h) (Or.inl ⟨by kernel_rfl, ?_⟩) (by assumption) ?_
  rotate_left
  · (intro w hSw; (try dsimp only at hSw); go_simp; first | done | with_reducible rfl)
  simp only [Act.put, List.setIfInBounds_toArray, List.set_cons_zero, List.set_cons_succ]
  refine wpAnyH_take (i := 3) (oi := ⟨_, _, _, _, _, _⟩) (v := ?_) rfl (by kernel_rfl) (by kernel_rfl) (by kernel_rfl) (fun _ _ _ h => h) (Or.inl ⟨by kernel_rfl, ?_⟩) (by assumption) ?_
  rotate_left
  · (intro w hSw; (try dsimp only at hSw); go_simp; first | done | with_reducible rfl)
  simp only [Act.put, List.setIfInBounds_toArray, List.set_cons_zero, List.set_cons_succ]
  refine wpAnyH_take (i := 4) (oi := ⟨_, _, _, _, _, _⟩) (v := ?_) rfl (by kernel_rfl) (by kernel_rfl) (by kernel_rfl) (fun _ _ _ h => h) (Or.inl ⟨by kernel_rfl, ?_⟩) (by assumption) ?_
  rotate_left
  · (intro w hSw; (try dsimp only at hSw); go_simp; first | done | with_reducible rfl)
  simp only [Act.put, List.setIfInBounds_toArray, List.set_cons_zero, List.set_cons_succ]
  refine wpAnyH_take (i := 5) (oi := ⟨_, _, _, _, _, _⟩) (v := ?_) rfl (by kernel_rfl) (by kernel_rfl) (by kernel_rfl) (fun _ _ _ h => h) (Or.inl ⟨by kernel_rfl, ?_⟩) (by assumption) ?_
  rotate_left
  · (intro w hSw; (try dsimp only at hSw); go_simp; first | done | with_reducible rfl)
  simp only [Act.put, List.setIfInBounds_toArray, List.set_cons_zero, List.set_cons_succ]
  refine wpAnyH_take (i := 7) (oi := ⟨_, _, _, _, _, _⟩) (v := ?_) rfl (by kernel_rfl) (by kernel_rfl) (by kernel_rfl) (fun _ _ _ h => h) (Or.inl ⟨by kernel_rfl, ?_⟩) (by assumption) ?_
  rotate_left
  · (intro w hSw; (try dsimp only at hSw); go_simp; first | done | with_reducible rfl)
  simp only [Act.put, List.setIfInBounds_toArray, List.set_cons_zero, List.set_cons_succ]
  refine wpAnyH_take (i := 8) (oi := ⟨_, _, _, _, _, _⟩) (v := ?_) rfl (by kernel_rfl) (by kernel_rfl) (by kernel_rfl) (fun _ _ _ h => h) (Or.inl ⟨by kernel_rfl, ?_⟩) (by assumption) ?_
  rotate_left
  · (intro w hSw; (try dsimp only at hSw); go_simp; first | done | with_reducible rfl)
  simp only [Act.put, List.setIfInBounds_toArray, List.set_cons_zero, List.set_cons_succ]
  generalize (w.alloc (.cells #[.int .i64 (x : Nat), .string s] 38)).drew = W0 at hk0 hB0 hs0' hHeld ⊢
  refine wpAnyH_ready (rs := [2]) (by kernel_rfl) (by simp) ?_
  refine AllReadyH.cons rfl (fun K hK => ?_) AllReadyH.nil
  go_simp
  go_at_call 23
  refine (rput2_c (w.heap.size + 1) 0 x 4 _ (fun _ => 0) _ (by omega) (by omega) hx2 (by omega) hs0' (.inl (World.ownsRow_nil _ _ _ _))).mono ?_
  rintro e w2 ⟨v2, rfl, ho2, hs2, hm2⟩
  rw [HE02.out] at ho2
  have hz2' := hm2.size
  have hB2 := Below.mods hB0 hm2 (fun i hi e => by cases e) (by omega)
  have hk2 := hk0.mods hm2 (fun e => by cases e)
  go_simp
  refine hK.out _ _ ?_ (fun hHeld => ?_)
  · exact ⟨hk2.cell 0, hk2.cell 1⟩
  clear hK K
  refine wpAnyH_ready (rs := [6]) (by kernel_rfl) (by simp) ?_
  refine AllReadyH.cons rfl (fun K hK => ?_) AllReadyH.nil
  go_simp
  go_at_call 23
  refine (rput2_c (w.heap.size + 1) 4 s.size 1 _ (byteN x) _ (by omega) (by omega) (by omega) (by omega) (by omega) (.inl ho2)).mono ?_
  rintro e w6 ⟨v6, rfl, ho6, hs6, hm6⟩
  have hz6 := hm6.size
  have hB6 := Below.mods hB2 hm6 (fun i hi e => by have h0 := own_base ho2 _ e; omega) (by omega)
  have hk6 := hk2.mods hm6 (fun e => by have h0 := own_base ho2 _ e; omega)
  go_simp
  refine hK.out _ _ ?_ (fun hHeld => ?_)
  · exact ⟨hk6.cell 0, hk6.cell 1⟩
  clear hK K
  refine wpAnyH_ready (rs := [9]) (by kernel_rfl) (by simp) ?_
  refine AllReadyH.cons rfl (fun K hK => ?_) AllReadyH.nil
  refine step_app_str rfl _ _ 22 9 rfl (w.heap.size + 1) 5 i0 Try.underlying22 Try.underlying9 hi0 hz0 hz1 hz2 v6 5 _ (by rfl) ho6 s (by rfl) (by omega) (by omega) ?_
  intro v9 w9 ho9 hm9
  have hz9 := hm9.size
  have hB9 := Below.mods hB6 hm9 (fun i hi e => by have h0 := own_base ho6 _ e; omega) (by omega)
  have hk9 := hk6.mods hm9 (fun e => by have h0 := own_base ho6 _ e; omega)
  simp only [Act.put, List.setIfInBounds_toArray, List.set_cons_zero, List.set_cons_succ]
  refine hK.out _ _ ?_ (fun hHeld => ?_)
  · exact ⟨hk9.cell 0, hk9.cell 1⟩
  clear hK K
  refine wpAnyH_ready (rs := [10]) (by kernel_rfl) (by simp) ?_
  refine AllReadyH.cons rfl (fun K hK => ?_) AllReadyH.nil
  go_simp
  go_at_call 22
  refine (rfill_c (w.heap.size + 1) (5 + s.size) 32 _ _ _ (by omega) (by omega) (by omega) (by omega) ho9).mono ?_
  rintro e w10 ⟨v10, rfl, ho10, hs10, hm10⟩
  have hB10 := Below.mods hB9 hm10 (fun i hi e => by have h0 := own_base ho9 _ e; omega) (by omega)
  have hk10 := hk9.mods hm10 (fun e => by have h0 := own_base ho9 _ e; omega)
  go_simp
  refine hK.out _ _ ?_ (fun hHeld => ?_)
  · exact ⟨hk10.cell 0, hk10.cell 1⟩
  clear hK K
  refine wpAnyH_take (i := 11) (oi := ⟨_, _, _, _, _, _⟩) (v := ?_) rfl (by kernel_rfl) (by kernel_rfl) (by kernel_rfl) (fun _ _ _ h => h) (Or.inl ⟨by kernel_rfl, ?_⟩) (by assumption) ?_
  rotate_left
  · (intro w hSw; (try dsimp only at hSw); go_simp; first | done | with_reducible rfl)
  simp only [Act.put, List.setIfInBounds_toArray, List.set_cons_zero, List.set_cons_succ]
  refine wpAnyH_take (i := 12) (oi := ⟨_, _, _, _, _, _⟩) (v := ?_) rfl (by kernel_rfl) (by kernel_rfl) (by kernel_rfl) (fun _ _ _ h => h) (Or.inl ⟨by kernel_rfl, ?_⟩) (by assumption) ?_
  rotate_left
  · (intro w hSw; (try dsimp only at hSw); go_simp; first | done | with_reducible rfl)
  simp only [Act.put, List.setIfInBounds_toArray, List.set_cons_zero, List.set_cons_succ]
  refine wpAnyH_done (by kernel_rfl) ?_ _
  obtain ⟨g7, cap7, rfl⟩ := own_has ho10 (by omega)
  have e2 : bytesL (catF (5 + s.size) (catF (4 + 1) (catF 4 (byteN x) (byteN s.size)) (chr s)) fun _ => 0) 32 = bytesL (entF x s) 32 := bytesL_congr fun k hk => by
    unfold entF putF catF
    by_cases h1 : k < 4
    · rw [if_pos (by omega), if_pos (by omega), if_pos h1, if_neg (by omega)]; dsimp only; rw [if_pos h1]
    · by_cases h2 : k = 4
      · subst h2
        rw [if_pos (by omega), if_pos (by omega), if_neg (by omega), if_neg (by omega)]
        show s.size / 256 ^ 0 % 256 = s.size
        simp; omega
      · by_cases h3 : k < 5 + s.size
        · rw [if_pos h3, if_neg (by omega), if_pos (by omega)]
        · rw [if_neg h3, if_neg (by omega)]; dsimp only; rw [if_neg h1, if_neg h2]
  replace ho10 : w10.ownsRow (w.heap.size + 1) 5 1 (.slice (some ⟨g7, 0, none⟩) 32 cap7) 32 (bytesL (entF x s) 32) := by rw [← e2]; exact ho10
  have HO10 := Lib.hid ho10; have HB10 := Lib.hid hB10
  clear hHeld hk0 hk2 hk6 hk9 hk10 hB0 hB2 hB6 hB9 hB10 hm2 hm6 hm9 hm10 hs2 hs6 hs10 ho2 ho6 ho9 ho10 e2
  go_wp2
  go_ret2
  exact ⟨_, _, rfl, own_mono HO10.out (by omega), HB10.out⟩
end Go.Proofs.Ytolbahfbhcpgdaa
end

section
/- The reference's blocks of entries, packed. -/
namespace Go.Proofs.Ytolbahfbhcpgdaa
open Go.RowKit

set_option maxRecDepth 100000 in
set_option maxHeartbeats 2000000 in
theorem rpents_c (lb n cap : Nat) (E : Nat → Nat × ByteArray) (w : World) (hn : n ≤ 32) (hn0 : 0 < n) (hE : ∀ k, k < n → (E k).1 ≠ 0 ∧ (E k).1 < 4294967296 ∧ nameOk (E k).2 = true) (h : RdE w lb n E) :
    Calls Try.prog 26 #[.slice (some ⟨lb, 0, none⟩) n cap] w fun e w' => ∃ G cap, e = .returned (.tuple #[.slice (some ⟨G, 0, none⟩) 1024 cap, .bool true]) ∧ w'.ownsRow w.heap.size 5 1 (.slice (some ⟨G, 0, none⟩) 1024 cap) 1024 (bytesL (pbF E n) 1024) ∧ Below w.heap.size w w' := by
  obtain ⟨i0, hi0, hz0, hz1, hz2⟩ := info_parts info8
  have hlb := h.lt hn0
  have hd : decide (32 < n) = false := by simp; omega
  have HR := Lib.hid h
  have HE := Lib.hid hE
  clear h hE
  go_enter Try.func26, Try.ntmps26
  go_wp2
  go_loopw [4, 5] (fun v i wr => ∃ k : Nat, k ≤ n ∧ i = .int .i64 k ∧ wr.ownsRow w.heap.size 5 1 v (32 * k) (bytesL (pbF E k) (32 * k)) ∧ Below w.heap.size w wr) (fun _ i _ => n - (intOf i).toNat)
  case atStart => exact ⟨0, by omega, rfl, World.ownsRow_nil _ _ _ _, Below.refl _ _⟩
  case round =>
    obtain ⟨k, hk, rfl, hown, hB⟩ := hrel
    have hsz := hB.size
    by_cases hlt : k < n
    · obtain ⟨c0, c1⟩ := (HR.out.below hB hlb) k hlt
      obtain ⟨x1, x2, x3⟩ := HE.out k hlt
      have PE := fun W => rpent_c (E k).1 (E k).2 x1 x2 x3 W
      have HPE := Lib.hid PE; have HO := Lib.hid hown; have HB := Lib.hid hB
      have hlw : lb < wr.heap.size := by omega
      have hk32 : 32 * k + 32 ≤ 1024 := by omega
      clear x1 x2 x3 PE hown hB
      go_wp2_with (first
        | (go_at_call 12; refine (HPE.out _).mono ?_; rintro e w2 ⟨g2, cap2, rfl, ho2, hb2⟩; have hr2 := own_rdB ho2; have hO2 := own_below HO.out hb2; have hz2' := hb2.size)
        | (at_builtin; refine app_bytes rfl _ _ 22 rfl w.heap.size 5 i0 Try.underlying22 hi0 hz0 hz1 hz2 _ (32 * k) (pbF E k) rfl (by exact .inl hO2) g2 0 32 cap2 _ rfl hr2 (by omega) (by omega) (by omega) ?_; intro g5 cap5 w3 ho5 hgr5 hat5))
      go_roundw
      case rel =>
        have hm3 : Mods (fun q => w.heap.size ≤ q) w2 w3 := (Mods.refl _ w2).grown hgr5 fun q e _ => own_base hO2 q e
        refine ⟨k + 1, by omega, by go_num, ?_, Below.mods (HB.out.trans (hb2.mono hsz)) hm3 (fun i hi e => by omega) (by omega)⟩
        rw [pbF_succ] at ho5
        exact ho5
      case measure => simp [intOf]; omega
    · obtain rfl : k = n := by omega
      have HO := Lib.hid hown; have HB := Lib.hid hB
      clear hown hB hlt
      obtain ⟨g9, cap9, hv⟩ := own_has HO.out (by omega)
      subst hv
      go_wp2_with (go_at_call 22; refine (rfill_c w.heap.size (32 * k) 1024 _ (pbF E k) _ (by omega) (by omega) (by omega) (by omega) HO.out).mono ?_; rintro e w3 ⟨v3, rfl, ho3, hs3, hm3⟩)
      obtain ⟨g3, cap3, rfl⟩ := own_has ho3 (by omega)
      go_ret2
      refine ⟨g3, cap3, rfl, ?_, Below.mods HB.out hm3 (fun i hi e => by have h0 := own_base HO.out _ e; omega) (by omega)⟩
      have e1 : bytesL (catF (32 * k) (pbF E k) fun _ => 0) 1024 = bytesL (pbF E k) 1024 := bytesL_congr fun j _ => by
        unfold catF pbF
        by_cases hj : j < 32 * k
        · simp [hj]
        · simp [hj]
      rw [← e1]
      exact ho3
end Go.Proofs.Ytolbahfbhcpgdaa
end
