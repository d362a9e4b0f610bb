/- Part of the road to NamesRow: LawU. -/
import Derived.Test.YtolbahfbhcpgdaaNames01
set_option linter.all false
set_option linter.unusedSimpArgs false
set_option linter.unusedVariables false
set_option linter.unusedSectionVars false
section
/- FsckNames: the case 6, and those out of range. -/
namespace Go.Proofs.Ytolbahfbhcpgdaa
open Go.RowKit

theorem own6 {w : World} {base G cap n : Nat} (h : w.ownsRow base 5 1 (.slice (some ⟨G, 0, none⟩) 23552 cap) 23552 (bytesL (trF 20 n) 23552)) : (w.setCell ⟨G, 3743, none⟩ (.int .u8 7)).ownsRow base 5 1 (.slice (some ⟨G, 0, none⟩) 23552 cap) 23552 (bytesL (namH n 6) 23552) :=
  own_set h (i := 3743) (by omega) 7 (u := .int .u8 7) rfl

set_option maxRecDepth 100000 in
set_option maxHeartbeats 8000000 in
theorem names_out (n : Nat) (k : Int) (w : World) (hn : n ≤ 9) (h1 : 1 ≤ n) (hk : k < 0 ∨ 6 < k) : Calls Try.prog 6 #[.int .i64 n, .int .i64 k] w fun e w' => e = .returned (.bool true) ∧ Below w.heap.size w w' := by
  have AL := alive_c
  have TR := tree_c n hn
  have D0 : ∀ W : World, Calls Try.prog 11 #[.agg #[.int .i64 1, .int .i64 1, .int .i64 20], .int .i64 0] W fun e w' => e = .returned (.tuple #[.int .i64 3, .bool true]) ∧ Below W.heap.size W w' := fun W => by
    have h := rdata_c (geo1 20) (geo1_ok (m := 20) (by decide) (by decide)) 0 (by decide) W
    exact h
  have gk : ∀ W : World, Blk 25 (W.alloc (.cells #[.int .i64 1, .int .i64 1, .int .i64 20] 25)) W.heap.size [.int .i64 1, .int .i64 1, .int .i64 20] := fun W => Blk.newL _
  have HAL := Lib.hid AL; have HTR := Lib.hid TR; have HD0 := Lib.hid D0; have HGK := Lib.hid gk
  have d0 : decide ((n : Int) < 1) = false := by simp; omega
  have d1 : decide ((9 : Int) < (n : Int)) = false := by simp; omega
  clear AL TR D0 gk
  by_cases h2 : k < 0
  · have d2 : decide (k < 0) = true := by simpa using h2
    clear hk h2
    go_enter Try.func6, Try.ntmps6
    go_wp2_with (first
    | (go_at_call 7; refine (HAL.out _).mono ?_; rintro e w1 ⟨rfl, hb1⟩; have HB1 := Lib.hid hb1; have hz1 := hb1.size; have k1 := HGK.out w1; have c0 := k1.cell 0; have c1 := k1.cell 1; have c2 := k1.cell 2; simp only [List.getElem?_cons_zero, List.getElem?_cons_succ] at c0 c1 c2; have HK1 := Lib.hid k1; clear hb1 k1)
    | (go_at_call 8; refine (HTR.out _).mono ?_; rintro e w2 ⟨G, cap, rfl, ho2, hb2⟩; obtain ⟨l1, l2, l3, l4⟩ := own_len ho2; unfold maxLen at l4; have hz2 := hb2.size; have hk2 := HK1.out.below hb2 (by simp); have g0 := hk2.cell 0; have g1 := hk2.cell 1; have g2 := hk2.cell 2; simp only [List.getElem?_cons_zero, List.getElem?_cons_succ] at g0 g1 g2; have HK2 := Lib.hid hk2; have HO2 := Lib.hid ho2; have HB2 := Lib.hid hb2; clear ho2 hb2 hk2)
    | (go_at_call 11; refine (HD0.out _).mono ?_; rintro e w3 ⟨rfl, hb3⟩; have hz3 := hb3.size; have HB3 := Lib.hid hb3; clear hb3; clear g0 g1 g2; have hp3 := own_get (own_below HO2.out HB3.out) (i := 3743) (by omega); obtain ⟨p1, p2⟩ := hp3; have l5 : G < w3.heap.size := by omega))
    have lw1 : w1.heap.size < w2.heap.size := by simp at hz2; omega
    have hBw2 : Below w.heap.size w w2 := ((HB1.out.alloc hz1 _).trans (HB2.out.mono (by simp; omega)))
    have hBw3 := hBw2.trans (HB3.out.mono hBw2.size)
    go_ret
    exact ⟨rfl, hBw3.alloc hBw3.size _⟩
  · have d2 : decide (k < 0) = false := by simpa using h2
    have h3 : 6 < k := by omega
    have d3 : decide (6 < k) = true := by simpa using h3
    clear hk h2 h3
    go_enter Try.func6, Try.ntmps6
    go_wp2_with (first
    | (go_at_call 7; refine (HAL.out _).mono ?_; rintro e w1 ⟨rfl, hb1⟩; have HB1 := Lib.hid hb1; have hz1 := hb1.size; have k1 := HGK.out w1; have c0 := k1.cell 0; have c1 := k1.cell 1; have c2 := k1.cell 2; simp only [List.getElem?_cons_zero, List.getElem?_cons_succ] at c0 c1 c2; have HK1 := Lib.hid k1; clear hb1 k1)
    | (go_at_call 8; refine (HTR.out _).mono ?_; rintro e w2 ⟨G, cap, rfl, ho2, hb2⟩; obtain ⟨l1, l2, l3, l4⟩ := own_len ho2; unfold maxLen at l4; have hz2 := hb2.size; have hk2 := HK1.out.below hb2 (by simp); have g0 := hk2.cell 0; have g1 := hk2.cell 1; have g2 := hk2.cell 2; simp only [List.getElem?_cons_zero, List.getElem?_cons_succ] at g0 g1 g2; have HK2 := Lib.hid hk2; have HO2 := Lib.hid ho2; have HB2 := Lib.hid hb2; clear ho2 hb2 hk2)
    | (go_at_call 11; refine (HD0.out _).mono ?_; rintro e w3 ⟨rfl, hb3⟩; have hz3 := hb3.size; have HB3 := Lib.hid hb3; clear hb3; clear g0 g1 g2; have hp3 := own_get (own_below HO2.out HB3.out) (i := 3743) (by omega); obtain ⟨p1, p2⟩ := hp3; have l5 : G < w3.heap.size := by omega))
    have lw1 : w1.heap.size < w2.heap.size := by simp at hz2; omega
    have hBw2 : Below w.heap.size w w2 := ((HB1.out.alloc hz1 _).trans (HB2.out.mono (by simp; omega)))
    have hBw3 := hBw2.trans (HB3.out.mono hBw2.size)
    go_ret
    exact ⟨rfl, hBw3.alloc hBw3.size _⟩

set_option maxRecDepth 100000 in
set_option maxHeartbeats 8000000 in
theorem names_6 (n : Nat) (w : World) (hn : n ≤ 9) (h1 : 1 ≤ n) : Calls Try.prog 6 #[.int .i64 n, .int .i64 6] w fun e w' => e = .returned (.bool true) ∧ Below w.heap.size w w' := by
  have RP := fun W base G cap ho => lrep_c (m := 20) (n := n) (N := 23552) (h := namH n 6) hn (by omega) (by decide) (by decide) (by decide) (fun k hk => head_20 ⟨n, by omega⟩ ⟨k, hk⟩) (like_names hn h1) (fun q h1 h2 => namH_far n 6 q (by omega)) W base G cap ho
  rw [unlike_names hn] at RP
  have CV := fun G cap W hr => conv_tree G cap n hn W hr
  obtain ⟨ST, hST⟩ : ∃ s, s = strOf (trF 20 n) 23552 := ⟨_, rfl⟩
  simp only [← hST] at CV
  have HRP := Lib.hid RP; have HCV := Lib.hid CV
  clear RP CV hST
  have AL := alive_c
  have TR := tree_c n hn
  have D0 : ∀ W : World, Calls Try.prog 11 #[.agg #[.int .i64 1, .int .i64 1, .int .i64 20], .int .i64 0] W fun e w' => e = .returned (.tuple #[.int .i64 3, .bool true]) ∧ Below W.heap.size W w' := fun W => by
    have h := rdata_c (geo1 20) (geo1_ok (m := 20) (by decide) (by decide)) 0 (by decide) W
    exact h
  have gk : ∀ W : World, Blk 25 (W.alloc (.cells #[.int .i64 1, .int .i64 1, .int .i64 20] 25)) W.heap.size [.int .i64 1, .int .i64 1, .int .i64 20] := fun W => Blk.newL _
  have HAL := Lib.hid AL; have HTR := Lib.hid TR; have HD0 := Lib.hid D0; have HGK := Lib.hid gk
  have d0 : decide ((n : Int) < 1) = false := by simp; omega
  have d1 : decide ((9 : Int) < (n : Int)) = false := by simp; omega
  clear AL TR D0 gk
  go_enter Try.func6, Try.ntmps6
  go_wp2_with (first
    | (go_at_call 7; refine (HAL.out _).mono ?_; rintro e w1 ⟨rfl, hb1⟩; have HB1 := Lib.hid hb1; have hz1 := hb1.size; have k1 := HGK.out w1; have c0 := k1.cell 0; have c1 := k1.cell 1; have c2 := k1.cell 2; simp only [List.getElem?_cons_zero, List.getElem?_cons_succ] at c0 c1 c2; have HK1 := Lib.hid k1; clear hb1 k1)
    | (go_at_call 8; refine (HTR.out _).mono ?_; rintro e w2 ⟨G, cap, rfl, ho2, hb2⟩; obtain ⟨l1, l2, l3, l4⟩ := own_len ho2; unfold maxLen at l4; have hz2 := hb2.size; have hk2 := HK1.out.below hb2 (by simp); have g0 := hk2.cell 0; have g1 := hk2.cell 1; have g2 := hk2.cell 2; simp only [List.getElem?_cons_zero, List.getElem?_cons_succ] at g0 g1 g2; have HK2 := Lib.hid hk2; have HO2 := Lib.hid ho2; have HB2 := Lib.hid hb2; clear ho2 hb2 hk2)
    | (go_at_call 11; refine (HD0.out _).mono ?_; rintro e w3 ⟨rfl, hb3⟩; have hz3 := hb3.size; have HB3 := Lib.hid hb3; clear hb3; clear g0 g1 g2; have hp3 := own_get (own_below HO2.out HB3.out) (i := 3743) (by omega); obtain ⟨p1, p2⟩ := hp3; have l5 : G < w3.heap.size := by omega)
    | (go_at_call 9; refine (HRP.out _ _ _ _ (own_below (own6 (own_below HO2.out HB3.out)) ((Below.refl _ _).alloc (Nat.le_refl _) _))).mono ?_; rintro e w8 ⟨G4, cap4, v4, rfl, ho4, hv4, hb4⟩; obtain ⟨A5, cap5, rfl, _, hc5⟩ := own_one hv4; have hz4 := hb4.size; have HO4 := Lib.hid ho4; have HB4 := Lib.hid hb4; have HC5 := Lib.hid hc5; clear ho4 hv4 hb4 hc5))
  have lw1 : w1.heap.size < w2.heap.size := by simp at hz2; omega
  have lG1 : w1.heap.size < G := by simp at l1; omega
  have hBw2 : Below w.heap.size w w2 := ((HB1.out.alloc hz1 _).trans (HB2.out.mono (by simp; omega)))
  have nW : (G : Nat) ≠ w1.heap.size := by omega
  have hwG : w.heap.size ≤ G := by omega
  have hk3 := HK2.out.below HB3.out HK2.out.lt
  have lk3 := hk3.lt
  have hk4 := (((hk3.other ⟨G, 3743, none⟩ _ nW).below ((Below.refl _ _).alloc (Nat.le_refl _) _) (by simp; omega))).below HB4.out (by simp; omega)
  have hr4 := own_rdB HO4.out
  have hc4 : w8.cell? ⟨A5, 0, none⟩ = some (.int .i64 3) := HC5.out
  have lk4 := hk4.lt
  have hwz := hBw2.size
  have hBw3 := hBw2.trans (HB3.out.mono hBw2.size)
  have hwz3 := hBw3.size
  have hBw4 := ((hBw3.setCell (p := ⟨G, 3743, none⟩) hwG _).alloc (by simp; omega) _).trans (HB4.out.mono (by simp; omega))
  have g0 := hk4.cell 0; have g1 := hk4.cell 1; have g2 := hk4.cell 2
  simp only [List.getElem?_cons_zero, List.getElem?_cons_succ] at g0 g1 g2
  have HBW4 := Lib.hid hBw4
  clear hBw4 hBw2
  refine wp_region_held_drew (S := (fun w' => w'.cell? ⟨w1.heap.size, 0, none⟩ = some (.int .i64 1) ∧ w'.cell? ⟨w1.heap.size, 1, none⟩ = some (.int .i64 1) ∧ w'.cell? ⟨w1.heap.size, 2, none⟩ = some (.int .i64 20) ∧ RdB w' G4 0 23552 (trF 20 n) ∧ w'.cell? ⟨A5, 0, none⟩ = some (.int .i64 3))) (by kernel_rfl) ⟨g0, g1, g2, hr4.below (Below.refl _ _).drew, hc4⟩ (fun hHeld => ?_)
  refine wpAnyH_take (i := 0) (oi := ⟨_, _, _, _, _, _⟩) (v := ?_) rfl (by kernel_rfl) (by kernel_rfl) (by kernel_rfl) (fun _ _ _ h => h) (Or.inl ⟨by kernel_rfl, ?_⟩) (by assumption) ?_
  rotate_left
  · (intro w hSw; (try dsimp only at hSw); go_simp; first | done | with_reducible rfl)
  simp only [Act.put, List.setIfInBounds_toArray, List.set_cons_zero, List.set_cons_succ]
  refine wpAnyH_take (i := 1) (oi := ⟨_, _, _, _, _, _⟩) (v := ?_) rfl (by kernel_rfl) (by kernel_rfl) (by kernel_rfl) (fun _ _ _ h => h) (Or.inl ⟨by kernel_rfl, ?_⟩) (by assumption) ?_
  rotate_left
  · (intro w hSw; (try dsimp only at hSw); go_simp; first | done | with_reducible rfl)
  simp only [Act.put, List.setIfInBounds_toArray, List.set_cons_zero, List.set_cons_succ]
  refine wpAnyH_take (i := 2) (oi := ⟨_, _, _, _, _, _⟩) (v := ?_) rfl (by kernel_rfl) (by kernel_rfl) (by kernel_rfl) (fun _ _ _ h => h) (Or.inl ⟨by kernel_rfl, ?_⟩) (by assumption) ?_
  rotate_left
  · (intro w hSw; (try dsimp only at hSw); go_simp; first | done | with_reducible rfl)
  simp only [Act.put, List.setIfInBounds_toArray, List.set_cons_zero, List.set_cons_succ]
  refine wpAnyH_take (i := 3) (oi := ⟨_, _, _, _, _, _⟩) (v := ?_) rfl (by kernel_rfl) (by kernel_rfl) (by kernel_rfl) (fun _ _ _ h => h) (Or.inl ⟨by kernel_rfl, ?_⟩) (by assumption) ?_
  rotate_left
  · (intro w hSw; (try dsimp only at hSw); go_simp; first | done | with_reducible rfl)
  simp only [Act.put, List.setIfInBounds_toArray, List.set_cons_zero, List.set_cons_succ]
  refine wpAnyH_take (i := 4) (oi := ⟨_, _, _, _, _, _⟩) (v := ?_) rfl (by kernel_rfl) (by kernel_rfl) (by kernel_rfl) (fun _ _ _ h => h) (Or.inl ⟨by kernel_rfl, ?_⟩) (by assumption) ?_
  rotate_left
  · (intro w hSw; (try dsimp only at hSw); go_simp; first | done | with_reducible rfl)
  simp only [Act.put, List.setIfInBounds_toArray, List.set_cons_zero, List.set_cons_succ]
  refine wpAnyH_take (i := 5) (oi := ⟨_, _, _, _, _, _⟩) (v := ?_) rfl (by kernel_rfl) (by kernel_rfl) (by kernel_rfl) (fun _ _ _ h => h) (Or.inl ⟨by kernel_rfl, ?_⟩) (by assumption) ?_
  rotate_left
  · (intro w hSw; (try dsimp only at hSw); go_simp; first | done | with_reducible rfl)
  simp only [Act.put, List.setIfInBounds_toArray, List.set_cons_zero, List.set_cons_succ]
  refine wpAnyH_take (i := 6) (oi := ⟨_, _, _, _, _, _⟩) (v := ?_) rfl (by kernel_rfl) (by kernel_rfl) (by kernel_rfl) (fun _ _ _ h => h) (Or.inl ⟨by kernel_rfl, ?_⟩) (by assumption) ?_
  rotate_left
  · (intro w hSw; (try dsimp only at hSw); go_simp; first | done | with_reducible rfl)
  simp only [Act.put, List.setIfInBounds_toArray, List.set_cons_zero, List.set_cons_succ]
  refine wpAnyH_take (i := 7) (oi := ⟨_, _, _, _, _, _⟩) (v := ?_) rfl (by kernel_rfl) (by kernel_rfl) (by kernel_rfl) (fun _ _ _ h => h) (Or.inl ⟨by kernel_rfl, ?_⟩) (by assumption) ?_
  rotate_left
  · (intro w hSw; (try dsimp only at hSw); go_simp; first | done | with_reducible rfl)
  simp only [Act.put, List.setIfInBounds_toArray, List.set_cons_zero, List.set_cons_succ]
  refine wpAnyH_take (i := 8) (oi := ⟨_, _, _, _, _, _⟩) (v := ?_) rfl (by kernel_rfl) (by kernel_rfl) (by kernel_rfl) (fun _ _ _ h => h) (Or.inl ⟨by kernel_rfl, ?_⟩) (by assumption) ?_
  rotate_left
  · (intro w hSw; (try dsimp only at hSw); go_simp; first | done | with_reducible rfl)
  simp only [Act.put, List.setIfInBounds_toArray, List.set_cons_zero, List.set_cons_succ]
  refine wpAnyH_take (i := 9) (oi := ⟨_, _, _, _, _, _⟩) (v := ?_) rfl (by kernel_rfl) (by kernel_rfl) (by kernel_rfl) (fun _ _ _ h => h) (Or.inl ⟨by kernel_rfl, ?_⟩) (by assumption) ?_
  rotate_left
  · (intro w hSw; (try dsimp only at hSw); go_simp; first | done | with_reducible rfl)
  simp only [Act.put, List.setIfInBounds_toArray, List.set_cons_zero, List.set_cons_succ]
  refine wpAnyH_take (i := 10) (oi := ⟨_, _, _, _, _, _⟩) (v := ?_) rfl (by kernel_rfl) (by kernel_rfl) (by kernel_rfl) (fun _ _ _ h => h) (Or.inl ⟨by kernel_rfl, ?_⟩) (by assumption) ?_
  rotate_left
  · (intro w hSw; (try dsimp only at hSw); go_simp; first | done | with_reducible rfl)
  simp only [Act.put, List.setIfInBounds_toArray, List.set_cons_zero, List.set_cons_succ]
  refine wpAnyH_take (i := 11) (oi := ⟨_, _, _, _, _, _⟩) (v := ?_) rfl (by kernel_rfl) (by kernel_rfl) (by kernel_rfl) (fun _ _ _ h => h) (Or.inl ⟨by kernel_rfl, ?_⟩) (by assumption) ?_
  rotate_left
  · (intro w hSw; (try dsimp only at hSw); go_simp; first | done | with_reducible rfl)
  simp only [Act.put, List.setIfInBounds_toArray, List.set_cons_zero, List.set_cons_succ]
  refine wpAnyH_take (i := 12) (oi := ⟨_, _, _, _, _, _⟩) (v := ?_) rfl (by kernel_rfl) (by kernel_rfl) (by kernel_rfl) (fun _ _ _ h => h) (Or.inl ⟨by kernel_rfl, ?_⟩) (by assumption) ?_
  rotate_left
  · (intro w hSw; (try dsimp only at hSw); go_simp; first | done | with_reducible rfl)
  simp only [Act.put, List.setIfInBounds_toArray, List.set_cons_zero, List.set_cons_succ]
  refine wpAnyH_take (i := 13) (oi := ⟨_, _, _, _, _, _⟩) (v := ?_) rfl (by kernel_rfl) (by kernel_rfl) (by kernel_rfl) (fun _ _ _ h => h) (Or.inl ⟨by kernel_rfl, ?_⟩) (by assumption) ?_
  rotate_left
  · (intro w hSw; (try dsimp only at hSw); go_simp; first | done | with_reducible rfl)
  simp only [Act.put, List.setIfInBounds_toArray, List.set_cons_zero, List.set_cons_succ]
  refine wpAnyH_take (i := 14) (oi := ⟨_, _, _, _, _, _⟩) (v := ?_) rfl (by kernel_rfl) (by kernel_rfl) (by kernel_rfl) (fun _ _ _ h => h) (Or.inl ⟨by kernel_rfl, ?_⟩) (by assumption) ?_
  rotate_left
  · (intro w hSw; (try dsimp only at hSw); go_simp; first | done | with_reducible rfl)
  simp only [Act.put, List.setIfInBounds_toArray, List.set_cons_zero, List.set_cons_succ]
  refine wpAnyH_take (i := 15) (oi := ⟨_, _, _, _, _, _⟩) (v := ?_) rfl (by kernel_rfl) (by kernel_rfl) (by kernel_rfl) (fun _ _ _ h => h) (Or.inl ⟨by kernel_rfl, ?_⟩) (by assumption) ?_
  rotate_left
  · (intro w hSw; (try dsimp only at hSw); have cv := HCV.out G4 cap4 _ hSw.2.2.2.1; go_simp; first | done | with_reducible rfl)
  simp only [Act.put, List.setIfInBounds_toArray, List.set_cons_zero, List.set_cons_succ]
  refine wpAnyH_take (i := 16) (oi := ⟨_, _, _, _, _, _⟩) (v := ?_) rfl (by kernel_rfl) (by kernel_rfl) (by kernel_rfl) (fun _ _ _ h => h) (Or.inl ⟨by kernel_rfl, ?_⟩) (by assumption) ?_
  rotate_left
  · (intro w hSw; (try dsimp only at hSw); go_simp; first | done | with_reducible rfl)
  simp only [Act.put, List.setIfInBounds_toArray, List.set_cons_zero, List.set_cons_succ]
  refine wpAnyH_take (i := 17) (oi := ⟨_, _, _, _, _, _⟩) (v := ?_) rfl (by kernel_rfl) (by kernel_rfl) (by kernel_rfl) (fun _ _ _ h => h) (Or.inl ⟨by kernel_rfl, ?_⟩) (by assumption) ?_
  rotate_left
  · (intro w hSw; (try dsimp only at hSw); go_simp; first | done | with_reducible rfl)
  simp only [Act.put, List.setIfInBounds_toArray, List.set_cons_zero, List.set_cons_succ]
  refine wpAnyH_ready (rs := [18]) (by kernel_rfl) (by simp) ?_
  refine AllReadyH.cons rfl (fun K hK => ?_) AllReadyH.nil
  go_simp
  go_at_call 8
  refine (HTR.out _).mono ?_
  rintro e w9 ⟨G5, cap9, rfl, ho5, hb5⟩
  have hb5' : Below w8.heap.size w8 w9 := (Below.refl w8.heap.size w8).drew.trans hb5
  have hk5 := hk4.below hb5' lk4
  have hr5 := hr4.below hb5'
  have hc6 : w9.cell? ⟨A5, 0, none⟩ = some (.int .i64 3) := by rw [hb5'.cell (p := ⟨A5, 0, none⟩) (lt_of_cell hc4)]; exact hc4
  have hs5 := own_rdB ho5
  go_simp
  refine hK.out _ _ ?_ (fun hHeld => ?_)
  · exact ⟨hk5.cell 0, hk5.cell 1, hk5.cell 2, hr5, hc6⟩
  clear hK K
  refine anyH_mono (fun w' => (w'.cell? ⟨w1.heap.size, 0, none⟩ = some (.int .i64 1) ∧ w'.cell? ⟨w1.heap.size, 1, none⟩ = some (.int .i64 1) ∧ w'.cell? ⟨w1.heap.size, 2, none⟩ = some (.int .i64 20) ∧ RdB w' G4 0 23552 (trF 20 n) ∧ w'.cell? ⟨A5, 0, none⟩ = some (.int .i64 3)) ∧ RdB w' G5 0 23552 (trF 20 n)) (fun w h => h.1) _ _ _ _ ?_
  replace hHeld : (fun w' => (w'.cell? ⟨w1.heap.size, 0, none⟩ = some (.int .i64 1) ∧ w'.cell? ⟨w1.heap.size, 1, none⟩ = some (.int .i64 1) ∧ w'.cell? ⟨w1.heap.size, 2, none⟩ = some (.int .i64 20) ∧ RdB w' G4 0 23552 (trF 20 n) ∧ w'.cell? ⟨A5, 0, none⟩ = some (.int .i64 3)) ∧ RdB w' G5 0 23552 (trF 20 n)) _ := ⟨hHeld, hs5⟩
  refine wpAnyH_take (i := 19) (oi := ⟨_, _, _, _, _, _⟩) (v := ?_) rfl (by kernel_rfl) (by kernel_rfl) (by kernel_rfl) (fun _ _ _ h => h) (Or.inl ⟨by kernel_rfl, ?_⟩) (by assumption) ?_
  rotate_left
  · (intro w hSw; (try dsimp only at hSw); have cv := HCV.out G5 cap9 _ hSw.2; go_simp; first | done | with_reducible rfl)
  simp only [Act.put, List.setIfInBounds_toArray, List.set_cons_zero, List.set_cons_succ]
  refine wpAnyH_take (i := 20) (oi := ⟨_, _, _, _, _, _⟩) (v := ?_) rfl (by kernel_rfl) (by kernel_rfl) (by kernel_rfl) (fun _ _ _ h => h) (Or.inl ⟨by kernel_rfl, ?_⟩) (by assumption) ?_
  rotate_left
  · (intro w hSw; (try dsimp only at hSw); go_simp; first | done | with_reducible rfl)
  simp only [Act.put, List.setIfInBounds_toArray, List.set_cons_zero, List.set_cons_succ]
  refine wpAnyH_take (i := 21) (oi := ⟨_, _, _, _, _, _⟩) (v := ?_) rfl (by kernel_rfl) (by kernel_rfl) (by kernel_rfl) (fun _ _ _ h => h) (Or.inl ⟨by kernel_rfl, ?_⟩) (by assumption) ?_
  rotate_left
  · (intro w hSw; (try dsimp only at hSw); go_simp; first | done | with_reducible rfl)
  simp only [Act.put, List.setIfInBounds_toArray, List.set_cons_zero, List.set_cons_succ]
  refine wpAnyH_take (i := 22) (oi := ⟨_, _, _, _, _, _⟩) (v := ?_) rfl (by kernel_rfl) (by kernel_rfl) (by kernel_rfl) (fun _ _ _ h => h) (Or.inl ⟨by kernel_rfl, ?_⟩) (by assumption) ?_
  rotate_left
  · (intro w hSw; (try dsimp only at hSw); go_simp; first | done | with_reducible rfl)
  simp only [Act.put, List.setIfInBounds_toArray, List.set_cons_zero, List.set_cons_succ]
  refine wpAnyH_done (by kernel_rfl) ?_ _
  have hBT := HBW4.out.trans (hb5'.mono HBW4.out.size)
  have HBT := Lib.hid hBT
  clear hHeld hk5 hr5 hs5 ho5 hb5 hb5' hr4 hk4 hBT hc6 hc4
  go_wp2
  go_ret
  exact ⟨rfl, HBT.out⟩
end Go.Proofs.Ytolbahfbhcpgdaa
end
