/- Part of the road to LinksRow: LawK. -/
import Derived.Test.YtolbahfbhcpgdaaHeads16
set_option linter.all false
set_option linter.unusedSimpArgs false
set_option linter.unusedVariables false
set_option linter.unusedSectionVars false
section
/- FsckLinks: the pure side, the guards, the walk. -/
namespace Go.Proofs.Ytolbahfbhcpgdaa
open Go.RowKit

/-- g is f but for the link counts of the first j inodes -/
def LinksOf (f : Nat → Nat) (j : Nat) (g : Nat → Nat) : Prop := (∀ q, g q < 256) ∧ ∀ q, (∀ x, x < j → q ≠ 2048 + 64 * x + 2 ∧ q ≠ 2048 + 64 * x + 3) → g q = f q
theorem LinksOf.step {f g : Nat → Nat} {j : Nat} (h : LinksOf f j g) (a b : Nat) (ha : a < 256) (hb : b < 256) : LinksOf f (j + 1) (fun k => if k = 2048 + 64 * j + 3 then b else (fun k => if k = 2048 + 64 * j + 2 then a else g k) k) := by
  refine ⟨fun q => ?_, fun q hq => ?_⟩
  · by_cases h1 : q = 2048 + 64 * j + 3
    · simp only [if_pos h1]; exact hb
    · simp only [if_neg h1]
      by_cases h2 : q = 2048 + 64 * j + 2
      · simp only [if_pos h2]; exact ha
      · simp only [if_neg h2]; exact h.1 q
  · obtain ⟨h2, h1⟩ := hq j (by omega)
    simp only [if_neg h1, if_neg h2]
    exact h.2 q fun x hx => hq x (by omega)
theorem LinksOf.far {f g : Nat → Nat} {j n : Nat} (h : LinksOf f j g) (hj : j ≤ n + 1) (q : Nat) (hq : q < 2048 ∨ 2048 + 64 * (n + 1) ≤ q) : g q = f q := h.2 q fun x hx => by omega
theorem like_links {n j : Nat} {h : Nat → Nat} (hn : n ≤ 9) (hj : j ≤ n + 1) (H : LinksOf (trF 20 n) j h) : Like 20 n h := by
  refine like_of (m := 20) hn H.1 (fun k hk => ?_) (fun x => h (2048 + 64 * x + 2) + 256 * h (2048 + 64 * x + 3)) (fun x => ?_) (fun x hx k hk => ?_) (fun j' h1 h2 k hk => ?_) (fun j' h1 h2 => ?_)
  · rw [H.far hj k (by omega)]; exact trF_sup 20 n (by omega) k hk
  · have := H.1 (2048 + 64 * x + 2); have := H.1 (2048 + 64 * x + 3); omega
  · have b2 := H.1 (2048 + 64 * x + 2); have b3 := H.1 (2048 + 64 * x + 3)
    by_cases k2 : k = 2
    · subst k2; rw [(withL_2 (treeI x) _).1]; omega
    · by_cases k3 : k = 3
      · subst k3; rw [(withL_2 (treeI x) _).2]; omega
      · rw [withL_far _ _ k k2 k3, H.2 _ (fun y hy => by omega), trF_row 20 n hn x (by omega) k hk, if_pos hx]
  · rw [H.far hj _ (by omega), trF_erow 20 n hn j' (by omega) k hk, entN_file n j' h1 h2]
  · rw [rootE_no (m := 20) hn h1 h2 (fun k hk => H.far hj _ (by omega))]
    exact gone_zero 20 n _
theorem u8_nat (z : Int) : ∃ a : Nat, a < 256 ∧ IntKind.u8.wrap z = (a : Int) := ⟨(IntKind.u8.wrap z).toNat, by simp [IntKind.wrap, IntKind.signed, IntKind.bits]; omega, by simp [IntKind.wrap, IntKind.signed, IntKind.bits]; omega⟩

set_option maxRecDepth 100000 in
set_option maxHeartbeats 4000000 in
theorem links_no (n : Int) (A : Option Addr) (l c : Nat) (w : World) (hbad : n < 0 ∨ 9 < n ∨ n + 1 < l) : Calls Try.prog 4 #[.int .i64 n, .slice A l c] w fun e w' => e = .returned (.bool true) ∧ Below w.heap.size w w' := by
  have AL := alive_c
  have HAL := Lib.hid AL
  clear AL
  by_cases h0 : n < 0
  · have d0 : decide (n < 0) = true := by simpa using h0
    clear hbad h0
    go_enter Try.func4, Try.ntmps4
    go_wp2_with (go_at_call 7; refine (HAL.out _).mono ?_; rintro e w1 ⟨rfl, hb1⟩)
    go_ret
    exact ⟨rfl, hb1⟩
  · have d0 : decide (n < 0) = false := by simpa using h0
    by_cases h1 : 9 < n
    · have d1 : decide (9 < n) = true := by simpa using h1
      clear hbad h0 h1
      go_enter Try.func4, Try.ntmps4
      go_wp2_with (go_at_call 7; refine (HAL.out _).mono ?_; rintro e w1 ⟨rfl, hb1⟩)
      go_ret
      exact ⟨rfl, hb1⟩
    · have d1 : decide (9 < n) = false := by simpa using h1
      have h2 : n + 1 < (l : Int) := by omega
      have d2 : decide (n + 1 < (l : Int)) = true := by simpa using h2
      obtain ⟨k, rfl⟩ : ∃ k : Nat, n = k := ⟨n.toNat, by omega⟩
      have hk9 : k ≤ 9 := by omega
      clear hbad h0 h1 h2
      go_enter Try.func4, Try.ntmps4
      go_wp2_with (go_at_call 7; refine (HAL.out _).mono ?_; rintro e w1 ⟨rfl, hb1⟩)
      go_ret
      exact ⟨rfl, hb1⟩

set_option maxRecDepth 100000 in
set_option maxHeartbeats 8000000 in
theorem links_yes (n l c : Nat) (A : Option Addr) (Z : Nat → Int) (w : World) (hn : n ≤ 9) (hl : l ≤ n + 1) (hA : l ≠ 0 → ∃ lb lo, A = some ⟨lb, lo, none⟩ ∧ ∀ i, i < l → w.cell? ⟨lb, lo + i, none⟩ = some (.int .i64 (Z i))) : Calls Try.prog 4 #[.int .i64 n, .slice A l c] w fun e w' => e = .returned (.bool true) ∧ Below w.heap.size w w' := by
  have AL := alive_c
  have TR := tree_c n (by omega)
  have RP := fun (h : Nat → Nat) (H : LinksOf (trF 20 n) l h) W base G cap ho => lrep_c (m := 20) (n := n) (N := 23552) (h := h) hn (by omega) (by decide) (by decide) (by decide) (fun k hk => head_20 ⟨n, by omega⟩ ⟨k, hk⟩) (like_links hn hl H) (fun q h1 h2 => H.far hl q (by omega)) W base G cap ho
  have CV := fun G cap W hr => conv_tree G cap n hn W hr
  obtain ⟨ST, hST⟩ : ∃ s, s = strOf (trF 20 n) 23552 := ⟨_, rfl⟩
  simp only [← hST] at CV
  have gk : ∀ W : World, Blk 25 (W.alloc (.cells #[.int .i64 1, .int .i64 1, .int .i64 20] 25)) W.heap.size [.int .i64 1, .int .i64 1, .int .i64 20] := fun W => Blk.newL _
  have HAL := Lib.hid AL; have HTR := Lib.hid TR; have HRP := Lib.hid RP; have HCV := Lib.hid CV; have HGK := Lib.hid gk; have HA := Lib.hid hA
  have d0 : decide ((n : Int) < 0) = false := by simp
  have d1 : decide ((9 : Int) < (n : Int)) = false := by simp; omega
  have d2 : decide ((n : Int) + 1 < (l : Int)) = false := by simp; omega
  clear AL TR RP CV hST gk hA
  go_enter Try.func4, Try.ntmps4
  go_wp2_with (first
    | (go_at_call 7; refine (HAL.out _).mono ?_; rintro e w1 ⟨rfl, hb1⟩; have HB1 := Lib.hid hb1; have hz1 := hb1.size; have k1 := HGK.out w1; have c0 := k1.cell 0; have c1 := k1.cell 1; have c2 := k1.cell 2; simp only [List.getElem?_cons_zero, List.getElem?_cons_succ] at c0 c1 c2; have HK1 := Lib.hid k1; clear hb1 k1)
    | (go_at_call 8; refine (HTR.out _).mono ?_; rintro e w2 ⟨G, cap, rfl, ho2, hb2⟩; have hz2 := hb2.size; have HO2 := Lib.hid ho2; have HB2 := Lib.hid hb2; clear ho2 hb2))
  have lw1 : w1.heap.size < w2.heap.size := by simp at hz2; omega
  obtain ⟨l1, l2, l3, l4⟩ := own_len HO2.out
  unfold maxLen at l4
  have lG1 : w1.heap.size < G := by simp at l1; omega
  have hBw2 : Below w.heap.size w w2 := ((HB1.out.alloc hz1 _).trans (HB2.out.mono (by simp; omega)))
  have hk2 := HK1.out.below HB2.out (by simp)
  have HK2 := Lib.hid hk2; have HBW2 := Lib.hid hBw2
  clear hk2 hBw2 c0 c1 c2
  go_loopw [8] (fun i wr => ∃ j : Nat, j ≤ l ∧ i = .int .i64 j ∧ (∃ g, wr.ownsRow (w1.heap.size + 1) 5 1 (.slice (some ⟨G, 0, none⟩) 23552 cap) 23552 (bytesL g 23552) ∧ LinksOf (trF 20 n) j g) ∧ Blk 25 wr w1.heap.size [.int .i64 1, .int .i64 1, .int .i64 20] ∧ Below w.heap.size w wr) (fun i _ => l - (intOf i).toNat)
  case atStart => exact ⟨0, by omega, rfl, ⟨_, own_mono HO2.out (by simp), trF_lt 20 n (by omega), fun q hq => rfl⟩, HK2.out, HBW2.out⟩
  case round =>
    obtain ⟨j, hj, rfl, ⟨g, ho, hg⟩, hk, hB⟩ := hrel
    obtain ⟨o1, o2, o3, o4⟩ := own_len ho
    unfold maxLen at o4
    by_cases hlt : j < l
    · obtain ⟨lb, lo, hA', hZ⟩ := HA.out (by omega)
      subst hA'
      have hz := hZ j hlt
      have hlb := lt_of_cell hz
      have zc : wr.cell? ⟨lb, lo + j, none⟩ = some (.int .i64 (Z j)) := by rw [hB.cell (p := ⟨lb, lo + j, none⟩) hlb]; exact hz
      obtain ⟨zj, hzj⟩ : ∃ z, z = Z j := ⟨_, rfl⟩
      rw [← hzj] at zc
      have hlt' : (j : Int) < (l : Int) := by omega
      obtain ⟨g1, f1⟩ := own_get ho (i := 2048 + 64 * j + 2) (by omega)
      obtain ⟨g2, f2⟩ := own_get ho (i := 2048 + 64 * j + 3) (by omega)
      have nG : G ≠ lb := by have := hB.size; omega
      have HO := Lib.hid ho; have HG := Lib.hid hg; have HK := Lib.hid hk; have HB := Lib.hid hB; have HNG := Lib.hid nG
      clear ho hg hk hB hz hzj hZ nG
      go_wp2
      obtain ⟨a, ha⟩ : ∃ a : Nat, bits BinOp.and IntKind.i64 zj 255 % 256 = (a : Int) := ⟨(bits BinOp.and IntKind.i64 zj 255 % 256).toNat, by omega⟩
      obtain ⟨b, hb⟩ : ∃ b : Nat, bits BinOp.and IntKind.i64 (zj / 256) 255 % 256 = (b : Int) := ⟨(bits BinOp.and IntKind.i64 (zj / 256) 255 % 256).toNat, by omega⟩
      have ha2 : a < 256 := by omega
      have hb2 : b < 256 := by omega
      rw [ha, hb]
      have s1 := own_set HO.out (i := 2048 + 64 * j + 2) (by omega) a (u := .int .u8 (a : Int)) rfl
      have s2 := own_set s1 (i := 2048 + 64 * j + 3) (by omega) b (u := .int .u8 (b : Int)) rfl
      have nW : (G : Nat) ≠ w1.heap.size := by omega
      have hwG : w.heap.size ≤ G := by omega
      refine ⟨⟨j + 1, by omega, by go_num, ⟨_, s2, HG.out.step a b ha2 hb2⟩, (HK.out.other _ _ nW).other _ _ nW, (HB.out.setCell (p := ⟨G, _, none⟩) hwG _).setCell (p := ⟨G, _, none⟩) hwG _⟩, by simp [intOf]; omega⟩
    · obtain rfl : j = l := by omega
      have HO := Lib.hid ho; have HG := Lib.hid hg; have HK := Lib.hid hk; have HB := Lib.hid hB
      clear ho hg hk hB hlt
      go_wp2_with (go_at_call 9; refine (HRP.out g HG.out _ _ _ _ HO.out).mono ?_; rintro e w4 ⟨G4, cap4, v4, rfl, ho4, hv4, hb4⟩; obtain ⟨A5, cap5, rfl⟩ := own_slice hv4; have hz4 := hb4.size; have HO4 := Lib.hid ho4; have HB4 := Lib.hid hb4; clear ho4 hv4 hb4)
      obtain ⟨b1, b2, b3, b4⟩ := own_len HO4.out
      unfold maxLen at b4
      have hk4 := HK.out.below HB4.out HK.out.lt
      have hr4 := own_rdB HO4.out
      have lk4 := hk4.lt
      have hBw4 := HB.out.trans (HB4.out.mono HB.out.size)
      have g0 := hk4.cell 0; have g1 := hk4.cell 1; have g2 := hk4.cell 2
      simp only [List.getElem?_cons_zero, List.getElem?_cons_succ] at g0 g1 g2
      have HBW4 := Lib.hid hBw4
      clear hBw4
      refine wp_region_held_drew (S := (fun w' => w'.cell? ⟨w1.heap.size, 0, none⟩ = some (.int .i64 1) ∧ w'.cell? ⟨w1.heap.size, 1, none⟩ = some (.int .i64 1) ∧ w'.cell? ⟨w1.heap.size, 2, none⟩ = some (.int .i64 20) ∧ RdB w' G4 0 23552 (trF 20 n))) (by kernel_rfl) ⟨g0, g1, g2, hr4.below (Below.refl _ _).drew⟩ (fun hHeld => ?_)
      refine wpAnyH_take (i := 0) (oi := ⟨_, _, _, _, _, _⟩) (v := ?_) rfl (by kernel_rfl) (by kernel_rfl) (by kernel_rfl) (fun _ _ _ h => h) (Or.inl ⟨by kernel_rfl, ?_⟩) (by assumption) ?_
      rotate_left
      · (intro w hSw; (try dsimp only at hSw); go_simp; first | done | with_reducible rfl)
      simp only [Act.put, List.setIfInBounds_toArray, List.set_cons_zero, List.set_cons_succ]
      refine wpAnyH_take (i := 1) (oi := ⟨_, _, _, _, _, _⟩) (v := ?_) rfl (by kernel_rfl) (by kernel_rfl) (by kernel_rfl) (fun _ _ _ h => h) (Or.inl ⟨by kernel_rfl, ?_⟩) (by assumption) ?_
      rotate_left
      · (intro w hSw; (try dsimp only at hSw); go_simp; first | done | with_reducible rfl)
      simp only [Act.put, List.setIfInBounds_toArray, List.set_cons_zero, List.set_cons_succ]
      refine wpAnyH_take (i := 2) (oi := ⟨_, _, _, _, _, _⟩) (v := ?_) rfl (by kernel_rfl) (by kernel_rfl) (by kernel_rfl) (fun _ _ _ h => h) (Or.inl ⟨by kernel_rfl, ?_⟩) (by assumption) ?_
      rotate_left
      · (intro w hSw; (try dsimp only at hSw); go_simp; first | done | with_reducible rfl)
      simp only [Act.put, List.setIfInBounds_toArray, List.set_cons_zero, List.set_cons_succ]
      refine wpAnyH_take (i := 3) (oi := ⟨_, _, _, _, _, _⟩) (v := ?_) rfl (by kernel_rfl) (by kernel_rfl) (by kernel_rfl) (fun _ _ _ h => h) (Or.inl ⟨by kernel_rfl, ?_⟩) (by assumption) ?_
      rotate_left
      · (intro w hSw; (try dsimp only at hSw); have cv := HCV.out G4 cap4 _ hSw.2.2.2; go_simp; first | done | with_reducible rfl)
      simp only [Act.put, List.setIfInBounds_toArray, List.set_cons_zero, List.set_cons_succ]
      refine wpAnyH_take (i := 4) (oi := ⟨_, _, _, _, _, _⟩) (v := ?_) rfl (by kernel_rfl) (by kernel_rfl) (by kernel_rfl) (fun _ _ _ h => h) (Or.inl ⟨by kernel_rfl, ?_⟩) (by assumption) ?_
      rotate_left
      · (intro w hSw; (try dsimp only at hSw); go_simp; first | done | with_reducible rfl)
      simp only [Act.put, List.setIfInBounds_toArray, List.set_cons_zero, List.set_cons_succ]
      refine wpAnyH_take (i := 5) (oi := ⟨_, _, _, _, _, _⟩) (v := ?_) rfl (by kernel_rfl) (by kernel_rfl) (by kernel_rfl) (fun _ _ _ h => h) (Or.inl ⟨by kernel_rfl, ?_⟩) (by assumption) ?_
      rotate_left
      · (intro w hSw; (try dsimp only at hSw); go_simp; first | done | with_reducible rfl)
      simp only [Act.put, List.setIfInBounds_toArray, List.set_cons_zero, List.set_cons_succ]
      refine wpAnyH_ready (rs := [6]) (by kernel_rfl) (by simp) ?_
      refine AllReadyH.cons rfl (fun K hK => ?_) AllReadyH.nil
      go_simp
      go_at_call 8
      refine (HTR.out _).mono ?_
      rintro e w5 ⟨G5, cap5, rfl, ho5, hb5⟩
      have hb5' : Below w4.heap.size w4 w5 := (Below.refl w4.heap.size w4).drew.trans hb5
      have hk5 := hk4.below hb5' lk4
      have hr5 := hr4.below hb5'
      have hs5 := own_rdB ho5
      go_simp
      refine hK.out _ _ ?_ (fun hHeld => ?_)
      · exact ⟨hk5.cell 0, hk5.cell 1, hk5.cell 2, hr5⟩
      clear hK K
      refine anyH_mono (fun w' => (w'.cell? ⟨w1.heap.size, 0, none⟩ = some (.int .i64 1) ∧ w'.cell? ⟨w1.heap.size, 1, none⟩ = some (.int .i64 1) ∧ w'.cell? ⟨w1.heap.size, 2, none⟩ = some (.int .i64 20) ∧ RdB w' G4 0 23552 (trF 20 n)) ∧ RdB w' G5 0 23552 (trF 20 n)) (fun w h => h.1) _ _ _ _ ?_
      replace hHeld : (fun w' => (w'.cell? ⟨w1.heap.size, 0, none⟩ = some (.int .i64 1) ∧ w'.cell? ⟨w1.heap.size, 1, none⟩ = some (.int .i64 1) ∧ w'.cell? ⟨w1.heap.size, 2, none⟩ = some (.int .i64 20) ∧ RdB w' G4 0 23552 (trF 20 n)) ∧ RdB w' G5 0 23552 (trF 20 n)) _ := ⟨hHeld, hs5⟩
      refine wpAnyH_take (i := 7) (oi := ⟨_, _, _, _, _, _⟩) (v := ?_) rfl (by kernel_rfl) (by kernel_rfl) (by kernel_rfl) (fun _ _ _ h => h) (Or.inl ⟨by kernel_rfl, ?_⟩) (by assumption) ?_
      rotate_left
      · (intro w hSw; (try dsimp only at hSw); have cv := HCV.out G5 cap5 _ hSw.2; go_simp; first | done | with_reducible rfl)
      simp only [Act.put, List.setIfInBounds_toArray, List.set_cons_zero, List.set_cons_succ]
      refine wpAnyH_take (i := 8) (oi := ⟨_, _, _, _, _, _⟩) (v := ?_) rfl (by kernel_rfl) (by kernel_rfl) (by kernel_rfl) (fun _ _ _ h => h) (Or.inl ⟨by kernel_rfl, ?_⟩) (by assumption) ?_
      rotate_left
      · (intro w hSw; (try dsimp only at hSw); go_simp; first | done | with_reducible rfl)
      simp only [Act.put, List.setIfInBounds_toArray, List.set_cons_zero, List.set_cons_succ]
      refine wpAnyH_take (i := 9) (oi := ⟨_, _, _, _, _, _⟩) (v := ?_) rfl (by kernel_rfl) (by kernel_rfl) (by kernel_rfl) (fun _ _ _ h => h) (Or.inl ⟨by kernel_rfl, ?_⟩) (by assumption) ?_
      rotate_left
      · (intro w hSw; (try dsimp only at hSw); go_simp; first | done | with_reducible rfl)
      simp only [Act.put, List.setIfInBounds_toArray, List.set_cons_zero, List.set_cons_succ]
      refine wpAnyH_take (i := 10) (oi := ⟨_, _, _, _, _, _⟩) (v := ?_) rfl (by kernel_rfl) (by kernel_rfl) (by kernel_rfl) (fun _ _ _ h => h) (Or.inl ⟨by kernel_rfl, ?_⟩) (by assumption) ?_
      rotate_left
      · (intro w hSw; (try dsimp only at hSw); go_simp; first | done | with_reducible rfl)
      simp only [Act.put, List.setIfInBounds_toArray, List.set_cons_zero, List.set_cons_succ]
      refine wpAnyH_done (by kernel_rfl) ?_ _
      have hBT := HBW4.out.trans (hb5'.mono HBW4.out.size)
      have HBT := Lib.hid hBT
      clear hHeld hk5 hr5 hs5 ho5 hb5 hb5' hr4 hk4 hBT
      go_wp2
      go_ret
      exact ⟨rfl, HBT.out⟩
end Go.Proofs.Ytolbahfbhcpgdaa
end
