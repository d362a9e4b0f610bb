/- Part of the road to SizesRow: SzN, SzY, SzA. -/
import Derived.Test.YtbbgahffcjbloaaGreatTws14
import Derived.Test.YtbbgahffcjbloaaGreatTws23
set_option linter.all false
set_option linter.unusedSimpArgs false
set_option linter.unusedVariables false
set_option linter.unusedSectionVars false
section
namespace Go.Proofs.YtbbgahffcjbloaaGreat
open Go.RowKit
theorem hS_lt (s a j q : Nat) : hS s a j q < 256 := by
  unfold hS
  split
  · exact byteN_lt _ _
  · split
    · decide
    · split
      · decide
      · exact trF_lt 20 1 (by omega) q
theorem hS_step (s a j : Nat) (hj : j < 4) : (fun q => if q = 2116 + j then byteN s j else hS s a j q) = hS s a (j + 1) := by
  funext q
  unfold hS
  by_cases h : q = 2116 + j
  · rw [if_pos h, if_pos (by omega), h, show 2116 + j - 2116 = j by omega]
  · rw [if_neg h]
    by_cases h2 : 2116 ≤ q ∧ q < 2116 + j
    · rw [if_pos h2, if_pos (by omega)]
    · rw [if_neg h2, if_neg (c := 2116 ≤ q ∧ q < 2116 + (j + 1)) (by omega)]
theorem hS_zero (s a : Nat) : (fun q => if q = 2120 + 4 * a then 4 else (fun q => if q = 2120 then 0 else trF 20 1 q) q) = hS s a 0 := by
  funext q
  unfold hS
  rw [if_neg (c := 2116 ≤ q ∧ q < 2116 + 0) (by omega)]
theorem hS_far (s a q : Nat) (ha : a < 8) (hq : q < 2112 ∨ 2176 ≤ q) : hS s a 4 q = trF 20 1 q := by
  unfold hS
  rw [if_neg (by omega), if_neg (by omega), if_neg (by omega)]
theorem hS_row (s a k : Nat) (ha : a < 8) (hk : k < 64) : hS s a 4 (2112 + k) = inoF (oneI s a 4) k := by
  have tr : trF 20 1 (2112 + k) = inoF (fileI 0) k := by
    have := trF_row 20 1 (by decide) 1 (by decide) k hk
    rw [if_pos (Nat.le_refl _)] at this
    exact this
  unfold hS
  by_cases h1 : k < 4
  · rw [if_neg (by omega), if_neg (by omega), if_neg (by omega), tr, inoF_lo _ _ (by omega), inoF_lo _ _ (by omega)]
    by_cases h2 : k < 2
    · rw [if_pos h2, if_pos h2]; rfl
    · rw [if_neg h2, if_neg h2, if_pos h1, if_pos h1]; rfl
  · by_cases h2 : k < 8
    · rw [if_pos (by omega), inoF_lo _ _ h2, if_neg (by omega), if_neg h1, show 2112 + k - 2116 = k - 4 by omega]; rfl
    · rw [if_neg (by omega)]
      by_cases h48 : k < 48
      · obtain ⟨b, j, rfl, hb, hj⟩ : ∃ b j, k = 8 + 4 * b + j ∧ b < 10 ∧ j < 4 := ⟨(k - 8) / 4, (k - 8) % 4, by omega, by omega, by omega⟩
        rw [inoF_at _ _ _ hb hj, oneI_ptr, tr, inoF_at _ _ _ hb hj]
        have z : ∀ j, byteN 0 j = 0 := fun j => by simp [byteN]
        have f4 : j ≠ 0 → byteN 4 j = 0 := fun h => by
          match j, hj, h with
          | 1, _, _ => rfl
          | 2, _, _ => rfl
          | 3, _, _ => rfl
        have fI : fileI 0 (3 + b) = if b = 0 then 4 else 0 := by
          unfold fileI
          rw [if_neg (by omega), if_neg (by omega), if_neg (by omega)]
          by_cases q : b = 0
          · rw [if_pos (by omega), if_pos q]
          · rw [if_neg (by omega), if_neg q]
        rw [fI]
        by_cases e1 : b = a
        · rw [if_pos e1]
          by_cases e2 : j = 0
          · rw [if_pos (by omega), e2]; rfl
          · rw [if_neg (by omega), if_neg (by omega), f4 e2]
            by_cases e3 : b = 0
            · rw [if_pos e3, f4 e2]
            · rw [if_neg e3, z]
        · rw [if_neg e1, if_neg (by omega), z]
          by_cases e2 : b = 0
          · by_cases e3 : j = 0
            · rw [if_pos (by omega)]
            · rw [if_neg (by omega), if_pos e2, f4 e3]
          · rw [if_neg (by omega), if_neg e2, z]
      · rw [if_neg (by omega), if_neg (by omega), tr]
        unfold inoF catF; rw [if_neg h48, if_neg h48]
theorem hS_like {s a : Nat} (hs : s < 4294967296) (ha : a < 8) : LikeG 20 1 (hS s a 4) ∧ ∀ j, j < 13 → inoAt (geo1 20) (hS s a 4) 2 j = oneI s a 4 j := by
  have := likeG_of (m := 20) (n := 1) (h := hS s a 4) (by decide) (hS_lt s a 4) (fun k hk => by rw [hS_far _ _ _ ha (by omega)]; exact trF_sup 20 1 (by omega) k hk) (fun x => if x = 0 then rootI else oneI s a 4) (fun j _ => rfl) (fun x hx => by
    by_cases h0 : x = 0
    · subst h0; exact ⟨rootI_r, rfl⟩
    · simp only [if_neg h0]; exact ⟨oneI_r hs (by decide), oneI_ok _ _ _⟩) (fun x hx k hk => by
    by_cases h0 : x = 0
    · subst h0
      have := trF_row 20 1 (by decide) 0 (by decide) k hk
      rw [if_pos (by omega)] at this
      rw [hS_far _ _ _ ha (by omega)]
      exact this
    · obtain rfl : x = 1 := by omega
      exact hS_row s a k ha hk) (fun k hk => ⟨rfl, by
        obtain rfl : k = 0 := by omega
        show oneI s a 4 (3 + 8) = 0
        rw [oneI_ptr, if_neg (by omega)], by
        obtain rfl : k = 0 := by omega
        show oneI s a 4 (3 + 9) = 0
        rw [oneI_ptr, if_neg (by omega)]⟩) (fun j h1 h2 k hk => by rw [hS_far _ _ _ ha (by omega)]; exact trF_erow 20 1 (by decide) j h2 k hk)
  exact ⟨this.1, this.2 1 (by decide)⟩
/-- what the tree says of the file -/
theorem hS_node {s a : Nat} (hs : s < 4294967296) (ha : a < 8) : ∃ nd, (rawK (repO (geo1 20) (hS s a 4) 3) (fixR (geo1 20) (repO (geo1 20) (hS s a 4) 3)) 16)[1]? = some nd ∧ nd.size = min s 67379200 ∧ nd.blocks.length = if a < (min s 67379200 + 1023) / 1024 then 1 else 0 := by
  obtain ⟨L, I⟩ := hS_like hs ha
  have hz : ∀ j, j < 8 → j ≠ a → inoAt (geo1 20) (hS s a 4) (0 + 2) (3 + j) = 0 := fun j h1 h2 => by rw [I (3 + j) (by omega), oneI_ptr, if_neg h2]
  have hp : inoAt (geo1 20) (hS s a 4) (0 + 2) (3 + a) = 4 := by rw [I (3 + a) (by omega), oneI_ptr, if_pos rfl]
  obtain ⟨nd, h1, h2, h3⟩ := L.node (by decide) (by decide) (by decide) 0 (by decide) a ha hz (by rw [hp]; decide)
  have e2 : capI (inoAt (geo1 20) (hS s a 4) (0 + 2)) 2 = min s 67379200 := by
    unfold capI; rw [if_pos rfl, I 2 (by decide)]; rfl
  refine ⟨nd, h1, h2.trans e2, ?_⟩
  rw [h3, L.keptOne 0 a ha hz, e2, hp]
  have e3 : ((geo1 20).dOk 4 && !cG (geo1 20) (hS s a 4) 0 4) = true := by
    rw [dOk_one (by decide) (by decide)]; rfl
  rw [e3, Bool.and_true]
  have e4 : countN (min s 67379200) = (min s 67379200 + 1023) / 1024 := by unfold countN; rw [if_pos (by omega)]
  rw [e4]
  by_cases q : a < (min s 67379200 + 1023) / 1024
  · rw [decide_eq_true q, if_pos rfl, if_pos q]
  · rw [decide_eq_false q, if_neg (by decide), if_neg q]
end Go.Proofs.YtbbgahffcjbloaaGreat
end
section
/- FsckSizes: the guards. -/
namespace Go.Proofs.YtbbgahffcjbloaaGreat
open Go.RowKit

set_option maxRecDepth 100000 in
set_option maxHeartbeats 4000000 in
theorem sizes_no (size at' : Int) (w : World) (hbad : size < 0 ∨ 4294967295 < size ∨ at' < 0 ∨ 7 < at') : Calls Tryz.prog 3 #[.int .i64 size, .int .i64 at'] w fun e w' => e = .returned (.bool true) ∧ Below w.heap.size w w' := by
  have AL := alive_c
  have HAL := Lib.hid AL
  clear AL
  by_cases h0 : size < 0
  · have d0 : decide (size < 0) = true := by simpa using h0
    clear hbad h0
    go_enter Tryz.func3, Tryz.ntmps3
    go_wp2_with (go_at_call 9; refine (HAL.out _).mono ?_; rintro e w1 ⟨rfl, hb1⟩)
    go_ret
    exact ⟨rfl, hb1⟩
  · have d0 : decide (size < 0) = false := by simpa using h0
    by_cases h1 : 4294967295 < size
    · have d1 : decide (4294967295 < size) = true := by simpa using h1
      clear hbad h0 h1
      go_enter Tryz.func3, Tryz.ntmps3
      go_wp2_with (go_at_call 9; refine (HAL.out _).mono ?_; rintro e w1 ⟨rfl, hb1⟩)
      go_ret
      exact ⟨rfl, hb1⟩
    · have d1 : decide (4294967295 < size) = false := by simpa using h1
      by_cases h2 : at' < 0
      · have d2 : decide (at' < 0) = true := by simpa using h2
        clear hbad h0 h1 h2
        go_enter Tryz.func3, Tryz.ntmps3
        go_wp2_with (go_at_call 9; refine (HAL.out _).mono ?_; rintro e w1 ⟨rfl, hb1⟩)
        go_ret
        exact ⟨rfl, hb1⟩
      · have d2 : decide (at' < 0) = false := by simpa using h2
        have h3 : 7 < at' := by omega
        have d3 : decide (7 < at') = true := by simpa using h3
        clear hbad h0 h1 h2 h3
        go_enter Tryz.func3, Tryz.ntmps3
        go_wp2_with (go_at_call 9; refine (HAL.out _).mono ?_; rintro e w1 ⟨rfl, hb1⟩)
        go_ret
        exact ⟨rfl, hb1⟩
end Go.Proofs.YtbbgahffcjbloaaGreat
end

section
/- FsckSizes: the walk. -/
namespace Go.Proofs.YtbbgahffcjbloaaGreat
open Go.RowKit

set_option maxRecDepth 1000000 in
set_option maxHeartbeats 8000000 in
theorem sizes_yes (s a : Nat) (w : World) (hs : s ≤ 4294967295) (ha : a ≤ 7) : Calls Tryz.prog 3 #[.int .i64 s, .int .i64 a] w fun e w' => e = .returned (.bool true) ∧ Below w.heap.size w w' := by
  have AL := alive_c
  have TR := tree_c 1 (by decide)
  obtain ⟨L, _⟩ := hS_like (s := s) (a := a) (by omega) (by omega)
  have RP := fun W base G cap ho => lrepG_c (m := 20) (n := 1) (N := 23552) (h := hS s a 4) (by decide) (by decide) (by decide) (by decide) L W base G cap ho
  have RW := fun W base G cap ho => simp_raw (L.simpB (by decide) (by decide) (by decide)) (by decide) W base G cap ho
  have FD := fun W v hv => (L.simpB (by decide) (by decide) (by decide)).find (by decide) (by decide) W v hv 0 (by decide)
  obtain ⟨nd, n1, n2, n3⟩ := hS_node (s := s) (a := a) (by omega) (by omega)
  generalize rawK (repO (geo1 20) (hS s a 4) 3) (fixR (geo1 20) (repO (geo1 20) (hS s a 4) 3)) 16 = LL at RW FD n1
  have hLL : 1 < LL.length := (List.getElem?_eq_some_iff.1 n1).1
  have pe : pathN 0 = ⟨#[47, 102, 48]⟩ := rfl
  rw [pe] at FD
  have gk : ∀ W : World, Blk 24 (W.alloc (.cells #[.int .i64 1, .int .i64 1, .int .i64 20] 24)) W.heap.size [.int .i64 1, .int .i64 1, .int .i64 20] := fun W => Blk.newL _
  have HAL := Lib.hid AL; have HTR := Lib.hid TR; have HRP := Lib.hid RP; have HRW := Lib.hid RW; have HFD := Lib.hid FD; have HGK := Lib.hid gk; have HN1 := Lib.hid n1; have HN2 := Lib.hid n2; have HN3 := Lib.hid n3
  have d0 : decide ((s : Int) < 0) = false := by simp
  have d1 : decide ((4294967295 : Int) < (s : Int)) = false := by simp; omega
  have d2 : decide ((a : Int) < 0) = false := by simp
  have d3 : decide ((7 : Int) < (a : Int)) = false := by simp; omega
  have t4 : trF 20 1 2120 = 4 := by decide +kernel
  have HT4 := Lib.hid t4
  clear AL TR RP RW FD gk L n1 n2 n3 pe t4
  go_enter Tryz.func3, Tryz.ntmps3
  go_upto_region 6 with (first
    | (go_at_call 9; refine (HAL.out _).mono ?_; rintro e w1 ⟨rfl, hb1⟩; have HB1 := Lib.hid hb1; have hz1 := hb1.size; have k1 := HGK.out w1; have c0 := k1.cell 0; have c1 := k1.cell 1; have c2 := k1.cell 2; simp only [List.getElem?_cons_zero, List.getElem?_cons_succ] at c0 c1 c2; clear hb1 k1)
    | (go_at_call 10; refine (HTR.out _).mono ?_; rintro e w2 ⟨G, cap, rfl, ho2, hb2⟩; have hz2 := hb2.size; have HO2 := Lib.hid ho2; have HB2 := Lib.hid hb2; clear ho2 hb2))
  obtain ⟨l1, l2, l3, l4⟩ := own_len HO2.out
  unfold maxLen at l4
  have hwG : w.heap.size ≤ G := by simp at l1; omega
  have ho2 := own_mono HO2.out (base' := w.heap.size) (by simp; omega)
  have hB2 : Below w.heap.size w w2 := (HB1.out.alloc hz1 _).trans (HB2.out.mono (by simp; omega))
  obtain ⟨g1, f1⟩ := own_get ho2 (i := 2120) (by omega)
  rw [HT4.out] at g1
  have lq2 : G < w2.heap.size := l2
  have HO := Lib.hid ho2; have HBW := Lib.hid hB2
  clear ho2 hB2 c0 c1 c2 HO2 HB2 HB1
  go_upto_region 8 with fail
  have s1 := own_set HO.out (i := 2120) (by omega) 0 (u := .int .u8 0) rfl
  have hB3 : Below w.heap.size w (w2.setCell ⟨G, 2120, none⟩ (.int .u8 0)) := HBW.out.setCell (p := ⟨G, 2120, none⟩) hwG _
  obtain ⟨w3, hw3⟩ : ∃ W, W = w2.setCell ⟨G, 2120, none⟩ (.int .u8 0) := ⟨_, rfl⟩
  rw [← hw3] at s1 hB3 ⊢
  obtain ⟨g2, f2⟩ := own_get s1 (i := 2120 + 4 * a) (by omega)
  have lq3 : G < w3.heap.size := (own_len s1).2.1
  have HS1 := Lib.hid s1; have HB3 := Lib.hid hB3
  clear s1 hB3 hw3 g1 f1 HO HBW lq2
  go_upto_region 9 with fail
  have s2 := own_set HS1.out (i := 2120 + 4 * a) (by omega) 4 (u := .int .u8 4) rfl
  rw [hS_zero s a] at s2
  have hB4 : Below w.heap.size w (w3.setCell ⟨G, 2120 + 4 * a, none⟩ (.int .u8 4)) := HB3.out.setCell (p := ⟨G, _, none⟩) hwG _
  obtain ⟨w4, hw4⟩ : ∃ W, W = w3.setCell ⟨G, 2120 + 4 * a, none⟩ (.int .u8 4) := ⟨_, rfl⟩
  rw [← hw4] at s2 hB4 ⊢
  have HS2 := Lib.hid s2; have HB4 := Lib.hid hB4
  clear s2 hB4 hw4 g2 f2 HS1 HB3 lq3
  go_wp2_with fail
  go_loopw [9] (fun i' wr => ∃ j : Nat, j ≤ 4 ∧ i' = .int .i64 j ∧ ∃ wq, wq = wr ∧ wq.ownsRow w.heap.size 5 1 (.slice (some ⟨G, 0, none⟩) 23552 cap) 23552 (bytesL (hS s a j) 23552) ∧ Below w.heap.size w wq) (fun i' _ => 4 - (intOf i').toNat)
  case atStart => exact ⟨0, by omega, rfl, _, rfl, HS2.out, HB4.out⟩
  case round =>
    obtain ⟨j, hj, rfl, wx, rfl, ho, hB⟩ := hrel
    have lx : G < wx.heap.size := (own_len ho).2.1
    by_cases hlt : j < 4
    · obtain ⟨g2, f2⟩ := own_get ho (i := 2116 + j) (by omega)
      have hl4 : (j : Int) < 4 := by omega
      have HO := Lib.hid ho; have HB := Lib.hid hB
      clear ho hB
      go_wp2_with fail
      go_roundw
      case rel =>
        have s3 := own_set HO.out (i := 2116 + j) (by omega) (byteN s j) (u := .int .u8 (bits .and .i64 ((s : Int) / 2 ^ (8 * j)) 255 % 256)) (by rw [byte_eq2 s j (by omega)])
        rw [hS_step s a j hlt] at s3
        exact ⟨j + 1, by omega, by go_num, _, rfl, s3, HB.out.setCell (p := ⟨G, _, none⟩) hwG _⟩
      case measure => simp [intOf] <;> omega
    · obtain rfl : j = 4 := by omega
      have HO := Lib.hid ho; have HB := Lib.hid hB
      clear ho hB hlt hj
      have hzx := HB.out.size
      go_upto_if 96 with (first
        | (go_at_call 11; refine (HRP.out _ _ _ _ HO.out).mono ?_; rintro e w5 ⟨G5, cap5, v5, rfl, ho5, hv5, hb5⟩; obtain ⟨A5, c5, rfl⟩ := own_slice hv5; have hz5 := hb5.size; have HO5 := Lib.hid ho5; have HB5 := Lib.hid hb5; clear ho5 hv5 hb5)
        | (go_at_call 12; refine (HRW.out _ _ _ _ HO5.out).mono ?_; rintro e w6 ⟨v6, rfl, hn6, hb6⟩; have hz6 := hb6.size; have HN6 := Lib.hid (hn6.lower (Nat.zero_le _)); have HB6 := Lib.hid hb6; clear hn6 hb6)
        | (go_at_call 13; refine (HFD.out w6 v6 HN6.out).mono ?_; rintro e w7 ⟨rfl, hb7⟩; have hz7 := hb7.size; have HN7 := Lib.hid (HN6.out.below hb7); have HB7 := Lib.hid hb7; clear hb7))
      have hB7 : Below w.heap.size w w7 := ((HB.out.trans (HB5.out.mono (by omega))).trans (HB6.out.mono (by omega))).trans (HB7.out.mono (by omega))
      obtain ⟨A6, c6, rfl⟩ := HN7.out.form
      obtain ⟨NG, y, hA, lG, gc, hy⟩ := HN7.out.node 1 nd HN1.out
      cases hA
      obtain ⟨P, S⟩ := y
      obtain ⟨pa, pc, hpe⟩ := hy.parts.form
      dsimp only at hpe
      subst hpe
      have c3 := gc 3 (by omega)
      have c4 := gc 4 (by omega)
      simp only [ndV, List.getElem?_cons_zero, List.getElem?_cons_succ, HN2.out] at c3 c4
      have HB8 := Lib.hid hB7
      clear hB7 gc hy
      replace c3 : w7.cell? ⟨NG, 9, none⟩ = _ := c3
      replace c4 : w7.cell? ⟨NG, 10, none⟩ = _ := c4
      have hL2 : (1 : Int) < (LL.length : Int) := by omega
      by_cases hle : s ≤ 67379200
      · have t0 : decide ((67379200 : Int) < (s : Int)) = false := by simp; omega
        rw [Nat.min_eq_left (by omega)] at c3
        by_cases q : a < (s + 1023) / 1024
        · have hq2 : (a : Int) < ((s : Int) + 1023) / 1024 := by omega
          have nb : nd.blocks.length = 1 := by rw [HN3.out, Nat.min_eq_left (by omega), if_pos (by omega)]
          rw [nb] at c4
          go_wp2_with fail
          go_ret
          exact ⟨rfl, HB8.out⟩
        · have hq2 : ¬ (a : Int) < ((s : Int) + 1023) / 1024 := by omega
          have nb : nd.blocks.length = 0 := by rw [HN3.out, Nat.min_eq_left (by omega), if_neg (by omega)]
          rw [nb] at c4
          go_wp2_with fail
          go_ret
          exact ⟨rfl, HB8.out⟩
      · have t0 : decide ((67379200 : Int) < (s : Int)) = true := by simp; omega
        rw [Nat.min_eq_right (by omega)] at c3
        replace c3 : w7.cell? ⟨NG, 9, none⟩ = some (.int .i64 67379200) := c3
        have hq2 : (a : Int) < 65800 := by omega
        have nb : nd.blocks.length = 1 := by rw [HN3.out, Nat.min_eq_right (by omega), if_pos (by omega)]
        rw [nb] at c4
        go_wp2_with fail
        go_ret
        exact ⟨rfl, HB8.out⟩
end Go.Proofs.YtbbgahffcjbloaaGreat
end

section
/- FsckSizes: whatever the input. -/
namespace Go.Proofs.YtbbgahffcjbloaaGreat
open Go.RowKit

theorem sizes_any (s a : Int) (w : World) : Calls Tryz.prog 3 #[.int .i64 s, .int .i64 a] w fun e w' => e = .returned (.bool true) ∧ Below w.heap.size w w' := by
  by_cases hb : s < 0 ∨ 4294967295 < s ∨ a < 0 ∨ 7 < a
  · exact sizes_no s a w hb
  · obtain ⟨s', rfl⟩ : ∃ k : Nat, s = k := ⟨s.toNat, by omega⟩
    obtain ⟨a', rfl⟩ : ∃ k : Nat, a = k := ⟨a.toNat, by omega⟩
    exact sizes_yes s' a' w (by omega) (by omega)
end Go.Proofs.YtbbgahffcjbloaaGreat
end
