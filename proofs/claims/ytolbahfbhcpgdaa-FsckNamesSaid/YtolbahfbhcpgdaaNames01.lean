/- Part of the road to NamesRow: LawN, LawQ. -/
import Derived.Test.YtolbahfbhcpgdaaHeads16
set_option linter.all false
set_option linter.unusedSimpArgs false
set_option linter.unusedVariables false
set_option linter.unusedSectionVars false
section
/- FsckNames: the pure side. -/
namespace Go.Proofs.Ytolbahfbhcpgdaa
open Go.RowKit

/-- the entries that can't be -/
def badE : Nat → Nat × ByteArray
  | 0 => (15, ⟨#[122]⟩)
  | 1 => (99, ⟨#[122]⟩)
  | 2 => (2, ⟨#[46]⟩)
  | 3 => (2, ⟨#[46, 46]⟩)
  | 4 => (2, ⟨#[102, 48]⟩)
  | _ => (1, ⟨#[122]⟩)
theorem badE_ok : ∀ i : Fin 6, (badE i.val).1 ≠ 0 ∧ (badE i.val).1 < 256 ∧ nameOk (badE i.val).2 = true ∧ entOk (badE i.val).1 (badE i.val).2 = true ∧ (badE i.val).2.size ≤ 27 := by decide +kernel
/-- what is made of the Tree -/
def namH (n i : Nat) : Nat → Nat := if i < 6 then putF (trF 20 n) 3712 32 (entF (badE i).1 (badE i).2) else stB (trF 20 n) 3743 7
theorem namH_far (n i q : Nat) (h : q < 3712 ∨ 3744 ≤ q) : namH n i q = trF 20 n q := by
  unfold namH
  split
  · unfold putF; rw [if_neg (by omega)]
  · unfold stB; rw [if_neg (by omega)]
theorem namH_lt {n i : Nat} (hn : n ≤ 9) (q : Nat) : namH n i q < 256 := by
  unfold namH
  split
  · rename_i h
    exact putF_lt (trF_lt 20 n (by omega)) (entF_lt (badE_ok ⟨i, h⟩).2.2.2.2) q
  · exact stB_lt (trF_lt 20 n (by omega)) (by decide) q
theorem noIno_zero (k : Nat) : inoF noIno k = 0 := by
  by_cases h : k < 64
  · exact (by decide +kernel : ∀ k : Fin 64, inoF noIno k.val = 0) ⟨k, h⟩
  · unfold inoF catF; exact if_neg (by omega)
theorem row_none {n x : Nat} {h : Nat → Nat} (hn : n ≤ 9) (hx : n < x) (hx2 : x < 16) (hh : ∀ k, k < 64 → h (2048 + 64 * x + k) = trF 20 n (2048 + 64 * x + k)) : ∀ j, j < 13 → inoAt (geo1 20) h (x + 1) j = 0 :=
  inoAt_of (g := geo1 20) (f := h) (x := x + 1) (J := noIno) (geo1_ino 20 x hx2) ⟨by decide, by decide, by decide, fun j h1 h2 => by show (0 : Nat) < _; decide⟩ (by decide) (fun k hk => by rw [rawF_at 20 x hx2, hh k hk, trF_row 20 n hn x hx2 k hk, if_neg (by omega), noIno_zero])
/-- an entry whose inode is not there goes -/
theorem gone_none {n x : Nat} {h : Nat → Nat} {s : ByteArray} (hx : n + 1 < x) (h0 : ∀ j, j < 13 → inoAt (geo1 20) h x j = 0) : Gone (geo1 20) h n (x, s) := by
  refine ⟨?_, .inr ⟨by rw [h0 0 (by decide)]; decide, by rw [h0 11 (by decide)]; rfl, by rw [h0 12 (by decide)]; rfl⟩⟩
  unfold stayF
  split
  · rfl
  · have hi : insN (geo1 20) h n x = none := by unfold insN; rw [if_neg (by omega), if_neg (by omega)]
    simp only [hi]
    exact if_pos (h0 0 (by decide))
set_option maxRecDepth 20000 in
theorem gone_names {n i : Nat} (hn : n ≤ 9) (h1 : 1 ≤ n) (hi : i < 6) : Gone (geo1 20) (namH n i) n (badE i) := by
  have F : ∀ x, x < 16 → ∀ k, k < 64 → namH n i (2048 + 64 * x + k) = trF 20 n (2048 + 64 * x + k) := fun x hx k hk => namH_far n i _ (by omega)
  have P2 : Plain (geo1 20) (namH n i) 2 := by
    have I := inoAt_of (g := geo1 20) (f := namH n i) (x := 1 + 1) (J := fileI 0) (geo1_ino 20 1 (by omega)) (fileI_r (by omega)) (by decide) (fun k hk => by rw [rawF_at 20 1 (by omega), F 1 (by omega) k hk, trF_row 20 n hn 1 (by omega) k hk, if_pos h1]; rfl)
    exact ⟨by rw [I 0 (by decide)]; decide, by rw [I 11 (by decide)]; rfl, by rw [I 12 (by decide)]; rfl⟩
  obtain rfl | rfl | rfl | rfl | rfl | rfl : i = 0 ∨ i = 1 ∨ i = 2 ∨ i = 3 ∨ i = 4 ∨ i = 5 := by omega
  · exact gone_none (x := 15) (by omega) (row_none (x := 14) hn (by omega) (by omega) fun k hk => F 14 (by omega) k hk)
  · exact gone_none (x := 99) (by omega) (fun j hj => by rw [noIno_at (by rfl)]; rfl)
  · exact gone_of_bad (by
      show badN (nmN n) 2 ⟨#[46]⟩ = true
      unfold badN; rw [show decide ((⟨#[46]⟩ : ByteArray).toList = [46]) = true from by decide +kernel]; simp) (.inr P2)
  · exact gone_of_bad (by
      show badN (nmN n) 2 ⟨#[46, 46]⟩ = true
      unfold badN; rw [show decide ((⟨#[46, 46]⟩ : ByteArray).toList = [46, 46]) = true from by decide +kernel]; simp) (.inr P2)
  · exact gone_of_bad (by
      show badN (nmN n) 2 ⟨#[102, 48]⟩ = true
      have : nmN n ⟨#[102, 48]⟩ = true := by
        unfold nmN; rw [List.any_eq_true]
        exact ⟨0, by simp; omega, by decide⟩
      unfold badN; rw [this]; simp) (.inr P2)
  · refine ⟨?_, .inl rfl⟩
    unfold stayF
    split
    · rfl
    · have hr : inoAt (geo1 20) (namH n 5) 1 0 = 2 := (inoAt_of (g := geo1 20) (f := namH n 5) (x := 0 + 1) (J := rootI) (geo1_ino 20 0 (by omega)) rootI_r (by decide) (fun k hk => by rw [rawF_at 20 0 (by omega), F 0 (by omega) k hk, trF_row 20 n hn 0 (by omega) k hk, if_pos (by omega)]; rfl)) 0 (by decide)
      have hi : insN (geo1 20) (namH n 5) n (badE 5).1 = some (rootT2 (geo1 20) (namH n 5)) := if_pos rfl
      simp only [hi]
      exact if_pos (.inl hr)
theorem rootE_20 {n i : Nat} (hn : n ≤ 9) : rootE (namH n i) 3 20 = if i < 6 then badE i else (0, ⟨#[]⟩) := by
  rw [rootE_at]
  split
  · rename_i h
    have k := badE_ok ⟨i, h⟩
    exact entRd_of (x := (badE i).1) (s := (badE i).2) (Nat.lt_trans k.2.1 (by decide)) k.2.2.2.1 fun q hq => by
      show namH n i (3072 + 32 * 20 + q) = _
      unfold namH; rw [if_pos h]; unfold putF; rw [if_pos (by omega), show 3072 + 32 * 20 + q - 3712 = q by omega]
  · rename_i h
    have far : ∀ k, k < 31 → namH n i (3072 + 32 * 20 + k) = 0 := fun k hk => by
      unfold namH; rw [if_neg h]; unfold stB; rw [if_neg (by omega), trF_erow 20 n hn 20 (by omega) k (by omega), entN_no n 20 (by omega)]; exact ent_zero _ rfl _
    refine entRd_junk far ?_
    unfold namH; rw [if_neg h]; unfold stB; rw [if_pos (by omega)]; decide
theorem like_names {n i : Nat} (hn : n ≤ 9) (h1 : 1 ≤ n) : Like 20 n (namH n i) := by
  refine like_of (m := 20) hn (namH_lt hn) (fun k hk => ?_) (fun x => treeI x 1) (fun x => ?_) (fun x hx k hk => ?_) (fun j h1 h2 k hk => ?_) (fun j h1 h2 => ?_)
  · rw [namH_far n i k (by omega)]; exact trF_sup 20 n (by omega) k hk
  · unfold treeI
    split
    · show (2 : Nat) < 65536; decide
    · show (1 : Nat) < 65536; decide
  · rw [namH_far n i _ (by omega), trF_row 20 n hn x (by omega) k hk, if_pos hx]
    exact (withL_same (treeI x) k).symm
  · rw [namH_far n i _ (by omega), trF_erow 20 n hn j (by omega) k hk, entN_file n j h1 h2]
  · by_cases hj : j = 20
    · subst hj
      rw [rootE_20 hn]
      split
      · rename_i hi; exact gone_names hn (by omega) hi
      · exact gone_zero 20 n _
    · rw [rootE_no (m := 20) hn h1 h2 (fun k hk => namH_far n i _ (by omega))]
      exact gone_zero 20 n _
theorem entF_one (i : Fin 6) : entF (badE i.val).1 (badE i.val).2 0 ≠ 0 := by revert i; decide +kernel
theorem unlike_names {n i : Nat} (hn : n ≤ 9) : unlike (namH n i) (trF 20 n) (3 + 20) = [3] := by
  rw [unlike_of (fun k => decide (k = 3)) (fun k hk h j hj => namH_far n i _ (by (have : k ≠ 3 := by simpa using h); omega)) (fun k hk h => ?_)]
  · decide
  · have hk3 : k = 3 := by simpa using h
    subst hk3
    have z : ∀ q, q < 32 → trF 20 n (3072 + 32 * 20 + q) = 0 := fun q hq => by rw [trF_erow 20 n hn 20 (by omega) q hq, entN_no n 20 (by omega)]; exact ent_zero _ rfl _
    by_cases hi : i < 6
    · refine ⟨640, by omega, ?_⟩
      rw [show 3 * 1024 + 640 = 3072 + 32 * 20 + 0 by omega, z 0 (by omega)]
      unfold namH; rw [if_pos hi]; unfold putF; rw [if_pos (by omega)]
      exact entF_one ⟨i, hi⟩
    · refine ⟨671, by omega, ?_⟩
      rw [show 3 * 1024 + 671 = 3072 + 32 * 20 + 31 by omega, z 31 (by omega)]
      unfold namH; rw [if_neg hi]; unfold stB; rw [if_pos (by omega)]; decide
end Go.Proofs.Ytolbahfbhcpgdaa
end

section
/- FsckNames: the guards, the walk. -/
namespace Go.Proofs.Ytolbahfbhcpgdaa
open Go.RowKit

set_option maxRecDepth 100000 in
set_option maxHeartbeats 4000000 in
theorem names_no (n k : Int) (w : World) (hbad : n < 1 ∨ 9 < n) : Calls Try.prog 6 #[.int .i64 n, .int .i64 k] w fun e w' => e = .returned (.bool true) ∧ Below w.heap.size w w' := by
  have AL := alive_c
  have HAL := Lib.hid AL
  clear AL
  by_cases h0 : n < 1
  · have d0 : decide (n < 1) = true := by simpa using h0
    clear hbad h0
    go_enter Try.func6, Try.ntmps6
    go_wp2_with (go_at_call 7; refine (HAL.out _).mono ?_; rintro e w1 ⟨rfl, hb1⟩)
    go_ret
    exact ⟨rfl, hb1⟩
  · have d0 : decide (n < 1) = false := by simpa using h0
    have h1 : 9 < n := by omega
    have d1 : decide (9 < n) = true := by simpa using h1
    clear hbad h0 h1
    go_enter Try.func6, Try.ntmps6
    go_wp2_with (go_at_call 7; refine (HAL.out _).mono ?_; rintro e w1 ⟨rfl, hb1⟩)
    go_ret
    exact ⟨rfl, hb1⟩


set_option maxRecDepth 100000 in
set_option maxHeartbeats 8000000 in
theorem names_0 (n : Nat) (w : World) (hn : n ≤ 9) (h1 : 1 ≤ n) : Calls Try.prog 6 #[.int .i64 n, .int .i64 0] w fun e w' => e = .returned (.bool true) ∧ Below w.heap.size w w' := by
  have RP := fun W base G cap ho => lrep_c (m := 20) (n := n) (N := 23552) (h := namH n 0) hn (by omega) (by decide) (by decide) (by decide) (fun k hk => head_20 ⟨n, by omega⟩ ⟨k, hk⟩) (like_names hn h1) (fun q h1 h2 => namH_far n 0 q (by omega)) W base G cap ho
  rw [unlike_names hn] at RP
  have CV := fun G cap W hr => conv_tree G cap n hn W hr
  obtain ⟨ST, hST⟩ : ∃ s, s = strOf (trF 20 n) 23552 := ⟨_, rfl⟩
  simp only [← hST] at CV
  have HRP := Lib.hid RP; have HCV := Lib.hid CV
  clear RP CV hST
  have AL := alive_c
  have TR := tree_c n hn
  have D0 : ∀ W : World, Calls Try.prog 11 #[.agg #[.int .i64 1, .int .i64 1, .int .i64 20], .int .i64 0] W fun e w' => e = .returned (.tuple #[.int .i64 3, .bool true]) ∧ Below W.heap.size W w' := fun W => by
    have h := rdata_c (geo1 20) (geo1_ok (m := 20) (by decide) (by decide)) 0 (by decide) W
    exact h
  have gk : ∀ W : World, Blk 25 (W.alloc (.cells #[.int .i64 1, .int .i64 1, .int .i64 20] 25)) W.heap.size [.int .i64 1, .int .i64 1, .int .i64 20] := fun W => Blk.newL _
  have HAL := Lib.hid AL; have HTR := Lib.hid TR; have HD0 := Lib.hid D0; have HGK := Lib.hid gk
  have d0 : decide ((n : Int) < 1) = false := by simp; omega
  have d1 : decide ((9 : Int) < (n : Int)) = false := by simp; omega
  have PE : ∀ W : World, Calls Try.prog 12 #[.agg #[.int .i64 15, .string ⟨#[122]⟩]] W fun e w' => ∃ G cap, e = .returned (.tuple #[.slice (some ⟨G, 0, none⟩) 32 cap, .bool true]) ∧ w'.ownsRow W.heap.size 5 1 (.slice (some ⟨G, 0, none⟩) 32 cap) 32 (bytesL (entF (badE 0).1 (badE 0).2) 32) ∧ Below W.heap.size W w' := fun W => rpent_c 15 ⟨#[122]⟩ (by decide) (by decide) (by decide +kernel) W
  obtain ⟨EF, hEF⟩ : ∃ F, F = entF (badE 0).1 (badE 0).2 := ⟨_, rfl⟩
  rw [← hEF] at PE
  have hH : putF (trF 20 n) 3712 32 EF = namH n 0 := by rw [hEF]; unfold namH; rw [if_pos (by decide)]
  have HPE := Lib.hid PE; have HH := Lib.hid hH
  clear PE hEF hH
  clear AL TR D0 gk
  go_enter Try.func6, Try.ntmps6
  go_wp2_with (first
    | (go_at_call 7; refine (HAL.out _).mono ?_; rintro e w1 ⟨rfl, hb1⟩; have HB1 := Lib.hid hb1; have hz1 := hb1.size; have k1 := HGK.out w1; have c0 := k1.cell 0; have c1 := k1.cell 1; have c2 := k1.cell 2; simp only [List.getElem?_cons_zero, List.getElem?_cons_succ] at c0 c1 c2; have HK1 := Lib.hid k1; clear hb1 k1)
    | (go_at_call 8; refine (HTR.out _).mono ?_; rintro e w2 ⟨G, cap, rfl, ho2, hb2⟩; obtain ⟨l1, l2, l3, l4⟩ := own_len ho2; unfold maxLen at l4; have hz2 := hb2.size; have hk2 := HK1.out.below hb2 (by simp); have g0 := hk2.cell 0; have g1 := hk2.cell 1; have g2 := hk2.cell 2; simp only [List.getElem?_cons_zero, List.getElem?_cons_succ] at g0 g1 g2; have HK2 := Lib.hid hk2; have HO2 := Lib.hid ho2; have HB2 := Lib.hid hb2; clear ho2 hb2 hk2)
    | (go_at_call 11; refine (HD0.out _).mono ?_; rintro e w3 ⟨rfl, hb3⟩; have hz3 := hb3.size; have HB3 := Lib.hid hb3; clear hb3; clear g0 g1 g2)
    | (go_at_call 12; refine (HPE.out _).mono ?_; rintro e w6 ⟨g6, cap6, rfl, ho6, hb6⟩; have hz6 := hb6.size; have hB26 := (HB3.out.alloc hz3 _).trans (hb6.mono (by simp; omega)); have hO6 := own_below HO2.out hB26; have hr6 := own_rdB ho6; have HO6 := Lib.hid hO6; have HR6 := Lib.hid hr6; have HB26 := Lib.hid hB26; clear ho6 hb6 hO6 hr6 hB26)
    | (refine copy_own rfl _ _ 22 22 rfl 5 Try.underlying22 (by kernel_rfl) G 3712 19840 (cap - 3712) g6 0 32 cap6 (by rfl) (by rfl) _ 5 23552 cap (trF 20 n) EF HO6.out (by omega) 32 (by decide) HR6.out (by omega) ?_; intro w7 ho7 hm7; rw [HH.out] at ho7; have hz7 := hm7.size; have HO7 := Lib.hid ho7; have HM7 := Lib.hid hm7; clear ho7 hm7)
    | (go_at_call 9; refine (HRP.out _ _ _ _ HO7.out).mono ?_; rintro e w8 ⟨G4, cap4, v4, rfl, ho4, hv4, hb4⟩; obtain ⟨A5, cap5, rfl, _, hc5⟩ := own_one hv4; have hz4 := hb4.size; have HO4 := Lib.hid ho4; have HB4 := Lib.hid hb4; have HC5 := Lib.hid hc5; clear ho4 hv4 hb4 hc5))
  have lw1 : w1.heap.size < w2.heap.size := by simp at hz2; omega
  have lG1 : w1.heap.size < G := by simp at l1; omega
  have hBw2 : Below w.heap.size w w2 := ((HB1.out.alloc hz1 _).trans (HB2.out.mono (by simp; omega)))
  have hB27 := Below.mods (hBw2.trans (HB26.out.mono hBw2.size)) HM7.out (fun i hi e => by omega) (hBw2.trans (HB26.out.mono hBw2.size)).size
  have hk7 := (HK2.out.below HB26.out HK2.out.lt).mods HM7.out (fun e => by omega)
  have hk4 := hk7.below HB4.out hk7.lt
  have hr4 := own_rdB HO4.out
  have hc4 : w8.cell? ⟨A5, 0, none⟩ = some (.int .i64 3) := HC5.out
  have lk4 := hk4.lt
  have hBw4 := hB27.trans (HB4.out.mono hB27.size)
  have g0 := hk4.cell 0; have g1 := hk4.cell 1; have g2 := hk4.cell 2
  simp only [List.getElem?_cons_zero, List.getElem?_cons_succ] at g0 g1 g2
  have HBW4 := Lib.hid hBw4
  clear hBw4 hB27 hBw2 hk7
  refine wp_region_held_drew (S := (fun w' => w'.cell? ⟨w1.heap.size, 0, none⟩ = some (.int .i64 1) ∧ w'.cell? ⟨w1.heap.size, 1, none⟩ = some (.int .i64 1) ∧ w'.cell? ⟨w1.heap.size, 2, none⟩ = some (.int .i64 20) ∧ RdB w' G4 0 23552 (trF 20 n) ∧ w'.cell? ⟨A5, 0, none⟩ = some (.int .i64 3))) (by kernel_rfl) ⟨g0, g1, g2, hr4.below (Below.refl _ _).drew, hc4⟩ (fun hHeld => ?_)
  refine wpAnyH_take (i := 0) (oi := ⟨_, _, _, _, _, _⟩) (v := ?_) rfl (by kernel_rfl) (by kernel_rfl) (by kernel_rfl) (fun _ _ _ h => h) (Or.inl ⟨by kernel_rfl, ?_⟩) (by assumption) ?_
  rotate_left
  · (intro w hSw; (try dsimp only at hSw); go_simp; first | done | with_reducible rfl)
  simp only [Act.put, List.setIfInBounds_toArray, List.set_cons_zero, List.set_cons_succ]
  refine wpAnyH_take (i := 1) (oi := ⟨_, _, _, _, _, _⟩) (v := ?_) rfl (by kernel_rfl) (by kernel_rfl) (by kernel_rfl) (fun _ _ _ h => h) (Or.inl ⟨by kernel_rfl, ?_⟩) (by assumption) ?_
  rotate_left
  · (intro w hSw; (try dsimp only at hSw); go_simp; first | done | with_reducible rfl)
  simp only [Act.put, List.setIfInBounds_toArray, List.set_cons_zero, List.set_cons_succ]
  refine wpAnyH_take (i := 2) (oi := ⟨_, _, _, _, _, _⟩) (v := ?_) rfl (by kernel_rfl) (by kernel_rfl) (by kernel_rfl) (fun _ _ _ h => h) (Or.inl ⟨by kernel_rfl, ?_⟩) (by assumption) ?_
  rotate_left
  · (intro w hSw; (try dsimp only at hSw); go_simp; first | done | with_reducible rfl)
  simp only [Act.put, List.setIfInBounds_toArray, List.set_cons_zero, List.set_cons_succ]
  refine wpAnyH_take (i := 3) (oi := ⟨_, _, _, _, _, _⟩) (v := ?_) rfl (by kernel_rfl) (by kernel_rfl) (by kernel_rfl) (fun _ _ _ h => h) (Or.inl ⟨by kernel_rfl, ?_⟩) (by assumption) ?_
  rotate_left
  · (intro w hSw; (try dsimp only at hSw); go_simp; first | done | with_reducible rfl)
  simp only [Act.put, List.setIfInBounds_toArray, List.set_cons_zero, List.set_cons_succ]
  refine wpAnyH_take (i := 4) (oi := ⟨_, _, _, _, _, _⟩) (v := ?_) rfl (by kernel_rfl) (by kernel_rfl) (by kernel_rfl) (fun _ _ _ h => h) (Or.inl ⟨by kernel_rfl, ?_⟩) (by assumption) ?_
  rotate_left
  · (intro w hSw; (try dsimp only at hSw); go_simp; first | done | with_reducible rfl)
  simp only [Act.put, List.setIfInBounds_toArray, List.set_cons_zero, List.set_cons_succ]
  refine wpAnyH_take (i := 5) (oi := ⟨_, _, _, _, _, _⟩) (v := ?_) rfl (by kernel_rfl) (by kernel_rfl) (by kernel_rfl) (fun _ _ _ h => h) (Or.inl ⟨by kernel_rfl, ?_⟩) (by assumption) ?_
  rotate_left
  · (intro w hSw; (try dsimp only at hSw); go_simp; first | done | with_reducible rfl)
  simp only [Act.put, List.setIfInBounds_toArray, List.set_cons_zero, List.set_cons_succ]
  refine wpAnyH_take (i := 6) (oi := ⟨_, _, _, _, _, _⟩) (v := ?_) rfl (by kernel_rfl) (by kernel_rfl) (by kernel_rfl) (fun _ _ _ h => h) (Or.inl ⟨by kernel_rfl, ?_⟩) (by assumption) ?_
  rotate_left
  · (intro w hSw; (try dsimp only at hSw); go_simp; first | done | with_reducible rfl)
  simp only [Act.put, List.setIfInBounds_toArray, List.set_cons_zero, List.set_cons_succ]
  refine wpAnyH_take (i := 7) (oi := ⟨_, _, _, _, _, _⟩) (v := ?_) rfl (by kernel_rfl) (by kernel_rfl) (by kernel_rfl) (fun _ _ _ h => h) (Or.inl ⟨by kernel_rfl, ?_⟩) (by assumption) ?_
  rotate_left
  · (intro w hSw; (try dsimp only at hSw); go_simp; first | done | with_reducible rfl)
  simp only [Act.put, List.setIfInBounds_toArray, List.set_cons_zero, List.set_cons_succ]
  refine wpAnyH_take (i := 8) (oi := ⟨_, _, _, _, _, _⟩) (v := ?_) rfl (by kernel_rfl) (by kernel_rfl) (by kernel_rfl) (fun _ _ _ h => h) (Or.inl ⟨by kernel_rfl, ?_⟩) (by assumption) ?_
  rotate_left
  · (intro w hSw; (try dsimp only at hSw); go_simp; first | done | with_reducible rfl)
  simp only [Act.put, List.setIfInBounds_toArray, List.set_cons_zero, List.set_cons_succ]
  refine wpAnyH_take (i := 9) (oi := ⟨_, _, _, _, _, _⟩) (v := ?_) rfl (by kernel_rfl) (by kernel_rfl) (by kernel_rfl) (fun _ _ _ h => h) (Or.inl ⟨by kernel_rfl, ?_⟩) (by assumption) ?_
  rotate_left
  · (intro w hSw; (try dsimp only at hSw); go_simp; first | done | with_reducible rfl)
  simp only [Act.put, List.setIfInBounds_toArray, List.set_cons_zero, List.set_cons_succ]
  refine wpAnyH_take (i := 10) (oi := ⟨_, _, _, _, _, _⟩) (v := ?_) rfl (by kernel_rfl) (by kernel_rfl) (by kernel_rfl) (fun _ _ _ h => h) (Or.inl ⟨by kernel_rfl, ?_⟩) (by assumption) ?_
  rotate_left
  · (intro w hSw; (try dsimp only at hSw); go_simp; first | done | with_reducible rfl)
  simp only [Act.put, List.setIfInBounds_toArray, List.set_cons_zero, List.set_cons_succ]
  refine wpAnyH_take (i := 11) (oi := ⟨_, _, _, _, _, _⟩) (v := ?_) rfl (by kernel_rfl) (by kernel_rfl) (by kernel_rfl) (fun _ _ _ h => h) (Or.inl ⟨by kernel_rfl, ?_⟩) (by assumption) ?_
  rotate_left
  · (intro w hSw; (try dsimp only at hSw); go_simp; first | done | with_reducible rfl)
  simp only [Act.put, List.setIfInBounds_toArray, List.set_cons_zero, List.set_cons_succ]
  refine wpAnyH_take (i := 12) (oi := ⟨_, _, _, _, _, _⟩) (v := ?_) rfl (by kernel_rfl) (by kernel_rfl) (by kernel_rfl) (fun _ _ _ h => h) (Or.inl ⟨by kernel_rfl, ?_⟩) (by assumption) ?_
  rotate_left
  · (intro w hSw; (try dsimp only at hSw); go_simp; first | done | with_reducible rfl)
  simp only [Act.put, List.setIfInBounds_toArray, List.set_cons_zero, List.set_cons_succ]
  refine wpAnyH_take (i := 13) (oi := ⟨_, _, _, _, _, _⟩) (v := ?_) rfl (by kernel_rfl) (by kernel_rfl) (by kernel_rfl) (fun _ _ _ h => h) (Or.inl ⟨by kernel_rfl, ?_⟩) (by assumption) ?_
  rotate_left
  · (intro w hSw; (try dsimp only at hSw); go_simp; first | done | with_reducible rfl)
  simp only [Act.put, List.setIfInBounds_toArray, List.set_cons_zero, List.set_cons_succ]
  refine wpAnyH_take (i := 14) (oi := ⟨_, _, _, _, _, _⟩) (v := ?_) rfl (by kernel_rfl) (by kernel_rfl) (by kernel_rfl) (fun _ _ _ h => h) (Or.inl ⟨by kernel_rfl, ?_⟩) (by assumption) ?_
  rotate_left
  · (intro w hSw; (try dsimp only at hSw); go_simp; first | done | with_reducible rfl)
  simp only [Act.put, List.setIfInBounds_toArray, List.set_cons_zero, List.set_cons_succ]
  refine wpAnyH_take (i := 15) (oi := ⟨_, _, _, _, _, _⟩) (v := ?_) rfl (by kernel_rfl) (by kernel_rfl) (by kernel_rfl) (fun _ _ _ h => h) (Or.inl ⟨by kernel_rfl, ?_⟩) (by assumption) ?_
  rotate_left
  · (intro w hSw; (try dsimp only at hSw); have cv := HCV.out G4 cap4 _ hSw.2.2.2.1; go_simp; first | done | with_reducible rfl)
  simp only [Act.put, List.setIfInBounds_toArray, List.set_cons_zero, List.set_cons_succ]
  refine wpAnyH_take (i := 16) (oi := ⟨_, _, _, _, _, _⟩) (v := ?_) rfl (by kernel_rfl) (by kernel_rfl) (by kernel_rfl) (fun _ _ _ h => h) (Or.inl ⟨by kernel_rfl, ?_⟩) (by assumption) ?_
  rotate_left
  · (intro w hSw; (try dsimp only at hSw); go_simp; first | done | with_reducible rfl)
  simp only [Act.put, List.setIfInBounds_toArray, List.set_cons_zero, List.set_cons_succ]
  refine wpAnyH_take (i := 17) (oi := ⟨_, _, _, _, _, _⟩) (v := ?_) rfl (by kernel_rfl) (by kernel_rfl) (by kernel_rfl) (fun _ _ _ h => h) (Or.inl ⟨by kernel_rfl, ?_⟩) (by assumption) ?_
  rotate_left
  · (intro w hSw; (try dsimp only at hSw); go_simp; first | done | with_reducible rfl)
  simp only [Act.put, List.setIfInBounds_toArray, List.set_cons_zero, List.set_cons_succ]
  refine wpAnyH_ready (rs := [18]) (by kernel_rfl) (by simp) ?_
  refine AllReadyH.cons rfl (fun K hK => ?_) AllReadyH.nil
  go_simp
  go_at_call 8
  refine (HTR.out _).mono ?_
  rintro e w9 ⟨G5, cap9, rfl, ho5, hb5⟩
  have hb5' : Below w8.heap.size w8 w9 := (Below.refl w8.heap.size w8).drew.trans hb5
  have hk5 := hk4.below hb5' lk4
  have hr5 := hr4.below hb5'
  have hc6 : w9.cell? ⟨A5, 0, none⟩ = some (.int .i64 3) := by rw [hb5'.cell (p := ⟨A5, 0, none⟩) (lt_of_cell hc4)]; exact hc4
  have hs5 := own_rdB ho5
  go_simp
  refine hK.out _ _ ?_ (fun hHeld => ?_)
  · exact ⟨hk5.cell 0, hk5.cell 1, hk5.cell 2, hr5, hc6⟩
  clear hK K
  refine anyH_mono (fun w' => (w'.cell? ⟨w1.heap.size, 0, none⟩ = some (.int .i64 1) ∧ w'.cell? ⟨w1.heap.size, 1, none⟩ = some (.int .i64 1) ∧ w'.cell? ⟨w1.heap.size, 2, none⟩ = some (.int .i64 20) ∧ RdB w' G4 0 23552 (trF 20 n) ∧ w'.cell? ⟨A5, 0, none⟩ = some (.int .i64 3)) ∧ RdB w' G5 0 23552 (trF 20 n)) (fun w h => h.1) _ _ _ _ ?_
  replace hHeld : (fun w' => (w'.cell? ⟨w1.heap.size, 0, none⟩ = some (.int .i64 1) ∧ w'.cell? ⟨w1.heap.size, 1, none⟩ = some (.int .i64 1) ∧ w'.cell? ⟨w1.heap.size, 2, none⟩ = some (.int .i64 20) ∧ RdB w' G4 0 23552 (trF 20 n) ∧ w'.cell? ⟨A5, 0, none⟩ = some (.int .i64 3)) ∧ RdB w' G5 0 23552 (trF 20 n)) _ := ⟨hHeld, hs5⟩
  refine wpAnyH_take (i := 19) (oi := ⟨_, _, _, _, _, _⟩) (v := ?_) rfl (by kernel_rfl) (by kernel_rfl) (by kernel_rfl) (fun _ _ _ h => h) (Or.inl ⟨by kernel_rfl, ?_⟩) (by assumption) ?_
  rotate_left
  · (intro w hSw; (try dsimp only at hSw); have cv := HCV.out G5 cap9 _ hSw.2; go_simp; first | done | with_reducible rfl)
  simp only [Act.put, List.setIfInBounds_toArray, List.set_cons_zero, List.set_cons_succ]
  refine wpAnyH_take (i := 20) (oi := ⟨_, _, _, _, _, _⟩) (v := ?_) rfl (by kernel_rfl) (by kernel_rfl) (by kernel_rfl) (fun _ _ _ h => h) (Or.inl ⟨by kernel_rfl, ?_⟩) (by assumption) ?_
  rotate_left
  · (intro w hSw; (try dsimp only at hSw); go_simp; first | done | with_reducible rfl)
  simp only [Act.put, List.setIfInBounds_toArray, List.set_cons_zero, List.set_cons_succ]
  refine wpAnyH_take (i := 21) (oi := ⟨_, _, _, _, _, _⟩) (v := ?_) rfl (by kernel_rfl) (by kernel_rfl) (by kernel_rfl) (fun _ _ _ h => h) (Or.inl ⟨by kernel_rfl, ?_⟩) (by assumption) ?_
  rotate_left
  · (intro w hSw; (try dsimp only at hSw); go_simp; first | done | with_reducible rfl)
  simp only [Act.put, List.setIfInBounds_toArray, List.set_cons_zero, List.set_cons_succ]
  refine wpAnyH_take (i := 22) (oi := ⟨_, _, _, _, _, _⟩) (v := ?_) rfl (by kernel_rfl) (by kernel_rfl) (by kernel_rfl) (fun _ _ _ h => h) (Or.inl ⟨by kernel_rfl, ?_⟩) (by assumption) ?_
  rotate_left
  · (intro w hSw; (try dsimp only at hSw); go_simp; first | done | with_reducible rfl)
  simp only [Act.put, List.setIfInBounds_toArray, List.set_cons_zero, List.set_cons_succ]
  refine wpAnyH_done (by kernel_rfl) ?_ _
  have hBT := HBW4.out.trans (hb5'.mono HBW4.out.size)
  have HBT := Lib.hid hBT
  clear hHeld hk5 hr5 hs5 ho5 hb5 hb5' hr4 hk4 hBT hc6 hc4
  go_wp2
  go_ret
  exact ⟨rfl, HBT.out⟩

set_option maxRecDepth 100000 in
set_option maxHeartbeats 8000000 in
theorem names_1 (n : Nat) (w : World) (hn : n ≤ 9) (h1 : 1 ≤ n) : Calls Try.prog 6 #[.int .i64 n, .int .i64 1] w fun e w' => e = .returned (.bool true) ∧ Below w.heap.size w w' := by
  have RP := fun W base G cap ho => lrep_c (m := 20) (n := n) (N := 23552) (h := namH n 1) hn (by omega) (by decide) (by decide) (by decide) (fun k hk => head_20 ⟨n, by omega⟩ ⟨k, hk⟩) (like_names hn h1) (fun q h1 h2 => namH_far n 1 q (by omega)) W base G cap ho
  rw [unlike_names hn] at RP
  have CV := fun G cap W hr => conv_tree G cap n hn W hr
  obtain ⟨ST, hST⟩ : ∃ s, s = strOf (trF 20 n) 23552 := ⟨_, rfl⟩
  simp only [← hST] at CV
  have HRP := Lib.hid RP; have HCV := Lib.hid CV
  clear RP CV hST
  have AL := alive_c
  have TR := tree_c n hn
  have D0 : ∀ W : World, Calls Try.prog 11 #[.agg #[.int .i64 1, .int .i64 1, .int .i64 20], .int .i64 0] W fun e w' => e = .returned (.tuple #[.int .i64 3, .bool true]) ∧ Below W.heap.size W w' := fun W => by
    have h := rdata_c (geo1 20) (geo1_ok (m := 20) (by decide) (by decide)) 0 (by decide) W
    exact h
  have gk : ∀ W : World, Blk 25 (W.alloc (.cells #[.int .i64 1, .int .i64 1, .int .i64 20] 25)) W.heap.size [.int .i64 1, .int .i64 1, .int .i64 20] := fun W => Blk.newL _
  have HAL := Lib.hid AL; have HTR := Lib.hid TR; have HD0 := Lib.hid D0; have HGK := Lib.hid gk
  have d0 : decide ((n : Int) < 1) = false := by simp; omega
  have d1 : decide ((9 : Int) < (n : Int)) = false := by simp; omega
  have PE : ∀ W : World, Calls Try.prog 12 #[.agg #[.int .i64 99, .string ⟨#[122]⟩]] W fun e w' => ∃ G cap, e = .returned (.tuple #[.slice (some ⟨G, 0, none⟩) 32 cap, .bool true]) ∧ w'.ownsRow W.heap.size 5 1 (.slice (some ⟨G, 0, none⟩) 32 cap) 32 (bytesL (entF (badE 1).1 (badE 1).2) 32) ∧ Below W.heap.size W w' := fun W => rpent_c 99 ⟨#[122]⟩ (by decide) (by decide) (by decide +kernel) W
  obtain ⟨EF, hEF⟩ : ∃ F, F = entF (badE 1).1 (badE 1).2 := ⟨_, rfl⟩
  rw [← hEF] at PE
  have hH : putF (trF 20 n) 3712 32 EF = namH n 1 := by rw [hEF]; unfold namH; rw [if_pos (by decide)]
  have HPE := Lib.hid PE; have HH := Lib.hid hH
  clear PE hEF hH
  clear AL TR D0 gk
  go_enter Try.func6, Try.ntmps6
  go_wp2_with (first
    | (go_at_call 7; refine (HAL.out _).mono ?_; rintro e w1 ⟨rfl, hb1⟩; have HB1 := Lib.hid hb1; have hz1 := hb1.size; have k1 := HGK.out w1; have c0 := k1.cell 0; have c1 := k1.cell 1; have c2 := k1.cell 2; simp only [List.getElem?_cons_zero, List.getElem?_cons_succ] at c0 c1 c2; have HK1 := Lib.hid k1; clear hb1 k1)
    | (go_at_call 8; refine (HTR.out _).mono ?_; rintro e w2 ⟨G, cap, rfl, ho2, hb2⟩; obtain ⟨l1, l2, l3, l4⟩ := own_len ho2; unfold maxLen at l4; have hz2 := hb2.size; have hk2 := HK1.out.below hb2 (by simp); have g0 := hk2.cell 0; have g1 := hk2.cell 1; have g2 := hk2.cell 2; simp only [List.getElem?_cons_zero, List.getElem?_cons_succ] at g0 g1 g2; have HK2 := Lib.hid hk2; have HO2 := Lib.hid ho2; have HB2 := Lib.hid hb2; clear ho2 hb2 hk2)
    | (go_at_call 11; refine (HD0.out _).mono ?_; rintro e w3 ⟨rfl, hb3⟩; have hz3 := hb3.size; have HB3 := Lib.hid hb3; clear hb3; clear g0 g1 g2)
    | (go_at_call 12; refine (HPE.out _).mono ?_; rintro e w6 ⟨g6, cap6, rfl, ho6, hb6⟩; have hz6 := hb6.size; have hB26 := (HB3.out.alloc hz3 _).trans (hb6.mono (by simp; omega)); have hO6 := own_below HO2.out hB26; have hr6 := own_rdB ho6; have HO6 := Lib.hid hO6; have HR6 := Lib.hid hr6; have HB26 := Lib.hid hB26; clear ho6 hb6 hO6 hr6 hB26)
    | (refine copy_own rfl _ _ 22 22 rfl 5 Try.underlying22 (by kernel_rfl) G 3712 19840 (cap - 3712) g6 0 32 cap6 (by rfl) (by rfl) _ 5 23552 cap (trF 20 n) EF HO6.out (by omega) 32 (by decide) HR6.out (by omega) ?_; intro w7 ho7 hm7; rw [HH.out] at ho7; have hz7 := hm7.size; have HO7 := Lib.hid ho7; have HM7 := Lib.hid hm7; clear ho7 hm7)
    | (go_at_call 9; refine (HRP.out _ _ _ _ HO7.out).mono ?_; rintro e w8 ⟨G4, cap4, v4, rfl, ho4, hv4, hb4⟩; obtain ⟨A5, cap5, rfl, _, hc5⟩ := own_one hv4; have hz4 := hb4.size; have HO4 := Lib.hid ho4; have HB4 := Lib.hid hb4; have HC5 := Lib.hid hc5; clear ho4 hv4 hb4 hc5))
  have lw1 : w1.heap.size < w2.heap.size := by simp at hz2; omega
  have lG1 : w1.heap.size < G := by simp at l1; omega
  have hBw2 : Below w.heap.size w w2 := ((HB1.out.alloc hz1 _).trans (HB2.out.mono (by simp; omega)))
  have hB27 := Below.mods (hBw2.trans (HB26.out.mono hBw2.size)) HM7.out (fun i hi e => by omega) (hBw2.trans (HB26.out.mono hBw2.size)).size
  have hk7 := (HK2.out.below HB26.out HK2.out.lt).mods HM7.out (fun e => by omega)
  have hk4 := hk7.below HB4.out hk7.lt
  have hr4 := own_rdB HO4.out
  have hc4 : w8.cell? ⟨A5, 0, none⟩ = some (.int .i64 3) := HC5.out
  have lk4 := hk4.lt
  have hBw4 := hB27.trans (HB4.out.mono hB27.size)
  have g0 := hk4.cell 0; have g1 := hk4.cell 1; have g2 := hk4.cell 2
  simp only [List.getElem?_cons_zero, List.getElem?_cons_succ] at g0 g1 g2
  have HBW4 := Lib.hid hBw4
  clear hBw4 hB27 hBw2 hk7
  refine wp_region_held_drew (S := (fun w' => w'.cell? ⟨w1.heap.size, 0, none⟩ = some (.int .i64 1) ∧ w'.cell? ⟨w1.heap.size, 1, none⟩ = some (.int .i64 1) ∧ w'.cell? ⟨w1.heap.size, 2, none⟩ = some (.int .i64 20) ∧ RdB w' G4 0 23552 (trF 20 n) ∧ w'.cell? ⟨A5, 0, none⟩ = some (.int .i64 3))) (by kernel_rfl) ⟨g0, g1, g2, hr4.below (Below.refl _ _).drew, hc4⟩ (fun hHeld => ?_)
  refine wpAnyH_take (i := 0) (oi := ⟨_, _, _, _, _, _⟩) (v := ?_) rfl (by kernel_rfl) (by kernel_rfl) (by kernel_rfl) (fun _ _ _ h => h) (Or.inl ⟨by kernel_rfl, ?_⟩) (by assumption) ?_
  rotate_left
  · (intro w hSw; (try dsimp only at hSw); go_simp; first | done | with_reducible rfl)
  simp only [Act.put, List.setIfInBounds_toArray, List.set_cons_zero, List.set_cons_succ]
  refine wpAnyH_take (i := 1) (oi := ⟨_, _, _, _, _, _⟩) (v := ?_) rfl (by kernel_rfl) (by kernel_rfl) (by kernel_rfl) (fun _ _ _ h => h) (Or.inl ⟨by kernel_rfl, ?_⟩) (by assumption) ?_
  rotate_left
  · (intro w hSw; (try dsimp only at hSw); go_simp; first | done | with_reducible rfl)
  simp only [Act.put, List.setIfInBounds_toArray, List.set_cons_zero, List.set_cons_succ]
  refine wpAnyH_take (i := 2) (oi := ⟨_, _, _, _, _, _⟩) (v := ?_) rfl (by kernel_rfl) (by kernel_rfl) (by kernel_rfl) (fun _ _ _ h => h) (Or.inl ⟨by kernel_rfl, ?_⟩) (by assumption) ?_
  rotate_left
  · (intro w hSw; (try dsimp only at hSw); go_simp; first | done | with_reducible rfl)
  simp only [Act.put, List.setIfInBounds_toArray, List.set_cons_zero, List.set_cons_succ]
  refine wpAnyH_take (i := 3) (oi := ⟨_, _, _, _, _, _⟩) (v := ?_) rfl (by kernel_rfl) (by kernel_rfl) (by kernel_rfl) (fun _ _ _ h => h) (Or.inl ⟨by kernel_rfl, ?_⟩) (by assumption) ?_
  rotate_left
  · (intro w hSw; (try dsimp only at hSw); go_simp; first | done | with_reducible rfl)
  simp only [Act.put, List.setIfInBounds_toArray, List.set_cons_zero, List.set_cons_succ]
  refine wpAnyH_take (i := 4) (oi := ⟨_, _, _, _, _, _⟩) (v := ?_) rfl (by kernel_rfl) (by kernel_rfl) (by kernel_rfl) (fun _ _ _ h => h) (Or.inl ⟨by kernel_rfl, ?_⟩) (by assumption) ?_
  rotate_left
  · (intro w hSw; (try dsimp only at hSw); go_simp; first | done | with_reducible rfl)
  simp only [Act.put, List.setIfInBounds_toArray, List.set_cons_zero, List.set_cons_succ]
  refine wpAnyH_take (i := 5) (oi := ⟨_, _, _, _, _, _⟩) (v := ?_) rfl (by kernel_rfl) (by kernel_rfl) (by kernel_rfl) (fun _ _ _ h => h) (Or.inl ⟨by kernel_rfl, ?_⟩) (by assumption) ?_
  rotate_left
  · (intro w hSw; (try dsimp only at hSw); go_simp; first | done | with_reducible rfl)
  simp only [Act.put, List.setIfInBounds_toArray, List.set_cons_zero, List.set_cons_succ]
  refine wpAnyH_take (i := 6) (oi := ⟨_, _, _, _, _, _⟩) (v := ?_) rfl (by kernel_rfl) (by kernel_rfl) (by kernel_rfl) (fun _ _ _ h => h) (Or.inl ⟨by kernel_rfl, ?_⟩) (by assumption) ?_
  rotate_left
  · (intro w hSw; (try dsimp only at hSw); go_simp; first | done | with_reducible rfl)
  simp only [Act.put, List.setIfInBounds_toArray, List.set_cons_zero, List.set_cons_succ]
  refine wpAnyH_take (i := 7) (oi := ⟨_, _, _, _, _, _⟩) (v := ?_) rfl (by kernel_rfl) (by kernel_rfl) (by kernel_rfl) (fun _ _ _ h => h) (Or.inl ⟨by kernel_rfl, ?_⟩) (by assumption) ?_
  rotate_left
  · (intro w hSw; (try dsimp only at hSw); go_simp; first | done | with_reducible rfl)
  simp only [Act.put, List.setIfInBounds_toArray, List.set_cons_zero, List.set_cons_succ]
  refine wpAnyH_take (i := 8) (oi := ⟨_, _, _, _, _, _⟩) (v := ?_) rfl (by kernel_rfl) (by kernel_rfl) (by kernel_rfl) (fun _ _ _ h => h) (Or.inl ⟨by kernel_rfl, ?_⟩) (by assumption) ?_
  rotate_left
  · (intro w hSw; (try dsimp only at hSw); go_simp; first | done | with_reducible rfl)
  simp only [Act.put, List.setIfInBounds_toArray, List.set_cons_zero, List.set_cons_succ]
  refine wpAnyH_take (i := 9) (oi := ⟨_, _, _, _, _, _⟩) (v := ?_) rfl (by kernel_rfl) (by kernel_rfl) (by kernel_rfl) (fun _ _ _ h => h) (Or.inl ⟨by kernel_rfl, ?_⟩) (by assumption) ?_
  rotate_left
  · (intro w hSw; (try dsimp only at hSw); go_simp; first | done | with_reducible rfl)
  simp only [Act.put, List.setIfInBounds_toArray, List.set_cons_zero, List.set_cons_succ]
  refine wpAnyH_take (i := 10) (oi := ⟨_, _, _, _, _, _⟩) (v := ?_) rfl (by kernel_rfl) (by kernel_rfl) (by kernel_rfl) (fun _ _ _ h => h) (Or.inl ⟨by kernel_rfl, ?_⟩) (by assumption) ?_
  rotate_left
  · (intro w hSw; (try dsimp only at hSw); go_simp; first | done | with_reducible rfl)
  simp only [Act.put, List.setIfInBounds_toArray, List.set_cons_zero, List.set_cons_succ]
  refine wpAnyH_take (i := 11) (oi := ⟨_, _, _, _, _, _⟩) (v := ?_) rfl (by kernel_rfl) (by kernel_rfl) (by kernel_rfl) (fun _ _ _ h => h) (Or.inl ⟨by kernel_rfl, ?_⟩) (by assumption) ?_
  rotate_left
  · (intro w hSw; (try dsimp only at hSw); go_simp; first | done | with_reducible rfl)
  simp only [Act.put, List.setIfInBounds_toArray, List.set_cons_zero, List.set_cons_succ]
  refine wpAnyH_take (i := 12) (oi := ⟨_, _, _, _, _, _⟩) (v := ?_) rfl (by kernel_rfl) (by kernel_rfl) (by kernel_rfl) (fun _ _ _ h => h) (Or.inl ⟨by kernel_rfl, ?_⟩) (by assumption) ?_
  rotate_left
  · (intro w hSw; (try dsimp only at hSw); go_simp; first | done | with_reducible rfl)
  simp only [Act.put, List.setIfInBounds_toArray, List.set_cons_zero, List.set_cons_succ]
  refine wpAnyH_take (i := 13) (oi := ⟨_, _, _, _, _, _⟩) (v := ?_) rfl (by kernel_rfl) (by kernel_rfl) (by kernel_rfl) (fun _ _ _ h => h) (Or.inl ⟨by kernel_rfl, ?_⟩) (by assumption) ?_
  rotate_left
  · (intro w hSw; (try dsimp only at hSw); go_simp; first | done | with_reducible rfl)
  simp only [Act.put, List.setIfInBounds_toArray, List.set_cons_zero, List.set_cons_succ]
  refine wpAnyH_take (i := 14) (oi := ⟨_, _, _, _, _, _⟩) (v := ?_) rfl (by kernel_rfl) (by kernel_rfl) (by kernel_rfl) (fun _ _ _ h => h) (Or.inl ⟨by kernel_rfl, ?_⟩) (by assumption) ?_
  rotate_left
  · (intro w hSw; (try dsimp only at hSw); go_simp; first | done | with_reducible rfl)
  simp only [Act.put, List.setIfInBounds_toArray, List.set_cons_zero, List.set_cons_succ]
  refine wpAnyH_take (i := 15) (oi := ⟨_, _, _, _, _, _⟩) (v := ?_) rfl (by kernel_rfl) (by kernel_rfl) (by kernel_rfl) (fun _ _ _ h => h) (Or.inl ⟨by kernel_rfl, ?_⟩) (by assumption) ?_
  rotate_left
  · (intro w hSw; (try dsimp only at hSw); have cv := HCV.out G4 cap4 _ hSw.2.2.2.1; go_simp; first | done | with_reducible rfl)
  simp only [Act.put, List.setIfInBounds_toArray, List.set_cons_zero, List.set_cons_succ]
  refine wpAnyH_take (i := 16) (oi := ⟨_, _, _, _, _, _⟩) (v := ?_) rfl (by kernel_rfl) (by kernel_rfl) (by kernel_rfl) (fun _ _ _ h => h) (Or.inl ⟨by kernel_rfl, ?_⟩) (by assumption) ?_
  rotate_left
  · (intro w hSw; (try dsimp only at hSw); go_simp; first | done | with_reducible rfl)
  simp only [Act.put, List.setIfInBounds_toArray, List.set_cons_zero, List.set_cons_succ]
  refine wpAnyH_take (i := 17) (oi := ⟨_, _, _, _, _, _⟩) (v := ?_) rfl (by kernel_rfl) (by kernel_rfl) (by kernel_rfl) (fun _ _ _ h => h) (Or.inl ⟨by kernel_rfl, ?_⟩) (by assumption) ?_
  rotate_left
  · (intro w hSw; (try dsimp only at hSw); go_simp; first | done | with_reducible rfl)
  simp only [Act.put, List.setIfInBounds_toArray, List.set_cons_zero, List.set_cons_succ]
  refine wpAnyH_ready (rs := [18]) (by kernel_rfl) (by simp) ?_
  refine AllReadyH.cons rfl (fun K hK => ?_) AllReadyH.nil
  go_simp
  go_at_call 8
  refine (HTR.out _).mono ?_
  rintro e w9 ⟨G5, cap9, rfl, ho5, hb5⟩
  have hb5' : Below w8.heap.size w8 w9 := (Below.refl w8.heap.size w8).drew.trans hb5
  have hk5 := hk4.below hb5' lk4
  have hr5 := hr4.below hb5'
  have hc6 : w9.cell? ⟨A5, 0, none⟩ = some (.int .i64 3) := by rw [hb5'.cell (p := ⟨A5, 0, none⟩) (lt_of_cell hc4)]; exact hc4
  have hs5 := own_rdB ho5
  go_simp
  refine hK.out _ _ ?_ (fun hHeld => ?_)
  · exact ⟨hk5.cell 0, hk5.cell 1, hk5.cell 2, hr5, hc6⟩
  clear hK K
  refine anyH_mono (fun w' => (w'.cell? ⟨w1.heap.size, 0, none⟩ = some (.int .i64 1) ∧ w'.cell? ⟨w1.heap.size, 1, none⟩ = some (.int .i64 1) ∧ w'.cell? ⟨w1.heap.size, 2, none⟩ = some (.int .i64 20) ∧ RdB w' G4 0 23552 (trF 20 n) ∧ w'.cell? ⟨A5, 0, none⟩ = some (.int .i64 3)) ∧ RdB w' G5 0 23552 (trF 20 n)) (fun w h => h.1) _ _ _ _ ?_
  replace hHeld : (fun w' => (w'.cell? ⟨w1.heap.size, 0, none⟩ = some (.int .i64 1) ∧ w'.cell? ⟨w1.heap.size, 1, none⟩ = some (.int .i64 1) ∧ w'.cell? ⟨w1.heap.size, 2, none⟩ = some (.int .i64 20) ∧ RdB w' G4 0 23552 (trF 20 n) ∧ w'.cell? ⟨A5, 0, none⟩ = some (.int .i64 3)) ∧ RdB w' G5 0 23552 (trF 20 n)) _ := ⟨hHeld, hs5⟩
  refine wpAnyH_take (i := 19) (oi := ⟨_, _, _, _, _, _⟩) (v := ?_) rfl (by kernel_rfl) (by kernel_rfl) (by kernel_rfl) (fun _ _ _ h => h) (Or.inl ⟨by kernel_rfl, ?_⟩) (by assumption) ?_
  rotate_left
  · (intro w hSw; (try dsimp only at hSw); have cv := HCV.out G5 cap9 _ hSw.2; go_simp; first | done | with_reducible rfl)
  simp only [Act.put, List.setIfInBounds_toArray, List.set_cons_zero, List.set_cons_succ]
  refine wpAnyH_take (i := 20) (oi := ⟨_, _, _, _, _, _⟩) (v := ?_) rfl (by kernel_rfl) (by kernel_rfl) (by kernel_rfl) (fun _ _ _ h => h) (Or.inl ⟨by kernel_rfl, ?_⟩) (by assumption) ?_
  rotate_left
  · (intro w hSw; (try dsimp only at hSw); go_simp; first | done | with_reducible rfl)
  simp only [Act.put, List.setIfInBounds_toArray, List.set_cons_zero, List.set_cons_succ]
  refine wpAnyH_take (i := 21) (oi := ⟨_, _, _, _, _, _⟩) (v := ?_) rfl (by kernel_rfl) (by kernel_rfl) (by kernel_rfl) (fun _ _ _ h => h) (Or.inl ⟨by kernel_rfl, ?_⟩) (by assumption) ?_
  rotate_left
  · (intro w hSw; (try dsimp only at hSw); go_simp; first | done | with_reducible rfl)
  simp only [Act.put, List.setIfInBounds_toArray, List.set_cons_zero, List.set_cons_succ]
  refine wpAnyH_take (i := 22) (oi := ⟨_, _, _, _, _, _⟩) (v := ?_) rfl (by kernel_rfl) (by kernel_rfl) (by kernel_rfl) (fun _ _ _ h => h) (Or.inl ⟨by kernel_rfl, ?_⟩) (by assumption) ?_
  rotate_left
  · (intro w hSw; (try dsimp only at hSw); go_simp; first | done | with_reducible rfl)
  simp only [Act.put, List.setIfInBounds_toArray, List.set_cons_zero, List.set_cons_succ]
  refine wpAnyH_done (by kernel_rfl) ?_ _
  have hBT := HBW4.out.trans (hb5'.mono HBW4.out.size)
  have HBT := Lib.hid hBT
  clear hHeld hk5 hr5 hs5 ho5 hb5 hb5' hr4 hk4 hBT hc6 hc4
  go_wp2
  go_ret
  exact ⟨rfl, HBT.out⟩

set_option maxRecDepth 100000 in
set_option maxHeartbeats 8000000 in
theorem names_2 (n : Nat) (w : World) (hn : n ≤ 9) (h1 : 1 ≤ n) : Calls Try.prog 6 #[.int .i64 n, .int .i64 2] w fun e w' => e = .returned (.bool true) ∧ Below w.heap.size w w' := by
  have RP := fun W base G cap ho => lrep_c (m := 20) (n := n) (N := 23552) (h := namH n 2) hn (by omega) (by decide) (by decide) (by decide) (fun k hk => head_20 ⟨n, by omega⟩ ⟨k, hk⟩) (like_names hn h1) (fun q h1 h2 => namH_far n 2 q (by omega)) W base G cap ho
  rw [unlike_names hn] at RP
  have CV := fun G cap W hr => conv_tree G cap n hn W hr
  obtain ⟨ST, hST⟩ : ∃ s, s = strOf (trF 20 n) 23552 := ⟨_, rfl⟩
  simp only [← hST] at CV
  have HRP := Lib.hid RP; have HCV := Lib.hid CV
  clear RP CV hST
  have AL := alive_c
  have TR := tree_c n hn
  have D0 : ∀ W : World, Calls Try.prog 11 #[.agg #[.int .i64 1, .int .i64 1, .int .i64 20], .int .i64 0] W fun e w' => e = .returned (.tuple #[.int .i64 3, .bool true]) ∧ Below W.heap.size W w' := fun W => by
    have h := rdata_c (geo1 20) (geo1_ok (m := 20) (by decide) (by decide)) 0 (by decide) W
    exact h
  have gk : ∀ W : World, Blk 25 (W.alloc (.cells #[.int .i64 1, .int .i64 1, .int .i64 20] 25)) W.heap.size [.int .i64 1, .int .i64 1, .int .i64 20] := fun W => Blk.newL _
  have HAL := Lib.hid AL; have HTR := Lib.hid TR; have HD0 := Lib.hid D0; have HGK := Lib.hid gk
  have d0 : decide ((n : Int) < 1) = false := by simp; omega
  have d1 : decide ((9 : Int) < (n : Int)) = false := by simp; omega
  have PE : ∀ W : World, Calls Try.prog 12 #[.agg #[.int .i64 2, .string ⟨#[46]⟩]] W fun e w' => ∃ G cap, e = .returned (.tuple #[.slice (some ⟨G, 0, none⟩) 32 cap, .bool true]) ∧ w'.ownsRow W.heap.size 5 1 (.slice (some ⟨G, 0, none⟩) 32 cap) 32 (bytesL (entF (badE 2).1 (badE 2).2) 32) ∧ Below W.heap.size W w' := fun W => rpent_c 2 ⟨#[46]⟩ (by decide) (by decide) (by decide +kernel) W
  obtain ⟨EF, hEF⟩ : ∃ F, F = entF (badE 2).1 (badE 2).2 := ⟨_, rfl⟩
  rw [← hEF] at PE
  have hH : putF (trF 20 n) 3712 32 EF = namH n 2 := by rw [hEF]; unfold namH; rw [if_pos (by decide)]
  have HPE := Lib.hid PE; have HH := Lib.hid hH
  clear PE hEF hH
  clear AL TR D0 gk
  go_enter Try.func6, Try.ntmps6
  go_wp2_with (first
    | (go_at_call 7; refine (HAL.out _).mono ?_; rintro e w1 ⟨rfl, hb1⟩; have HB1 := Lib.hid hb1; have hz1 := hb1.size; have k1 := HGK.out w1; have c0 := k1.cell 0; have c1 := k1.cell 1; have c2 := k1.cell 2; simp only [List.getElem?_cons_zero, List.getElem?_cons_succ] at c0 c1 c2; have HK1 := Lib.hid k1; clear hb1 k1)
    | (go_at_call 8; refine (HTR.out _).mono ?_; rintro e w2 ⟨G, cap, rfl, ho2, hb2⟩; obtain ⟨l1, l2, l3, l4⟩ := own_len ho2; unfold maxLen at l4; have hz2 := hb2.size; have hk2 := HK1.out.below hb2 (by simp); have g0 := hk2.cell 0; have g1 := hk2.cell 1; have g2 := hk2.cell 2; simp only [List.getElem?_cons_zero, List.getElem?_cons_succ] at g0 g1 g2; have HK2 := Lib.hid hk2; have HO2 := Lib.hid ho2; have HB2 := Lib.hid hb2; clear ho2 hb2 hk2)
    | (go_at_call 11; refine (HD0.out _).mono ?_; rintro e w3 ⟨rfl, hb3⟩; have hz3 := hb3.size; have HB3 := Lib.hid hb3; clear hb3; clear g0 g1 g2)
    | (go_at_call 12; refine (HPE.out _).mono ?_; rintro e w6 ⟨g6, cap6, rfl, ho6, hb6⟩; have hz6 := hb6.size; have hB26 := (HB3.out.alloc hz3 _).trans (hb6.mono (by simp; omega)); have hO6 := own_below HO2.out hB26; have hr6 := own_rdB ho6; have HO6 := Lib.hid hO6; have HR6 := Lib.hid hr6; have HB26 := Lib.hid hB26; clear ho6 hb6 hO6 hr6 hB26)
    | (refine copy_own rfl _ _ 22 22 rfl 5 Try.underlying22 (by kernel_rfl) G 3712 19840 (cap - 3712) g6 0 32 cap6 (by rfl) (by rfl) _ 5 23552 cap (trF 20 n) EF HO6.out (by omega) 32 (by decide) HR6.out (by omega) ?_; intro w7 ho7 hm7; rw [HH.out] at ho7; have hz7 := hm7.size; have HO7 := Lib.hid ho7; have HM7 := Lib.hid hm7; clear ho7 hm7)
    | (go_at_call 9; refine (HRP.out _ _ _ _ HO7.out).mono ?_; rintro e w8 ⟨G4, cap4, v4, rfl, ho4, hv4, hb4⟩; obtain ⟨A5, cap5, rfl, _, hc5⟩ := own_one hv4; have hz4 := hb4.size; have HO4 := Lib.hid ho4; have HB4 := Lib.hid hb4; have HC5 := Lib.hid hc5; clear ho4 hv4 hb4 hc5))
  have lw1 : w1.heap.size < w2.heap.size := by simp at hz2; omega
  have lG1 : w1.heap.size < G := by simp at l1; omega
  have hBw2 : Below w.heap.size w w2 := ((HB1.out.alloc hz1 _).trans (HB2.out.mono (by simp; omega)))
  have hB27 := Below.mods (hBw2.trans (HB26.out.mono hBw2.size)) HM7.out (fun i hi e => by omega) (hBw2.trans (HB26.out.mono hBw2.size)).size
  have hk7 := (HK2.out.below HB26.out HK2.out.lt).mods HM7.out (fun e => by omega)
  have hk4 := hk7.below HB4.out hk7.lt
  have hr4 := own_rdB HO4.out
  have hc4 : w8.cell? ⟨A5, 0, none⟩ = some (.int .i64 3) := HC5.out
  have lk4 := hk4.lt
  have hBw4 := hB27.trans (HB4.out.mono hB27.size)
  have g0 := hk4.cell 0; have g1 := hk4.cell 1; have g2 := hk4.cell 2
  simp only [List.getElem?_cons_zero, List.getElem?_cons_succ] at g0 g1 g2
  have HBW4 := Lib.hid hBw4
  clear hBw4 hB27 hBw2 hk7
  refine wp_region_held_drew (S := (fun w' => w'.cell? ⟨w1.heap.size, 0, none⟩ = some (.int .i64 1) ∧ w'.cell? ⟨w1.heap.size, 1, none⟩ = some (.int .i64 1) ∧ w'.cell? ⟨w1.heap.size, 2, none⟩ = some (.int .i64 20) ∧ RdB w' G4 0 23552 (trF 20 n) ∧ w'.cell? ⟨A5, 0, none⟩ = some (.int .i64 3))) (by kernel_rfl) ⟨g0, g1, g2, hr4.below (Below.refl _ _).drew, hc4⟩ (fun hHeld => ?_)
  refine wpAnyH_take (i := 0) (oi := ⟨_, _, _, _, _, _⟩) (v := ?_) rfl (by kernel_rfl) (by kernel_rfl) (by kernel_rfl) (fun _ _ _ h => h) (Or.inl ⟨by kernel_rfl, ?_⟩) (by assumption) ?_
  rotate_left
  · (intro w hSw; (try dsimp only at hSw); go_simp; first | done | with_reducible rfl)
  simp only [Act.put, List.setIfInBounds_toArray, List.set_cons_zero, List.set_cons_succ]
  refine wpAnyH_take (i := 1) (oi := ⟨_, _, _, _, _, _⟩) (v := ?_) rfl (by kernel_rfl) (by kernel_rfl) (by kernel_rfl) (fun _ _ _ h => h) (Or.inl ⟨by kernel_rfl, ?_⟩) (by assumption) ?_
  rotate_left
  · (intro w hSw; (try dsimp only at hSw); go_simp; first | done | with_reducible rfl)
  simp only [Act.put, List.setIfInBounds_toArray, List.set_cons_zero, List.set_cons_succ]
  refine wpAnyH_take (i := 2) (oi := ⟨_, _, _, _, _, _⟩) (v := ?_) rfl (by kernel_rfl) (by kernel_rfl) (by kernel_rfl) (fun _ _ _ h => h) (Or.inl ⟨by kernel_rfl, ?_⟩) (by assumption) ?_
  rotate_left
  · (intro w hSw; (try dsimp only at hSw); go_simp; first | done | with_reducible rfl)
  simp only [Act.put, List.setIfInBounds_toArray, List.set_cons_zero, List.set_cons_succ]
  refine wpAnyH_take (i := 3) (oi := ⟨_, _, _, _, _, _⟩) (v := ?_) rfl (by kernel_rfl) (by kernel_rfl) (by kernel_rfl) (fun _ _ _ h => h) (Or.inl ⟨by kernel_rfl, ?_⟩) (by assumption) ?_
  rotate_left
  · (intro w hSw; (try dsimp only at hSw); go_simp; first | done | with_reducible rfl)
  simp only [Act.put, List.setIfInBounds_toArray, List.set_cons_zero, List.set_cons_succ]
  refine wpAnyH_take (i := 4) (oi := ⟨_, _, _, _, _, _⟩) (v := ?_) rfl (by kernel_rfl) (by kernel_rfl) (by kernel_rfl) (fun _ _ _ h => h) (Or.inl ⟨by kernel_rfl, ?_⟩) (by assumption) ?_
  rotate_left
  · (intro w hSw; (try dsimp only at hSw); go_simp; first | done | with_reducible rfl)
  simp only [Act.put, List.setIfInBounds_toArray, List.set_cons_zero, List.set_cons_succ]
  refine wpAnyH_take (i := 5) (oi := ⟨_, _, _, _, _, _⟩) (v := ?_) rfl (by kernel_rfl) (by kernel_rfl) (by kernel_rfl) (fun _ _ _ h => h) (Or.inl ⟨by kernel_rfl, ?_⟩) (by assumption) ?_
  rotate_left
  · (intro w hSw; (try dsimp only at hSw); go_simp; first | done | with_reducible rfl)
  simp only [Act.put, List.setIfInBounds_toArray, List.set_cons_zero, List.set_cons_succ]
  refine wpAnyH_take (i := 6) (oi := ⟨_, _, _, _, _, _⟩) (v := ?_) rfl (by kernel_rfl) (by kernel_rfl) (by kernel_rfl) (fun _ _ _ h => h) (Or.inl ⟨by kernel_rfl, ?_⟩) (by assumption) ?_
  rotate_left
  · (intro w hSw; (try dsimp only at hSw); go_simp; first | done | with_reducible rfl)
  simp only [Act.put, List.setIfInBounds_toArray, List.set_cons_zero, List.set_cons_succ]
  refine wpAnyH_take (i := 7) (oi := ⟨_, _, _, _, _, _⟩) (v := ?_) rfl (by kernel_rfl) (by kernel_rfl) (by kernel_rfl) (fun _ _ _ h => h) (Or.inl ⟨by kernel_rfl, ?_⟩) (by assumption) ?_
  rotate_left
  · (intro w hSw; (try dsimp only at hSw); go_simp; first | done | with_reducible rfl)
  simp only [Act.put, List.setIfInBounds_toArray, List.set_cons_zero, List.set_cons_succ]
  refine wpAnyH_take (i := 8) (oi := ⟨_, _, _, _, _, _⟩) (v := ?_) rfl (by kernel_rfl) (by kernel_rfl) (by kernel_rfl) (fun _ _ _ h => h) (Or.inl ⟨by kernel_rfl, ?_⟩) (by assumption) ?_
  rotate_left
  · (intro w hSw; (try dsimp only at hSw); go_simp; first | done | with_reducible rfl)
  simp only [Act.put, List.setIfInBounds_toArray, List.set_cons_zero, List.set_cons_succ]
  refine wpAnyH_take (i := 9) (oi := ⟨_, _, _, _, _, _⟩) (v := ?_) rfl (by kernel_rfl) (by kernel_rfl) (by kernel_rfl) (fun _ _ _ h => h) (Or.inl ⟨by kernel_rfl, ?_⟩) (by assumption) ?_
  rotate_left
  · (intro w hSw; (try dsimp only at hSw); go_simp; first | done | with_reducible rfl)
  simp only [Act.put, List.setIfInBounds_toArray, List.set_cons_zero, List.set_cons_succ]
  refine wpAnyH_take (i := 10) (oi := ⟨_, _, _, _, _, _⟩) (v := ?_) rfl (by kernel_rfl) (by kernel_rfl) (by kernel_rfl) (fun _ _ _ h => h) (Or.inl ⟨by kernel_rfl, ?_⟩) (by assumption) ?_
  rotate_left
  · (intro w hSw; (try dsimp only at hSw); go_simp; first | done | with_reducible rfl)
  simp only [Act.put, List.setIfInBounds_toArray, List.set_cons_zero, List.set_cons_succ]
  refine wpAnyH_take (i := 11) (oi := ⟨_, _, _, _, _, _⟩) (v := ?_) rfl (by kernel_rfl) (by kernel_rfl) (by kernel_rfl) (fun _ _ _ h => h) (Or.inl ⟨by kernel_rfl, ?_⟩) (by assumption) ?_
  rotate_left
  · (intro w hSw; (try dsimp only at hSw); go_simp; first | done | with_reducible rfl)
  simp only [Act.put, List.setIfInBounds_toArray, List.set_cons_zero, List.set_cons_succ]
  refine wpAnyH_take (i := 12) (oi := ⟨_, _, _, _, _, _⟩) (v := ?_) rfl (by kernel_rfl) (by kernel_rfl) (by kernel_rfl) (fun _ _ _ h => h) (Or.inl ⟨by kernel_rfl, ?_⟩) (by assumption) ?_
  rotate_left
  · (intro w hSw; (try dsimp only at hSw); go_simp; first | done | with_reducible rfl)
  simp only [Act.put, List.setIfInBounds_toArray, List.set_cons_zero, List.set_cons_succ]
  refine wpAnyH_take (i := 13) (oi := ⟨_, _, _, _, _, _⟩) (v := ?_) rfl (by kernel_rfl) (by kernel_rfl) (by kernel_rfl) (fun _ _ _ h => h) (Or.inl ⟨by kernel_rfl, ?_⟩) (by assumption) ?_
  rotate_left
  · (intro w hSw; (try dsimp only at hSw); go_simp; first | done | with_reducible rfl)
  simp only [Act.put, List.setIfInBounds_toArray, List.set_cons_zero, List.set_cons_succ]
  refine wpAnyH_take (i := 14) (oi := ⟨_, _, _, _, _, _⟩) (v := ?_) rfl (by kernel_rfl) (by kernel_rfl) (by kernel_rfl) (fun _ _ _ h => h) (Or.inl ⟨by kernel_rfl, ?_⟩) (by assumption) ?_
  rotate_left
  · (intro w hSw; (try dsimp only at hSw); go_simp; first | done | with_reducible rfl)
  simp only [Act.put, List.setIfInBounds_toArray, List.set_cons_zero, List.set_cons_succ]
  refine wpAnyH_take (i := 15) (oi := ⟨_, _, _, _, _, _⟩) (v := ?_) rfl (by kernel_rfl) (by kernel_rfl) (by kernel_rfl) (fun _ _ _ h => h) (Or.inl ⟨by kernel_rfl, ?_⟩) (by assumption) ?_
  rotate_left
  · (intro w hSw; (try dsimp only at hSw); have cv := HCV.out G4 cap4 _ hSw.2.2.2.1; go_simp; first | done | with_reducible rfl)
  simp only [Act.put, List.setIfInBounds_toArray, List.set_cons_zero, List.set_cons_succ]
  refine wpAnyH_take (i := 16) (oi := ⟨_, _, _, _, _, _⟩) (v := ?_) rfl (by kernel_rfl) (by kernel_rfl) (by kernel_rfl) (fun _ _ _ h => h) (Or.inl ⟨by kernel_rfl, ?_⟩) (by assumption) ?_
  rotate_left
  · (intro w hSw; (try dsimp only at hSw); go_simp; first | done | with_reducible rfl)
  simp only [Act.put, List.setIfInBounds_toArray, List.set_cons_zero, List.set_cons_succ]
  refine wpAnyH_take (i := 17) (oi := ⟨_, _, _, _, _, _⟩) (v := ?_) rfl (by kernel_rfl) (by kernel_rfl) (by kernel_rfl) (fun _ _ _ h => h) (Or.inl ⟨by kernel_rfl, ?_⟩) (by assumption) ?_
  rotate_left
  · (intro w hSw; (try dsimp only at hSw); go_simp; first | done | with_reducible rfl)
  simp only [Act.put, List.setIfInBounds_toArray, List.set_cons_zero, List.set_cons_succ]
  refine wpAnyH_ready (rs := [18]) (by kernel_rfl) (by simp) ?_
  refine AllReadyH.cons rfl (fun K hK => ?_) AllReadyH.nil
  go_simp
  go_at_call 8
  refine (HTR.out _).mono ?_
  rintro e w9 ⟨G5, cap9, rfl, ho5, hb5⟩
  have hb5' : Below w8.heap.size w8 w9 := (Below.refl w8.heap.size w8).drew.trans hb5
  have hk5 := hk4.below hb5' lk4
  have hr5 := hr4.below hb5'
  have hc6 : w9.cell? ⟨A5, 0, none⟩ = some (.int .i64 3) := by rw [hb5'.cell (p := ⟨A5, 0, none⟩) (lt_of_cell hc4)]; exact hc4
  have hs5 := own_rdB ho5
  go_simp
  refine hK.out _ _ ?_ (fun hHeld => ?_)
  · exact ⟨hk5.cell 0, hk5.cell 1, hk5.cell 2, hr5, hc6⟩
  clear hK K
  refine anyH_mono (fun w' => (w'.cell? ⟨w1.heap.size, 0, none⟩ = some (.int .i64 1) ∧ w'.cell? ⟨w1.heap.size, 1, none⟩ = some (.int .i64 1) ∧ w'.cell? ⟨w1.heap.size, 2, none⟩ = some (.int .i64 20) ∧ RdB w' G4 0 23552 (trF 20 n) ∧ w'.cell? ⟨A5, 0, none⟩ = some (.int .i64 3)) ∧ RdB w' G5 0 23552 (trF 20 n)) (fun w h => h.1) _ _ _ _ ?_
  replace hHeld : (fun w' => (w'.cell? ⟨w1.heap.size, 0, none⟩ = some (.int .i64 1) ∧ w'.cell? ⟨w1.heap.size, 1, none⟩ = some (.int .i64 1) ∧ w'.cell? ⟨w1.heap.size, 2, none⟩ = some (.int .i64 20) ∧ RdB w' G4 0 23552 (trF 20 n) ∧ w'.cell? ⟨A5, 0, none⟩ = some (.int .i64 3)) ∧ RdB w' G5 0 23552 (trF 20 n)) _ := ⟨hHeld, hs5⟩
  refine wpAnyH_take (i := 19) (oi := ⟨_, _, _, _, _, _⟩) (v := ?_) rfl (by kernel_rfl) (by kernel_rfl) (by kernel_rfl) (fun _ _ _ h => h) (Or.inl ⟨by kernel_rfl, ?_⟩) (by assumption) ?_
  rotate_left
  · (intro w hSw; (try dsimp only at hSw); have cv := HCV.out G5 cap9 _ hSw.2; go_simp; first | done | with_reducible rfl)
  simp only [Act.put, List.setIfInBounds_toArray, List.set_cons_zero, List.set_cons_succ]
  refine wpAnyH_take (i := 20) (oi := ⟨_, _, _, _, _, _⟩) (v := ?_) rfl (by kernel_rfl) (by kernel_rfl) (by kernel_rfl) (fun _ _ _ h => h) (Or.inl ⟨by kernel_rfl, ?_⟩) (by assumption) ?_
  rotate_left
  · (intro w hSw; (try dsimp only at hSw); go_simp; first | done | with_reducible rfl)
  simp only [Act.put, List.setIfInBounds_toArray, List.set_cons_zero, List.set_cons_succ]
  refine wpAnyH_take (i := 21) (oi := ⟨_, _, _, _, _, _⟩) (v := ?_) rfl (by kernel_rfl) (by kernel_rfl) (by kernel_rfl) (fun _ _ _ h => h) (Or.inl ⟨by kernel_rfl, ?_⟩) (by assumption) ?_
  rotate_left
  · (intro w hSw; (try dsimp only at hSw); go_simp; first | done | with_reducible rfl)
  simp only [Act.put, List.setIfInBounds_toArray, List.set_cons_zero, List.set_cons_succ]
  refine wpAnyH_take (i := 22) (oi := ⟨_, _, _, _, _, _⟩) (v := ?_) rfl (by kernel_rfl) (by kernel_rfl) (by kernel_rfl) (fun _ _ _ h => h) (Or.inl ⟨by kernel_rfl, ?_⟩) (by assumption) ?_
  rotate_left
  · (intro w hSw; (try dsimp only at hSw); go_simp; first | done | with_reducible rfl)
  simp only [Act.put, List.setIfInBounds_toArray, List.set_cons_zero, List.set_cons_succ]
  refine wpAnyH_done (by kernel_rfl) ?_ _
  have hBT := HBW4.out.trans (hb5'.mono HBW4.out.size)
  have HBT := Lib.hid hBT
  clear hHeld hk5 hr5 hs5 ho5 hb5 hb5' hr4 hk4 hBT hc6 hc4
  go_wp2
  go_ret
  exact ⟨rfl, HBT.out⟩

set_option maxRecDepth 100000 in
set_option maxHeartbeats 8000000 in
theorem names_3 (n : Nat) (w : World) (hn : n ≤ 9) (h1 : 1 ≤ n) : Calls Try.prog 6 #[.int .i64 n, .int .i64 3] w fun e w' => e = .returned (.bool true) ∧ Below w.heap.size w w' := by
  have RP := fun W base G cap ho => lrep_c (m := 20) (n := n) (N := 23552) (h := namH n 3) hn (by omega) (by decide) (by decide) (by decide) (fun k hk => head_20 ⟨n, by omega⟩ ⟨k, hk⟩) (like_names hn h1) (fun q h1 h2 => namH_far n 3 q (by omega)) W base G cap ho
  rw [unlike_names hn] at RP
  have CV := fun G cap W hr => conv_tree G cap n hn W hr
  obtain ⟨ST, hST⟩ : ∃ s, s = strOf (trF 20 n) 23552 := ⟨_, rfl⟩
  simp only [← hST] at CV
  have HRP := Lib.hid RP; have HCV := Lib.hid CV
  clear RP CV hST
  have AL := alive_c
  have TR := tree_c n hn
  have D0 : ∀ W : World, Calls Try.prog 11 #[.agg #[.int .i64 1, .int .i64 1, .int .i64 20], .int .i64 0] W fun e w' => e = .returned (.tuple #[.int .i64 3, .bool true]) ∧ Below W.heap.size W w' := fun W => by
    have h := rdata_c (geo1 20) (geo1_ok (m := 20) (by decide) (by decide)) 0 (by decide) W
    exact h
  have gk : ∀ W : World, Blk 25 (W.alloc (.cells #[.int .i64 1, .int .i64 1, .int .i64 20] 25)) W.heap.size [.int .i64 1, .int .i64 1, .int .i64 20] := fun W => Blk.newL _
  have HAL := Lib.hid AL; have HTR := Lib.hid TR; have HD0 := Lib.hid D0; have HGK := Lib.hid gk
  have d0 : decide ((n : Int) < 1) = false := by simp; omega
  have d1 : decide ((9 : Int) < (n : Int)) = false := by simp; omega
  have PE : ∀ W : World, Calls Try.prog 12 #[.agg #[.int .i64 2, .string ⟨#[46, 46]⟩]] W fun e w' => ∃ G cap, e = .returned (.tuple #[.slice (some ⟨G, 0, none⟩) 32 cap, .bool true]) ∧ w'.ownsRow W.heap.size 5 1 (.slice (some ⟨G, 0, none⟩) 32 cap) 32 (bytesL (entF (badE 3).1 (badE 3).2) 32) ∧ Below W.heap.size W w' := fun W => rpent_c 2 ⟨#[46, 46]⟩ (by decide) (by decide) (by decide +kernel) W
  obtain ⟨EF, hEF⟩ : ∃ F, F = entF (badE 3).1 (badE 3).2 := ⟨_, rfl⟩
  rw [← hEF] at PE
  have hH : putF (trF 20 n) 3712 32 EF = namH n 3 := by rw [hEF]; unfold namH; rw [if_pos (by decide)]
  have HPE := Lib.hid PE; have HH := Lib.hid hH
  clear PE hEF hH
  clear AL TR D0 gk
  go_enter Try.func6, Try.ntmps6
  go_wp2_with (first
    | (go_at_call 7; refine (HAL.out _).mono ?_; rintro e w1 ⟨rfl, hb1⟩; have HB1 := Lib.hid hb1; have hz1 := hb1.size; have k1 := HGK.out w1; have c0 := k1.cell 0; have c1 := k1.cell 1; have c2 := k1.cell 2; simp only [List.getElem?_cons_zero, List.getElem?_cons_succ] at c0 c1 c2; have HK1 := Lib.hid k1; clear hb1 k1)
    | (go_at_call 8; refine (HTR.out _).mono ?_; rintro e w2 ⟨G, cap, rfl, ho2, hb2⟩; obtain ⟨l1, l2, l3, l4⟩ := own_len ho2; unfold maxLen at l4; have hz2 := hb2.size; have hk2 := HK1.out.below hb2 (by simp); have g0 := hk2.cell 0; have g1 := hk2.cell 1; have g2 := hk2.cell 2; simp only [List.getElem?_cons_zero, List.getElem?_cons_succ] at g0 g1 g2; have HK2 := Lib.hid hk2; have HO2 := Lib.hid ho2; have HB2 := Lib.hid hb2; clear ho2 hb2 hk2)
    | (go_at_call 11; refine (HD0.out _).mono ?_; rintro e w3 ⟨rfl, hb3⟩; have hz3 := hb3.size; have HB3 := Lib.hid hb3; clear hb3; clear g0 g1 g2)
    | (go_at_call 12; refine (HPE.out _).mono ?_; rintro e w6 ⟨g6, cap6, rfl, ho6, hb6⟩; have hz6 := hb6.size; have hB26 := (HB3.out.alloc hz3 _).trans (hb6.mono (by simp; omega)); have hO6 := own_below HO2.out hB26; have hr6 := own_rdB ho6; have HO6 := Lib.hid hO6; have HR6 := Lib.hid hr6; have HB26 := Lib.hid hB26; clear ho6 hb6 hO6 hr6 hB26)
    | (refine copy_own rfl _ _ 22 22 rfl 5 Try.underlying22 (by kernel_rfl) G 3712 19840 (cap - 3712) g6 0 32 cap6 (by rfl) (by rfl) _ 5 23552 cap (trF 20 n) EF HO6.out (by omega) 32 (by decide) HR6.out (by omega) ?_; intro w7 ho7 hm7; rw [HH.out] at ho7; have hz7 := hm7.size; have HO7 := Lib.hid ho7; have HM7 := Lib.hid hm7; clear ho7 hm7)
    | (go_at_call 9; refine (HRP.out _ _ _ _ HO7.out).mono ?_; rintro e w8 ⟨G4, cap4, v4, rfl, ho4, hv4, hb4⟩; obtain ⟨A5, cap5, rfl, _, hc5⟩ := own_one hv4; have hz4 := hb4.size; have HO4 := Lib.hid ho4; have HB4 := Lib.hid hb4; have HC5 := Lib.hid hc5; clear ho4 hv4 hb4 hc5))
  have lw1 : w1.heap.size < w2.heap.size := by simp at hz2; omega
  have lG1 : w1.heap.size < G := by simp at l1; omega
  have hBw2 : Below w.heap.size w w2 := ((HB1.out.alloc hz1 _).trans (HB2.out.mono (by simp; omega)))
  have hB27 := Below.mods (hBw2.trans (HB26.out.mono hBw2.size)) HM7.out (fun i hi e => by omega) (hBw2.trans (HB26.out.mono hBw2.size)).size
  have hk7 := (HK2.out.below HB26.out HK2.out.lt).mods HM7.out (fun e => by omega)
  have hk4 := hk7.below HB4.out hk7.lt
  have hr4 := own_rdB HO4.out
  have hc4 : w8.cell? ⟨A5, 0, none⟩ = some (.int .i64 3) := HC5.out
  have lk4 := hk4.lt
  have hBw4 := hB27.trans (HB4.out.mono hB27.size)
  have g0 := hk4.cell 0; have g1 := hk4.cell 1; have g2 := hk4.cell 2
  simp only [List.getElem?_cons_zero, List.getElem?_cons_succ] at g0 g1 g2
  have HBW4 := Lib.hid hBw4
  clear hBw4 hB27 hBw2 hk7
  refine wp_region_held_drew (S := (fun w' => w'.cell? ⟨w1.heap.size, 0, none⟩ = some (.int .i64 1) ∧ w'.cell? ⟨w1.heap.size, 1, none⟩ = some (.int .i64 1) ∧ w'.cell? ⟨w1.heap.size, 2, none⟩ = some (.int .i64 20) ∧ RdB w' G4 0 23552 (trF 20 n) ∧ w'.cell? ⟨A5, 0, none⟩ = some (.int .i64 3))) (by kernel_rfl) ⟨g0, g1, g2, hr4.below (Below.refl _ _).drew, hc4⟩ (fun hHeld => ?_)
  refine wpAnyH_take (i := 0) (oi := ⟨_, _, _, _, _, _⟩) (v := ?_) rfl (by kernel_rfl) (by kernel_rfl) (by kernel_rfl) (fun _ _ _ h => h) (Or.inl ⟨by kernel_rfl, ?_⟩) (by assumption) ?_
  rotate_left
  · (intro w hSw; (try dsimp only at hSw); go_simp; first | done | with_reducible rfl)
  simp only [Act.put, List.setIfInBounds_toArray, List.set_cons_zero, List.set_cons_succ]
  refine wpAnyH_take (i := 1) (oi := ⟨_, _, _, _, _, _⟩) (v := ?_) rfl (by kernel_rfl) (by kernel_rfl) (by kernel_rfl) (fun _ _ _ h => h) (Or.inl ⟨by kernel_rfl, ?_⟩) (by assumption) ?_
  rotate_left
  · (intro w hSw; (try dsimp only at hSw); go_simp; first | done | with_reducible rfl)
  simp only [Act.put, List.setIfInBounds_toArray, List.set_cons_zero, List.set_cons_succ]
  refine wpAnyH_take (i := 2) (oi := ⟨_, _, _, _, _, _⟩) (v := ?_) rfl (by kernel_rfl) (by kernel_rfl) (by kernel_rfl) (fun _ _ _ h => h) (Or.inl ⟨by kernel_rfl, ?_⟩) (by assumption) ?_
  rotate_left
  · (intro w hSw; (try dsimp only at hSw); go_simp; first | done | with_reducible rfl)
  simp only [Act.put, List.setIfInBounds_toArray, List.set_cons_zero, List.set_cons_succ]
  refine wpAnyH_take (i := 3) (oi := ⟨_, _, _, _, _, _⟩) (v := ?_) rfl (by kernel_rfl) (by kernel_rfl) (by kernel_rfl) (fun _ _ _ h => h) (Or.inl ⟨by kernel_rfl, ?_⟩) (by assumption) ?_
  rotate_left
  · (intro w hSw; (try dsimp only at hSw); go_simp; first | done | with_reducible rfl)
  simp only [Act.put, List.setIfInBounds_toArray, List.set_cons_zero, List.set_cons_succ]
  refine wpAnyH_take (i := 4) (oi := ⟨_, _, _, _, _, _⟩) (v := ?_) rfl (by kernel_rfl) (by kernel_rfl) (by kernel_rfl) (fun _ _ _ h => h) (Or.inl ⟨by kernel_rfl, ?_⟩) (by assumption) ?_
  rotate_left
  · (intro w hSw; (try dsimp only at hSw); go_simp; first | done | with_reducible rfl)
  simp only [Act.put, List.setIfInBounds_toArray, List.set_cons_zero, List.set_cons_succ]
  refine wpAnyH_take (i := 5) (oi := ⟨_, _, _, _, _, _⟩) (v := ?_) rfl (by kernel_rfl) (by kernel_rfl) (by kernel_rfl) (fun _ _ _ h => h) (Or.inl ⟨by kernel_rfl, ?_⟩) (by assumption) ?_
  rotate_left
  · (intro w hSw; (try dsimp only at hSw); go_simp; first | done | with_reducible rfl)
  simp only [Act.put, List.setIfInBounds_toArray, List.set_cons_zero, List.set_cons_succ]
  refine wpAnyH_take (i := 6) (oi := ⟨_, _, _, _, _, _⟩) (v := ?_) rfl (by kernel_rfl) (by kernel_rfl) (by kernel_rfl) (fun _ _ _ h => h) (Or.inl ⟨by kernel_rfl, ?_⟩) (by assumption) ?_
  rotate_left
  · (intro w hSw; (try dsimp only at hSw); go_simp; first | done | with_reducible rfl)
  simp only [Act.put, List.setIfInBounds_toArray, List.set_cons_zero, List.set_cons_succ]
  refine wpAnyH_take (i := 7) (oi := ⟨_, _, _, _, _, _⟩) (v := ?_) rfl (by kernel_rfl) (by kernel_rfl) (by kernel_rfl) (fun _ _ _ h => h) (Or.inl ⟨by kernel_rfl, ?_⟩) (by assumption) ?_
  rotate_left
  · (intro w hSw; (try dsimp only at hSw); go_simp; first | done | with_reducible rfl)
  simp only [Act.put, List.setIfInBounds_toArray, List.set_cons_zero, List.set_cons_succ]
  refine wpAnyH_take (i := 8) (oi := ⟨_, _, _, _, _, _⟩) (v := ?_) rfl (by kernel_rfl) (by kernel_rfl) (by kernel_rfl) (fun _ _ _ h => h) (Or.inl ⟨by kernel_rfl, ?_⟩) (by assumption) ?_
  rotate_left
  · (intro w hSw; (try dsimp only at hSw); go_simp; first | done | with_reducible rfl)
  simp only [Act.put, List.setIfInBounds_toArray, List.set_cons_zero, List.set_cons_succ]
  refine wpAnyH_take (i := 9) (oi := ⟨_, _, _, _, _, _⟩) (v := ?_) rfl (by kernel_rfl) (by kernel_rfl) (by kernel_rfl) (fun _ _ _ h => h) (Or.inl ⟨by kernel_rfl, ?_⟩) (by assumption) ?_
  rotate_left
  · (intro w hSw; (try dsimp only at hSw); go_simp; first | done | with_reducible rfl)
  simp only [Act.put, List.setIfInBounds_toArray, List.set_cons_zero, List.set_cons_succ]
  refine wpAnyH_take (i := 10) (oi := ⟨_, _, _, _, _, _⟩) (v := ?_) rfl (by kernel_rfl) (by kernel_rfl) (by kernel_rfl) (fun _ _ _ h => h) (Or.inl ⟨by kernel_rfl, ?_⟩) (by assumption) ?_
  rotate_left
  · (intro w hSw; (try dsimp only at hSw); go_simp; first | done | with_reducible rfl)
  simp only [Act.put, List.setIfInBounds_toArray, List.set_cons_zero, List.set_cons_succ]
  refine wpAnyH_take (i := 11) (oi := ⟨_, _, _, _, _, _⟩) (v := ?_) rfl (by kernel_rfl) (by kernel_rfl) (by kernel_rfl) (fun _ _ _ h => h) (Or.inl ⟨by kernel_rfl, ?_⟩) (by assumption) ?_
  rotate_left
  · (intro w hSw; (try dsimp only at hSw); go_simp; first | done | with_reducible rfl)
  simp only [Act.put, List.setIfInBounds_toArray, List.set_cons_zero, List.set_cons_succ]
  refine wpAnyH_take (i := 12) (oi := ⟨_, _, _, _, _, _⟩) (v := ?_) rfl (by kernel_rfl) (by kernel_rfl) (by kernel_rfl) (fun _ _ _ h => h) (Or.inl ⟨by kernel_rfl, ?_⟩) (by assumption) ?_
  rotate_left
  · (intro w hSw; (try dsimp only at hSw); go_simp; first | done | with_reducible rfl)
  simp only [Act.put, List.setIfInBounds_toArray, List.set_cons_zero, List.set_cons_succ]
  refine wpAnyH_take (i := 13) (oi := ⟨_, _, _, _, _, _⟩) (v := ?_) rfl (by kernel_rfl) (by kernel_rfl) (by kernel_rfl) (fun _ _ _ h => h) (Or.inl ⟨by kernel_rfl, ?_⟩) (by assumption) ?_
  rotate_left
  · (intro w hSw; (try dsimp only at hSw); go_simp; first | done | with_reducible rfl)
  simp only [Act.put, List.setIfInBounds_toArray, List.set_cons_zero, List.set_cons_succ]
  refine wpAnyH_take (i := 14) (oi := ⟨_, _, _, _, _, _⟩) (v := ?_) rfl (by kernel_rfl) (by kernel_rfl) (by kernel_rfl) (fun _ _ _ h => h) (Or.inl ⟨by kernel_rfl, ?_⟩) (by assumption) ?_
  rotate_left
  · (intro w hSw; (try dsimp only at hSw); go_simp; first | done | with_reducible rfl)
  simp only [Act.put, List.setIfInBounds_toArray, List.set_cons_zero, List.set_cons_succ]
  refine wpAnyH_take (i := 15) (oi := ⟨_, _, _, _, _, _⟩) (v := ?_) rfl (by kernel_rfl) (by kernel_rfl) (by kernel_rfl) (fun _ _ _ h => h) (Or.inl ⟨by kernel_rfl, ?_⟩) (by assumption) ?_
  rotate_left
  · (intro w hSw; (try dsimp only at hSw); have cv := HCV.out G4 cap4 _ hSw.2.2.2.1; go_simp; first | done | with_reducible rfl)
  simp only [Act.put, List.setIfInBounds_toArray, List.set_cons_zero, List.set_cons_succ]
  refine wpAnyH_take (i := 16) (oi := ⟨_, _, _, _, _, _⟩) (v := ?_) rfl (by kernel_rfl) (by kernel_rfl) (by kernel_rfl) (fun _ _ _ h => h) (Or.inl ⟨by kernel_rfl, ?_⟩) (by assumption) ?_
  rotate_left
  · (intro w hSw; (try dsimp only at hSw); go_simp; first | done | with_reducible rfl)
  simp only [Act.put, List.setIfInBounds_toArray, List.set_cons_zero, List.set_cons_succ]
  refine wpAnyH_take (i := 17) (oi := ⟨_, _, _, _, _, _⟩) (v := ?_) rfl (by kernel_rfl) (by kernel_rfl) (by kernel_rfl) (fun _ _ _ h => h) (Or.inl ⟨by kernel_rfl, ?_⟩) (by assumption) ?_
  rotate_left
  · (intro w hSw; (try dsimp only at hSw); go_simp; first | done | with_reducible rfl)
  simp only [Act.put, List.setIfInBounds_toArray, List.set_cons_zero, List.set_cons_succ]
  refine wpAnyH_ready (rs := [18]) (by kernel_rfl) (by simp) ?_
  refine AllReadyH.cons rfl (fun K hK => ?_) AllReadyH.nil
  go_simp
  go_at_call 8
  refine (HTR.out _).mono ?_
  rintro e w9 ⟨G5, cap9, rfl, ho5, hb5⟩
  have hb5' : Below w8.heap.size w8 w9 := (Below.refl w8.heap.size w8).drew.trans hb5
  have hk5 := hk4.below hb5' lk4
  have hr5 := hr4.below hb5'
  have hc6 : w9.cell? ⟨A5, 0, none⟩ = some (.int .i64 3) := by rw [hb5'.cell (p := ⟨A5, 0, none⟩) (lt_of_cell hc4)]; exact hc4
  have hs5 := own_rdB ho5
  go_simp
  refine hK.out _ _ ?_ (fun hHeld => ?_)
  · exact ⟨hk5.cell 0, hk5.cell 1, hk5.cell 2, hr5, hc6⟩
  clear hK K
  refine anyH_mono (fun w' => (w'.cell? ⟨w1.heap.size, 0, none⟩ = some (.int .i64 1) ∧ w'.cell? ⟨w1.heap.size, 1, none⟩ = some (.int .i64 1) ∧ w'.cell? ⟨w1.heap.size, 2, none⟩ = some (.int .i64 20) ∧ RdB w' G4 0 23552 (trF 20 n) ∧ w'.cell? ⟨A5, 0, none⟩ = some (.int .i64 3)) ∧ RdB w' G5 0 23552 (trF 20 n)) (fun w h => h.1) _ _ _ _ ?_
  replace hHeld : (fun w' => (w'.cell? ⟨w1.heap.size, 0, none⟩ = some (.int .i64 1) ∧ w'.cell? ⟨w1.heap.size, 1, none⟩ = some (.int .i64 1) ∧ w'.cell? ⟨w1.heap.size, 2, none⟩ = some (.int .i64 20) ∧ RdB w' G4 0 23552 (trF 20 n) ∧ w'.cell? ⟨A5, 0, none⟩ = some (.int .i64 3)) ∧ RdB w' G5 0 23552 (trF 20 n)) _ := ⟨hHeld, hs5⟩
  refine wpAnyH_take (i := 19) (oi := ⟨_, _, _, _, _, _⟩) (v := ?_) rfl (by kernel_rfl) (by kernel_rfl) (by kernel_rfl) (fun _ _ _ h => h) (Or.inl ⟨by kernel_rfl, ?_⟩) (by assumption) ?_
  rotate_left
  · (intro w hSw; (try dsimp only at hSw); have cv := HCV.out G5 cap9 _ hSw.2; go_simp; first | done | with_reducible rfl)
  simp only [Act.put, List.setIfInBounds_toArray, List.set_cons_zero, List.set_cons_succ]
  refine wpAnyH_take (i := 20) (oi := ⟨_, _, _, _, _, _⟩) (v := ?_) rfl (by kernel_rfl) (by kernel_rfl) (by kernel_rfl) (fun _ _ _ h => h) (Or.inl ⟨by kernel_rfl, ?_⟩) (by assumption) ?_
  rotate_left
  · (intro w hSw; (try dsimp only at hSw); go_simp; first | done | with_reducible rfl)
  simp only [Act.put, List.setIfInBounds_toArray, List.set_cons_zero, List.set_cons_succ]
  refine wpAnyH_take (i := 21) (oi := ⟨_, _, _, _, _, _⟩) (v := ?_) rfl (by kernel_rfl) (by kernel_rfl) (by kernel_rfl) (fun _ _ _ h => h) (Or.inl ⟨by kernel_rfl, ?_⟩) (by assumption) ?_
  rotate_left
  · (intro w hSw; (try dsimp only at hSw); go_simp; first | done | with_reducible rfl)
  simp only [Act.put, List.setIfInBounds_toArray, List.set_cons_zero, List.set_cons_succ]
  refine wpAnyH_take (i := 22) (oi := ⟨_, _, _, _, _, _⟩) (v := ?_) rfl (by kernel_rfl) (by kernel_rfl) (by kernel_rfl) (fun _ _ _ h => h) (Or.inl ⟨by kernel_rfl, ?_⟩) (by assumption) ?_
  rotate_left
  · (intro w hSw; (try dsimp only at hSw); go_simp; first | done | with_reducible rfl)
  simp only [Act.put, List.setIfInBounds_toArray, List.set_cons_zero, List.set_cons_succ]
  refine wpAnyH_done (by kernel_rfl) ?_ _
  have hBT := HBW4.out.trans (hb5'.mono HBW4.out.size)
  have HBT := Lib.hid hBT
  clear hHeld hk5 hr5 hs5 ho5 hb5 hb5' hr4 hk4 hBT hc6 hc4
  go_wp2
  go_ret
  exact ⟨rfl, HBT.out⟩

set_option maxRecDepth 100000 in
set_option maxHeartbeats 8000000 in
theorem names_4 (n : Nat) (w : World) (hn : n ≤ 9) (h1 : 1 ≤ n) : Calls Try.prog 6 #[.int .i64 n, .int .i64 4] w fun e w' => e = .returned (.bool true) ∧ Below w.heap.size w w' := by
  have RP := fun W base G cap ho => lrep_c (m := 20) (n := n) (N := 23552) (h := namH n 4) hn (by omega) (by decide) (by decide) (by decide) (fun k hk => head_20 ⟨n, by omega⟩ ⟨k, hk⟩) (like_names hn h1) (fun q h1 h2 => namH_far n 4 q (by omega)) W base G cap ho
  rw [unlike_names hn] at RP
  have CV := fun G cap W hr => conv_tree G cap n hn W hr
  obtain ⟨ST, hST⟩ : ∃ s, s = strOf (trF 20 n) 23552 := ⟨_, rfl⟩
  simp only [← hST] at CV
  have HRP := Lib.hid RP; have HCV := Lib.hid CV
  clear RP CV hST
  have AL := alive_c
  have TR := tree_c n hn
  have D0 : ∀ W : World, Calls Try.prog 11 #[.agg #[.int .i64 1, .int .i64 1, .int .i64 20], .int .i64 0] W fun e w' => e = .returned (.tuple #[.int .i64 3, .bool true]) ∧ Below W.heap.size W w' := fun W => by
    have h := rdata_c (geo1 20) (geo1_ok (m := 20) (by decide) (by decide)) 0 (by decide) W
    exact h
  have gk : ∀ W : World, Blk 25 (W.alloc (.cells #[.int .i64 1, .int .i64 1, .int .i64 20] 25)) W.heap.size [.int .i64 1, .int .i64 1, .int .i64 20] := fun W => Blk.newL _
  have HAL := Lib.hid AL; have HTR := Lib.hid TR; have HD0 := Lib.hid D0; have HGK := Lib.hid gk
  have d0 : decide ((n : Int) < 1) = false := by simp; omega
  have d1 : decide ((9 : Int) < (n : Int)) = false := by simp; omega
  have PE : ∀ W : World, Calls Try.prog 12 #[.agg #[.int .i64 2, .string ⟨#[102, 48]⟩]] W fun e w' => ∃ G cap, e = .returned (.tuple #[.slice (some ⟨G, 0, none⟩) 32 cap, .bool true]) ∧ w'.ownsRow W.heap.size 5 1 (.slice (some ⟨G, 0, none⟩) 32 cap) 32 (bytesL (entF (badE 4).1 (badE 4).2) 32) ∧ Below W.heap.size W w' := fun W => rpent_c 2 ⟨#[102, 48]⟩ (by decide) (by decide) (by decide +kernel) W
  obtain ⟨EF, hEF⟩ : ∃ F, F = entF (badE 4).1 (badE 4).2 := ⟨_, rfl⟩
  rw [← hEF] at PE
  have hH : putF (trF 20 n) 3712 32 EF = namH n 4 := by rw [hEF]; unfold namH; rw [if_pos (by decide)]
  have HPE := Lib.hid PE; have HH := Lib.hid hH
  clear PE hEF hH
  clear AL TR D0 gk
  go_enter Try.func6, Try.ntmps6
  go_wp2_with (first
    | (go_at_call 7; refine (HAL.out _).mono ?_; rintro e w1 ⟨rfl, hb1⟩; have HB1 := Lib.hid hb1; have hz1 := hb1.size; have k1 := HGK.out w1; have c0 := k1.cell 0; have c1 := k1.cell 1; have c2 := k1.cell 2; simp only [List.getElem?_cons_zero, List.getElem?_cons_succ] at c0 c1 c2; have HK1 := Lib.hid k1; clear hb1 k1)
    | (go_at_call 8; refine (HTR.out _).mono ?_; rintro e w2 ⟨G, cap, rfl, ho2, hb2⟩; obtain ⟨l1, l2, l3, l4⟩ := own_len ho2; unfold maxLen at l4; have hz2 := hb2.size; have hk2 := HK1.out.below hb2 (by simp); have g0 := hk2.cell 0; have g1 := hk2.cell 1; have g2 := hk2.cell 2; simp only [List.getElem?_cons_zero, List.getElem?_cons_succ] at g0 g1 g2; have HK2 := Lib.hid hk2; have HO2 := Lib.hid ho2; have HB2 := Lib.hid hb2; clear ho2 hb2 hk2)
    | (go_at_call 11; refine (HD0.out _).mono ?_; rintro e w3 ⟨rfl, hb3⟩; have hz3 := hb3.size; have HB3 := Lib.hid hb3; clear hb3; clear g0 g1 g2)
    | (go_at_call 12; refine (HPE.out _).mono ?_; rintro e w6 ⟨g6, cap6, rfl, ho6, hb6⟩; have hz6 := hb6.size; have hB26 := (HB3.out.alloc hz3 _).trans (hb6.mono (by simp; omega)); have hO6 := own_below HO2.out hB26; have hr6 := own_rdB ho6; have HO6 := Lib.hid hO6; have HR6 := Lib.hid hr6; have HB26 := Lib.hid hB26; clear ho6 hb6 hO6 hr6 hB26)
    | (refine copy_own rfl _ _ 22 22 rfl 5 Try.underlying22 (by kernel_rfl) G 3712 19840 (cap - 3712) g6 0 32 cap6 (by rfl) (by rfl) _ 5 23552 cap (trF 20 n) EF HO6.out (by omega) 32 (by decide) HR6.out (by omega) ?_; intro w7 ho7 hm7; rw [HH.out] at ho7; have hz7 := hm7.size; have HO7 := Lib.hid ho7; have HM7 := Lib.hid hm7; clear ho7 hm7)
    | (go_at_call 9; refine (HRP.out _ _ _ _ HO7.out).mono ?_; rintro e w8 ⟨G4, cap4, v4, rfl, ho4, hv4, hb4⟩; obtain ⟨A5, cap5, rfl, _, hc5⟩ := own_one hv4; have hz4 := hb4.size; have HO4 := Lib.hid ho4; have HB4 := Lib.hid hb4; have HC5 := Lib.hid hc5; clear ho4 hv4 hb4 hc5))
  have lw1 : w1.heap.size < w2.heap.size := by simp at hz2; omega
  have lG1 : w1.heap.size < G := by simp at l1; omega
  have hBw2 : Below w.heap.size w w2 := ((HB1.out.alloc hz1 _).trans (HB2.out.mono (by simp; omega)))
  have hB27 := Below.mods (hBw2.trans (HB26.out.mono hBw2.size)) HM7.out (fun i hi e => by omega) (hBw2.trans (HB26.out.mono hBw2.size)).size
  have hk7 := (HK2.out.below HB26.out HK2.out.lt).mods HM7.out (fun e => by omega)
  have hk4 := hk7.below HB4.out hk7.lt
  have hr4 := own_rdB HO4.out
  have hc4 : w8.cell? ⟨A5, 0, none⟩ = some (.int .i64 3) := HC5.out
  have lk4 := hk4.lt
  have hBw4 := hB27.trans (HB4.out.mono hB27.size)
  have g0 := hk4.cell 0; have g1 := hk4.cell 1; have g2 := hk4.cell 2
  simp only [List.getElem?_cons_zero, List.getElem?_cons_succ] at g0 g1 g2
  have HBW4 := Lib.hid hBw4
  clear hBw4 hB27 hBw2 hk7
  refine wp_region_held_drew (S := (fun w' => w'.cell? ⟨w1.heap.size, 0, none⟩ = some (.int .i64 1) ∧ w'.cell? ⟨w1.heap.size, 1, none⟩ = some (.int .i64 1) ∧ w'.cell? ⟨w1.heap.size, 2, none⟩ = some (.int .i64 20) ∧ RdB w' G4 0 23552 (trF 20 n) ∧ w'.cell? ⟨A5, 0, none⟩ = some (.int .i64 3))) (by kernel_rfl) ⟨g0, g1, g2, hr4.below (Below.refl _ _).drew, hc4⟩ (fun hHeld => ?_)
  refine wpAnyH_take (i := 0) (oi := ⟨_, _, _, _, _, _⟩) (v := ?_) rfl (by kernel_rfl) (by kernel_rfl) (by kernel_rfl) (fun _ _ _ h => h) (Or.inl ⟨by kernel_rfl, ?_⟩) (by assumption) ?_
  rotate_left
  · (intro w hSw; (try dsimp only at hSw); go_simp; first | done | with_reducible rfl)
  simp only [Act.put, List.setIfInBounds_toArray, List.set_cons_zero, List.set_cons_succ]
  refine wpAnyH_take (i := 1) (oi := ⟨_, _, _, _, _, _⟩) (v := ?_) rfl (by kernel_rfl) (by kernel_rfl) (by kernel_rfl) (fun _ _ _ h => h) (Or.inl ⟨by kernel_rfl, ?_⟩) (by assumption) ?_
  rotate_left
  · (intro w hSw; (try dsimp only at hSw); go_simp; first | done | with_reducible rfl)
  simp only [Act.put, List.setIfInBounds_toArray, List.set_cons_zero, List.set_cons_succ]
  refine wpAnyH_take (i := 2) (oi := ⟨_, _, _, _, _, _⟩) (v := ?_) rfl (by kernel_rfl) (by kernel_rfl) (by kernel_rfl) (fun _ _ _ h => h) (Or.inl ⟨by kernel_rfl, ?_⟩) (by assumption) ?_
  rotate_left
  · (intro w hSw; (try dsimp only at hSw); go_simp; first | done | with_reducible rfl)
  simp only [Act.put, List.setIfInBounds_toArray, List.set_cons_zero, List.set_cons_succ]
  refine wpAnyH_take (i := 3) (oi := ⟨_, _, _, _, _, _⟩) (v := ?_) rfl (by kernel_rfl) (by kernel_rfl) (by kernel_rfl) (fun _ _ _ h => h) (Or.inl ⟨by kernel_rfl, ?_⟩) (by assumption) ?_
  rotate_left
  · (intro w hSw; (try dsimp only at hSw); go_simp; first | done | with_reducible rfl)
  simp only [Act.put, List.setIfInBounds_toArray, List.set_cons_zero, List.set_cons_succ]
  refine wpAnyH_take (i := 4) (oi := ⟨_, _, _, _, _, _⟩) (v := ?_) rfl (by kernel_rfl) (by kernel_rfl) (by kernel_rfl) (fun _ _ _ h => h) (Or.inl ⟨by kernel_rfl, ?_⟩) (by assumption) ?_
  rotate_left
  · (intro w hSw; (try dsimp only at hSw); go_simp; first | done | with_reducible rfl)
  simp only [Act.put, List.setIfInBounds_toArray, List.set_cons_zero, List.set_cons_succ]
  refine wpAnyH_take (i := 5) (oi := ⟨_, _, _, _, _, _⟩) (v := ?_) rfl (by kernel_rfl) (by kernel_rfl) (by kernel_rfl) (fun _ _ _ h => h) (Or.inl ⟨by kernel_rfl, ?_⟩) (by assumption) ?_
  rotate_left
  · (intro w hSw; (try dsimp only at hSw); go_simp; first | done | with_reducible rfl)
  simp only [Act.put, List.setIfInBounds_toArray, List.set_cons_zero, List.set_cons_succ]
  refine wpAnyH_take (i := 6) (oi := ⟨_, _, _, _, _, _⟩) (v := ?_) rfl (by kernel_rfl) (by kernel_rfl) (by kernel_rfl) (fun _ _ _ h => h) (Or.inl ⟨by kernel_rfl, ?_⟩) (by assumption) ?_
  rotate_left
  · (intro w hSw; (try dsimp only at hSw); go_simp; first | done | with_reducible rfl)
  simp only [Act.put, List.setIfInBounds_toArray, List.set_cons_zero, List.set_cons_succ]
  refine wpAnyH_take (i := 7) (oi := ⟨_, _, _, _, _, _⟩) (v := ?_) rfl (by kernel_rfl) (by kernel_rfl) (by kernel_rfl) (fun _ _ _ h => h) (Or.inl ⟨by kernel_rfl, ?_⟩) (by assumption) ?_
  rotate_left
  · (intro w hSw; (try dsimp only at hSw); go_simp; first | done | with_reducible rfl)
  simp only [Act.put, List.setIfInBounds_toArray, List.set_cons_zero, List.set_cons_succ]
  refine wpAnyH_take (i := 8) (oi := ⟨_, _, _, _, _, _⟩) (v := ?_) rfl (by kernel_rfl) (by kernel_rfl) (by kernel_rfl) (fun _ _ _ h => h) (Or.inl ⟨by kernel_rfl, ?_⟩) (by assumption) ?_
  rotate_left
  · (intro w hSw; (try dsimp only at hSw); go_simp; first | done | with_reducible rfl)
  simp only [Act.put, List.setIfInBounds_toArray, List.set_cons_zero, List.set_cons_succ]
  refine wpAnyH_take (i := 9) (oi := ⟨_, _, _, _, _, _⟩) (v := ?_) rfl (by kernel_rfl) (by kernel_rfl) (by kernel_rfl) (fun _ _ _ h => h) (Or.inl ⟨by kernel_rfl, ?_⟩) (by assumption) ?_
  rotate_left
  · (intro w hSw; (try dsimp only at hSw); go_simp; first | done | with_reducible rfl)
  simp only [Act.put, List.setIfInBounds_toArray, List.set_cons_zero, List.set_cons_succ]
  refine wpAnyH_take (i := 10) (oi := ⟨_, _, _, _, _, _⟩) (v := ?_) rfl (by kernel_rfl) (by kernel_rfl) (by kernel_rfl) (fun _ _ _ h => h) (Or.inl ⟨by kernel_rfl, ?_⟩) (by assumption) ?_
  rotate_left
  · (intro w hSw; (try dsimp only at hSw); go_simp; first | done | with_reducible rfl)
  simp only [Act.put, List.setIfInBounds_toArray, List.set_cons_zero, List.set_cons_succ]
  refine wpAnyH_take (i := 11) (oi := ⟨_, _, _, _, _, _⟩) (v := ?_) rfl (by kernel_rfl) (by kernel_rfl) (by kernel_rfl) (fun _ _ _ h => h) (Or.inl ⟨by kernel_rfl, ?_⟩) (by assumption) ?_
  rotate_left
  · (intro w hSw; (try dsimp only at hSw); go_simp; first | done | with_reducible rfl)
  simp only [Act.put, List.setIfInBounds_toArray, List.set_cons_zero, List.set_cons_succ]
  refine wpAnyH_take (i := 12) (oi := ⟨_, _, _, _, _, _⟩) (v := ?_) rfl (by kernel_rfl) (by kernel_rfl) (by kernel_rfl) (fun _ _ _ h => h) (Or.inl ⟨by kernel_rfl, ?_⟩) (by assumption) ?_
  rotate_left
  · (intro w hSw; (try dsimp only at hSw); go_simp; first | done | with_reducible rfl)
  simp only [Act.put, List.setIfInBounds_toArray, List.set_cons_zero, List.set_cons_succ]
  refine wpAnyH_take (i := 13) (oi := ⟨_, _, _, _, _, _⟩) (v := ?_) rfl (by kernel_rfl) (by kernel_rfl) (by kernel_rfl) (fun _ _ _ h => h) (Or.inl ⟨by kernel_rfl, ?_⟩) (by assumption) ?_
  rotate_left
  · (intro w hSw; (try dsimp only at hSw); go_simp; first | done | with_reducible rfl)
  simp only [Act.put, List.setIfInBounds_toArray, List.set_cons_zero, List.set_cons_succ]
  refine wpAnyH_take (i := 14) (oi := ⟨_, _, _, _, _, _⟩) (v := ?_) rfl (by kernel_rfl) (by kernel_rfl) (by kernel_rfl) (fun _ _ _ h => h) (Or.inl ⟨by kernel_rfl, ?_⟩) (by assumption) ?_
  rotate_left
  · (intro w hSw; (try dsimp only at hSw); go_simp; first | done | with_reducible rfl)
  simp only [Act.put, List.setIfInBounds_toArray, List.set_cons_zero, List.set_cons_succ]
  refine wpAnyH_take (i := 15) (oi := ⟨_, _, _, _, _, _⟩) (v := ?_) rfl (by kernel_rfl) (by kernel_rfl) (by kernel_rfl) (fun _ _ _ h => h) (Or.inl ⟨by kernel_rfl, ?_⟩) (by assumption) ?_
  rotate_left
  · (intro w hSw; (try dsimp only at hSw); have cv := HCV.out G4 cap4 _ hSw.2.2.2.1; go_simp; first | done | with_reducible rfl)
  simp only [Act.put, List.setIfInBounds_toArray, List.set_cons_zero, List.set_cons_succ]
  refine wpAnyH_take (i := 16) (oi := ⟨_, _, _, _, _, _⟩) (v := ?_) rfl (by kernel_rfl) (by kernel_rfl) (by kernel_rfl) (fun _ _ _ h => h) (Or.inl ⟨by kernel_rfl, ?_⟩) (by assumption) ?_
  rotate_left
  · (intro w hSw; (try dsimp only at hSw); go_simp; first | done | with_reducible rfl)
  simp only [Act.put, List.setIfInBounds_toArray, List.set_cons_zero, List.set_cons_succ]
  refine wpAnyH_take (i := 17) (oi := ⟨_, _, _, _, _, _⟩) (v := ?_) rfl (by kernel_rfl) (by kernel_rfl) (by kernel_rfl) (fun _ _ _ h => h) (Or.inl ⟨by kernel_rfl, ?_⟩) (by assumption) ?_
  rotate_left
  · (intro w hSw; (try dsimp only at hSw); go_simp; first | done | with_reducible rfl)
  simp only [Act.put, List.setIfInBounds_toArray, List.set_cons_zero, List.set_cons_succ]
  refine wpAnyH_ready (rs := [18]) (by kernel_rfl) (by simp) ?_
  refine AllReadyH.cons rfl (fun K hK => ?_) AllReadyH.nil
  go_simp
  go_at_call 8
  refine (HTR.out _).mono ?_
  rintro e w9 ⟨G5, cap9, rfl, ho5, hb5⟩
  have hb5' : Below w8.heap.size w8 w9 := (Below.refl w8.heap.size w8).drew.trans hb5
  have hk5 := hk4.below hb5' lk4
  have hr5 := hr4.below hb5'
  have hc6 : w9.cell? ⟨A5, 0, none⟩ = some (.int .i64 3) := by rw [hb5'.cell (p := ⟨A5, 0, none⟩) (lt_of_cell hc4)]; exact hc4
  have hs5 := own_rdB ho5
  go_simp
  refine hK.out _ _ ?_ (fun hHeld => ?_)
  · exact ⟨hk5.cell 0, hk5.cell 1, hk5.cell 2, hr5, hc6⟩
  clear hK K
  refine anyH_mono (fun w' => (w'.cell? ⟨w1.heap.size, 0, none⟩ = some (.int .i64 1) ∧ w'.cell? ⟨w1.heap.size, 1, none⟩ = some (.int .i64 1) ∧ w'.cell? ⟨w1.heap.size, 2, none⟩ = some (.int .i64 20) ∧ RdB w' G4 0 23552 (trF 20 n) ∧ w'.cell? ⟨A5, 0, none⟩ = some (.int .i64 3)) ∧ RdB w' G5 0 23552 (trF 20 n)) (fun w h => h.1) _ _ _ _ ?_
  replace hHeld : (fun w' => (w'.cell? ⟨w1.heap.size, 0, none⟩ = some (.int .i64 1) ∧ w'.cell? ⟨w1.heap.size, 1, none⟩ = some (.int .i64 1) ∧ w'.cell? ⟨w1.heap.size, 2, none⟩ = some (.int .i64 20) ∧ RdB w' G4 0 23552 (trF 20 n) ∧ w'.cell? ⟨A5, 0, none⟩ = some (.int .i64 3)) ∧ RdB w' G5 0 23552 (trF 20 n)) _ := ⟨hHeld, hs5⟩
  refine wpAnyH_take (i := 19) (oi := ⟨_, _, _, _, _, _⟩) (v := ?_) rfl (by kernel_rfl) (by kernel_rfl) (by kernel_rfl) (fun _ _ _ h => h) (Or.inl ⟨by kernel_rfl, ?_⟩) (by assumption) ?_
  rotate_left
  · (intro w hSw; (try dsimp only at hSw); have cv := HCV.out G5 cap9 _ hSw.2; go_simp; first | done | with_reducible rfl)
  simp only [Act.put, List.setIfInBounds_toArray, List.set_cons_zero, List.set_cons_succ]
  refine wpAnyH_take (i := 20) (oi := ⟨_, _, _, _, _, _⟩) (v := ?_) rfl (by kernel_rfl) (by kernel_rfl) (by kernel_rfl) (fun _ _ _ h => h) (Or.inl ⟨by kernel_rfl, ?_⟩) (by assumption) ?_
  rotate_left
  · (intro w hSw; (try dsimp only at hSw); go_simp; first | done | with_reducible rfl)
  simp only [Act.put, List.setIfInBounds_toArray, List.set_cons_zero, List.set_cons_succ]
  refine wpAnyH_take (i := 21) (oi := ⟨_, _, _, _, _, _⟩) (v := ?_) rfl (by kernel_rfl) (by kernel_rfl) (by kernel_rfl) (fun _ _ _ h => h) (Or.inl ⟨by kernel_rfl, ?_⟩) (by assumption) ?_
  rotate_left
  · (intro w hSw; (try dsimp only at hSw); go_simp; first | done | with_reducible rfl)
  simp only [Act.put, List.setIfInBounds_toArray, List.set_cons_zero, List.set_cons_succ]
  refine wpAnyH_take (i := 22) (oi := ⟨_, _, _, _, _, _⟩) (v := ?_) rfl (by kernel_rfl) (by kernel_rfl) (by kernel_rfl) (fun _ _ _ h => h) (Or.inl ⟨by kernel_rfl, ?_⟩) (by assumption) ?_
  rotate_left
  · (intro w hSw; (try dsimp only at hSw); go_simp; first | done | with_reducible rfl)
  simp only [Act.put, List.setIfInBounds_toArray, List.set_cons_zero, List.set_cons_succ]
  refine wpAnyH_done (by kernel_rfl) ?_ _
  have hBT := HBW4.out.trans (hb5'.mono HBW4.out.size)
  have HBT := Lib.hid hBT
  clear hHeld hk5 hr5 hs5 ho5 hb5 hb5' hr4 hk4 hBT hc6 hc4
  go_wp2
  go_ret
  exact ⟨rfl, HBT.out⟩

set_option maxRecDepth 100000 in
set_option maxHeartbeats 8000000 in
theorem names_5 (n : Nat) (w : World) (hn : n ≤ 9) (h1 : 1 ≤ n) : Calls Try.prog 6 #[.int .i64 n, .int .i64 5] w fun e w' => e = .returned (.bool true) ∧ Below w.heap.size w w' := by
  have RP := fun W base G cap ho => lrep_c (m := 20) (n := n) (N := 23552) (h := namH n 5) hn (by omega) (by decide) (by decide) (by decide) (fun k hk => head_20 ⟨n, by omega⟩ ⟨k, hk⟩) (like_names hn h1) (fun q h1 h2 => namH_far n 5 q (by omega)) W base G cap ho
  rw [unlike_names hn] at RP
  have CV := fun G cap W hr => conv_tree G cap n hn W hr
  obtain ⟨ST, hST⟩ : ∃ s, s = strOf (trF 20 n) 23552 := ⟨_, rfl⟩
  simp only [← hST] at CV
  have HRP := Lib.hid RP; have HCV := Lib.hid CV
  clear RP CV hST
  have AL := alive_c
  have TR := tree_c n hn
  have D0 : ∀ W : World, Calls Try.prog 11 #[.agg #[.int .i64 1, .int .i64 1, .int .i64 20], .int .i64 0] W fun e w' => e = .returned (.tuple #[.int .i64 3, .bool true]) ∧ Below W.heap.size W w' := fun W => by
    have h := rdata_c (geo1 20) (geo1_ok (m := 20) (by decide) (by decide)) 0 (by decide) W
    exact h
  have gk : ∀ W : World, Blk 25 (W.alloc (.cells #[.int .i64 1, .int .i64 1, .int .i64 20] 25)) W.heap.size [.int .i64 1, .int .i64 1, .int .i64 20] := fun W => Blk.newL _
  have HAL := Lib.hid AL; have HTR := Lib.hid TR; have HD0 := Lib.hid D0; have HGK := Lib.hid gk
  have d0 : decide ((n : Int) < 1) = false := by simp; omega
  have d1 : decide ((9 : Int) < (n : Int)) = false := by simp; omega
  have PE : ∀ W : World, Calls Try.prog 12 #[.agg #[.int .i64 1, .string ⟨#[122]⟩]] W fun e w' => ∃ G cap, e = .returned (.tuple #[.slice (some ⟨G, 0, none⟩) 32 cap, .bool true]) ∧ w'.ownsRow W.heap.size 5 1 (.slice (some ⟨G, 0, none⟩) 32 cap) 32 (bytesL (entF (badE 5).1 (badE 5).2) 32) ∧ Below W.heap.size W w' := fun W => rpent_c 1 ⟨#[122]⟩ (by decide) (by decide) (by decide +kernel) W
  obtain ⟨EF, hEF⟩ : ∃ F, F = entF (badE 5).1 (badE 5).2 := ⟨_, rfl⟩
  rw [← hEF] at PE
  have hH : putF (trF 20 n) 3712 32 EF = namH n 5 := by rw [hEF]; unfold namH; rw [if_pos (by decide)]
  have HPE := Lib.hid PE; have HH := Lib.hid hH
  clear PE hEF hH
  clear AL TR D0 gk
  go_enter Try.func6, Try.ntmps6
  go_wp2_with (first
    | (go_at_call 7; refine (HAL.out _).mono ?_; rintro e w1 ⟨rfl, hb1⟩; have HB1 := Lib.hid hb1; have hz1 := hb1.size; have k1 := HGK.out w1; have c0 := k1.cell 0; have c1 := k1.cell 1; have c2 := k1.cell 2; simp only [List.getElem?_cons_zero, List.getElem?_cons_succ] at c0 c1 c2; have HK1 := Lib.hid k1; clear hb1 k1)
    | (go_at_call 8; refine (HTR.out _).mono ?_; rintro e w2 ⟨G, cap, rfl, ho2, hb2⟩; obtain ⟨l1, l2, l3, l4⟩ := own_len ho2; unfold maxLen at l4; have hz2 := hb2.size; have hk2 := HK1.out.below hb2 (by simp); have g0 := hk2.cell 0; have g1 := hk2.cell 1; have g2 := hk2.cell 2; simp only [List.getElem?_cons_zero, List.getElem?_cons_succ] at g0 g1 g2; have HK2 := Lib.hid hk2; have HO2 := Lib.hid ho2; have HB2 := Lib.hid hb2; clear ho2 hb2 hk2)
    | (go_at_call 11; refine (HD0.out _).mono ?_; rintro e w3 ⟨rfl, hb3⟩; have hz3 := hb3.size; have HB3 := Lib.hid hb3; clear hb3; clear g0 g1 g2)
    | (go_at_call 12; refine (HPE.out _).mono ?_; rintro e w6 ⟨g6, cap6, rfl, ho6, hb6⟩; have hz6 := hb6.size; have hB26 := (HB3.out.alloc hz3 _).trans (hb6.mono (by simp; omega)); have hO6 := own_below HO2.out hB26; have hr6 := own_rdB ho6; have HO6 := Lib.hid hO6; have HR6 := Lib.hid hr6; have HB26 := Lib.hid hB26; clear ho6 hb6 hO6 hr6 hB26)
    | (refine copy_own rfl _ _ 22 22 rfl 5 Try.underlying22 (by kernel_rfl) G 3712 19840 (cap - 3712) g6 0 32 cap6 (by rfl) (by rfl) _ 5 23552 cap (trF 20 n) EF HO6.out (by omega) 32 (by decide) HR6.out (by omega) ?_; intro w7 ho7 hm7; rw [HH.out] at ho7; have hz7 := hm7.size; have HO7 := Lib.hid ho7; have HM7 := Lib.hid hm7; clear ho7 hm7)
    | (go_at_call 9; refine (HRP.out _ _ _ _ HO7.out).mono ?_; rintro e w8 ⟨G4, cap4, v4, rfl, ho4, hv4, hb4⟩; obtain ⟨A5, cap5, rfl, _, hc5⟩ := own_one hv4; have hz4 := hb4.size; have HO4 := Lib.hid ho4; have HB4 := Lib.hid hb4; have HC5 := Lib.hid hc5; clear ho4 hv4 hb4 hc5))
  have lw1 : w1.heap.size < w2.heap.size := by simp at hz2; omega
  have lG1 : w1.heap.size < G := by simp at l1; omega
  have hBw2 : Below w.heap.size w w2 := ((HB1.out.alloc hz1 _).trans (HB2.out.mono (by simp; omega)))
  have hB27 := Below.mods (hBw2.trans (HB26.out.mono hBw2.size)) HM7.out (fun i hi e => by omega) (hBw2.trans (HB26.out.mono hBw2.size)).size
  have hk7 := (HK2.out.below HB26.out HK2.out.lt).mods HM7.out (fun e => by omega)
  have hk4 := hk7.below HB4.out hk7.lt
  have hr4 := own_rdB HO4.out
  have hc4 : w8.cell? ⟨A5, 0, none⟩ = some (.int .i64 3) := HC5.out
  have lk4 := hk4.lt
  have hBw4 := hB27.trans (HB4.out.mono hB27.size)
  have g0 := hk4.cell 0; have g1 := hk4.cell 1; have g2 := hk4.cell 2
  simp only [List.getElem?_cons_zero, List.getElem?_cons_succ] at g0 g1 g2
  have HBW4 := Lib.hid hBw4
  clear hBw4 hB27 hBw2 hk7
  refine wp_region_held_drew (S := (fun w' => w'.cell? ⟨w1.heap.size, 0, none⟩ = some (.int .i64 1) ∧ w'.cell? ⟨w1.heap.size, 1, none⟩ = some (.int .i64 1) ∧ w'.cell? ⟨w1.heap.size, 2, none⟩ = some (.int .i64 20) ∧ RdB w' G4 0 23552 (trF 20 n) ∧ w'.cell? ⟨A5, 0, none⟩ = some (.int .i64 3))) (by kernel_rfl) ⟨g0, g1, g2, hr4.below (Below.refl _ _).drew, hc4⟩ (fun hHeld => ?_)
  refine wpAnyH_take (i := 0) (oi := ⟨_, _, _, _, _, _⟩) (v := ?_) rfl (by kernel_rfl) (by kernel_rfl) (by kernel_rfl) (fun _ _ _ h => h) (Or.inl ⟨by kernel_rfl, ?_⟩) (by assumption) ?_
  rotate_left
  · (intro w hSw; (try dsimp only at hSw); go_simp; first | done | with_reducible rfl)
  simp only [Act.put, List.setIfInBounds_toArray, List.set_cons_zero, List.set_cons_succ]
  refine wpAnyH_take (i := 1) (oi := ⟨_, _, _, _, _, _⟩) (v := ?_) rfl (by kernel_rfl) (by kernel_rfl) (by kernel_rfl) (fun _ _ _ h => h) (Or.inl ⟨by kernel_rfl, ?_⟩) (by assumption) ?_
  rotate_left
  · (intro w hSw; (try dsimp only at hSw); go_simp; first | done | with_reducible rfl)
  simp only [Act.put, List.setIfInBounds_toArray, List.set_cons_zero, List.set_cons_succ]
  refine wpAnyH_take (i := 2) (oi := ⟨_, _, _, _, _, _⟩) (v := ?_) rfl (by kernel_rfl) (by kernel_rfl) (by kernel_rfl) (fun _ _ _ h => h) (Or.inl ⟨by kernel_rfl, ?_⟩) (by assumption) ?_
  rotate_left
  · (intro w hSw; (try dsimp only at hSw); go_simp; first | done | with_reducible rfl)
  simp only [Act.put, List.setIfInBounds_toArray, List.set_cons_zero, List.set_cons_succ]
  refine wpAnyH_take (i := 3) (oi := ⟨_, _, _, _, _, _⟩) (v := ?_) rfl (by kernel_rfl) (by kernel_rfl) (by kernel_rfl) (fun _ _ _ h => h) (Or.inl ⟨by kernel_rfl, ?_⟩) (by assumption) ?_
  rotate_left
  · (intro w hSw; (try dsimp only at hSw); go_simp; first | done | with_reducible rfl)
  simp only [Act.put, List.setIfInBounds_toArray, List.set_cons_zero, List.set_cons_succ]
  refine wpAnyH_take (i := 4) (oi := ⟨_, _, _, _, _, _⟩) (v := ?_) rfl (by kernel_rfl) (by kernel_rfl) (by kernel_rfl) (fun _ _ _ h => h) (Or.inl ⟨by kernel_rfl, ?_⟩) (by assumption) ?_
  rotate_left
  · (intro w hSw; (try dsimp only at hSw); go_simp; first | done | with_reducible rfl)
  simp only [Act.put, List.setIfInBounds_toArray, List.set_cons_zero, List.set_cons_succ]
  refine wpAnyH_take (i := 5) (oi := ⟨_, _, _, _, _, _⟩) (v := ?_) rfl (by kernel_rfl) (by kernel_rfl) (by kernel_rfl) (fun _ _ _ h => h) (Or.inl ⟨by kernel_rfl, ?_⟩) (by assumption) ?_
  rotate_left
  · (intro w hSw; (try dsimp only at hSw); go_simp; first | done | with_reducible rfl)
  simp only [Act.put, List.setIfInBounds_toArray, List.set_cons_zero, List.set_cons_succ]
  refine wpAnyH_take (i := 6) (oi := ⟨_, _, _, _, _, _⟩) (v := ?_) rfl (by kernel_rfl) (by kernel_rfl) (by kernel_rfl) (fun _ _ _ h => h) (Or.inl ⟨by kernel_rfl, ?_⟩) (by assumption) ?_
  rotate_left
  · (intro w hSw; (try dsimp only at hSw); go_simp; first | done | with_reducible rfl)
  simp only [Act.put, List.setIfInBounds_toArray, List.set_cons_zero, List.set_cons_succ]
  refine wpAnyH_take (i := 7) (oi := ⟨_, _, _, _, _, _⟩) (v := ?_) rfl (by kernel_rfl) (by kernel_rfl) (by kernel_rfl) (fun _ _ _ h => h) (Or.inl ⟨by kernel_rfl, ?_⟩) (by assumption) ?_
  rotate_left
  · (intro w hSw; (try dsimp only at hSw); go_simp; first | done | with_reducible rfl)
  simp only [Act.put, List.setIfInBounds_toArray, List.set_cons_zero, List.set_cons_succ]
  refine wpAnyH_take (i := 8) (oi := ⟨_, _, _, _, _, _⟩) (v := ?_) rfl (by kernel_rfl) (by kernel_rfl) (by kernel_rfl) (fun _ _ _ h => h) (Or.inl ⟨by kernel_rfl, ?_⟩) (by assumption) ?_
  rotate_left
  · (intro w hSw; (try dsimp only at hSw); go_simp; first | done | with_reducible rfl)
  simp only [Act.put, List.setIfInBounds_toArray, List.set_cons_zero, List.set_cons_succ]
  refine wpAnyH_take (i := 9) (oi := ⟨_, _, _, _, _, _⟩) (v := ?_) rfl (by kernel_rfl) (by kernel_rfl) (by kernel_rfl) (fun _ _ _ h => h) (Or.inl ⟨by kernel_rfl, ?_⟩) (by assumption) ?_
  rotate_left
  · (intro w hSw; (try dsimp only at hSw); go_simp; first | done | with_reducible rfl)
  simp only [Act.put, List.setIfInBounds_toArray, List.set_cons_zero, List.set_cons_succ]
  refine wpAnyH_take (i := 10) (oi := ⟨_, _, _, _, _, _⟩) (v := ?_) rfl (by kernel_rfl) (by kernel_rfl) (by kernel_rfl) (fun _ _ _ h => h) (Or.inl ⟨by kernel_rfl, ?_⟩) (by assumption) ?_
  rotate_left
  · (intro w hSw; (try dsimp only at hSw); go_simp; first | done | with_reducible rfl)
  simp only [Act.put, List.setIfInBounds_toArray, List.set_cons_zero, List.set_cons_succ]
  refine wpAnyH_take (i := 11) (oi := ⟨_, _, _, _, _, _⟩) (v := ?_) rfl (by kernel_rfl) (by kernel_rfl) (by kernel_rfl) (fun _ _ _ h => h) (Or.inl ⟨by kernel_rfl, ?_⟩) (by assumption) ?_
  rotate_left
  · (intro w hSw; (try dsimp only at hSw); go_simp; first | done | with_reducible rfl)
  simp only [Act.put, List.setIfInBounds_toArray, List.set_cons_zero, List.set_cons_succ]
  refine wpAnyH_take (i := 12) (oi := ⟨_, _, _, _, _, _⟩) (v := ?_) rfl (by kernel_rfl) (by kernel_rfl) (by kernel_rfl) (fun _ _ _ h => h) (Or.inl ⟨by kernel_rfl, ?_⟩) (by assumption) ?_
  rotate_left
  · (intro w hSw; (try dsimp only at hSw); go_simp; first | done | with_reducible rfl)
  simp only [Act.put, List.setIfInBounds_toArray, List.set_cons_zero, List.set_cons_succ]
  refine wpAnyH_take (i := 13) (oi := ⟨_, _, _, _, _, _⟩) (v := ?_) rfl (by kernel_rfl) (by kernel_rfl) (by kernel_rfl) (fun _ _ _ h => h) (Or.inl ⟨by kernel_rfl, ?_⟩) (by assumption) ?_
  rotate_left
  · (intro w hSw; (try dsimp only at hSw); go_simp; first | done | with_reducible rfl)
  simp only [Act.put, List.setIfInBounds_toArray, List.set_cons_zero, List.set_cons_succ]
  refine wpAnyH_take (i := 14) (oi := ⟨_, _, _, _, _, _⟩) (v := ?_) rfl (by kernel_rfl) (by kernel_rfl) (by kernel_rfl) (fun _ _ _ h => h) (Or.inl ⟨by kernel_rfl, ?_⟩) (by assumption) ?_
  rotate_left
  · (intro w hSw; (try dsimp only at hSw); go_simp; first | done | with_reducible rfl)
  simp only [Act.put, List.setIfInBounds_toArray, List.set_cons_zero, List.set_cons_succ]
  refine wpAnyH_take (i := 15) (oi := ⟨_, _, _, _, _, _⟩) (v := ?_) rfl (by kernel_rfl) (by kernel_rfl) (by kernel_rfl) (fun _ _ _ h => h) (Or.inl ⟨by kernel_rfl, ?_⟩) (by assumption) ?_
  rotate_left
  · (intro w hSw; (try dsimp only at hSw); have cv := HCV.out G4 cap4 _ hSw.2.2.2.1; go_simp; first | done | with_reducible rfl)
  simp only [Act.put, List.setIfInBounds_toArray, List.set_cons_zero, List.set_cons_succ]
  refine wpAnyH_take (i := 16) (oi := ⟨_, _, _, _, _, _⟩) (v := ?_) rfl (by kernel_rfl) (by kernel_rfl) (by kernel_rfl) (fun _ _ _ h => h) (Or.inl ⟨by kernel_rfl, ?_⟩) (by assumption) ?_
  rotate_left
  · (intro w hSw; (try dsimp only at hSw); go_simp; first | done | with_reducible rfl)
  simp only [Act.put, List.setIfInBounds_toArray, List.set_cons_zero, List.set_cons_succ]
  refine wpAnyH_take (i := 17) (oi := ⟨_, _, _, _, _, _⟩) (v := ?_) rfl (by kernel_rfl) (by kernel_rfl) (by kernel_rfl) (fun _ _ _ h => h) (Or.inl ⟨by kernel_rfl, ?_⟩) (by assumption) ?_
  rotate_left
  · (intro w hSw; (try dsimp only at hSw); go_simp; first | done | with_reducible rfl)
  simp only [Act.put, List.setIfInBounds_toArray, List.set_cons_zero, List.set_cons_succ]
  refine wpAnyH_ready (rs := [18]) (by kernel_rfl) (by simp) ?_
  refine AllReadyH.cons rfl (fun K hK => ?_) AllReadyH.nil
  go_simp
  go_at_call 8
  refine (HTR.out _).mono ?_
  rintro e w9 ⟨G5, cap9, rfl, ho5, hb5⟩
  have hb5' : Below w8.heap.size w8 w9 := (Below.refl w8.heap.size w8).drew.trans hb5
  have hk5 := hk4.below hb5' lk4
  have hr5 := hr4.below hb5'
  have hc6 : w9.cell? ⟨A5, 0, none⟩ = some (.int .i64 3) := by rw [hb5'.cell (p := ⟨A5, 0, none⟩) (lt_of_cell hc4)]; exact hc4
  have hs5 := own_rdB ho5
  go_simp
  refine hK.out _ _ ?_ (fun hHeld => ?_)
  · exact ⟨hk5.cell 0, hk5.cell 1, hk5.cell 2, hr5, hc6⟩
  clear hK K
  refine anyH_mono (fun w' => (w'.cell? ⟨w1.heap.size, 0, none⟩ = some (.int .i64 1) ∧ w'.cell? ⟨w1.heap.size, 1, none⟩ = some (.int .i64 1) ∧ w'.cell? ⟨w1.heap.size, 2, none⟩ = some (.int .i64 20) ∧ RdB w' G4 0 23552 (trF 20 n) ∧ w'.cell? ⟨A5, 0, none⟩ = some (.int .i64 3)) ∧ RdB w' G5 0 23552 (trF 20 n)) (fun w h => h.1) _ _ _ _ ?_
  replace hHeld : (fun w' => (w'.cell? ⟨w1.heap.size, 0, none⟩ = some (.int .i64 1) ∧ w'.cell? ⟨w1.heap.size, 1, none⟩ = some (.int .i64 1) ∧ w'.cell? ⟨w1.heap.size, 2, none⟩ = some (.int .i64 20) ∧ RdB w' G4 0 23552 (trF 20 n) ∧ w'.cell? ⟨A5, 0, none⟩ = some (.int .i64 3)) ∧ RdB w' G5 0 23552 (trF 20 n)) _ := ⟨hHeld, hs5⟩
  refine wpAnyH_take (i := 19) (oi := ⟨_, _, _, _, _, _⟩) (v := ?_) rfl (by kernel_rfl) (by kernel_rfl) (by kernel_rfl) (fun _ _ _ h => h) (Or.inl ⟨by kernel_rfl, ?_⟩) (by assumption) ?_
  rotate_left
  · (intro w hSw; (try dsimp only at hSw); have cv := HCV.out G5 cap9 _ hSw.2; go_simp; first | done | with_reducible rfl)
  simp only [Act.put, List.setIfInBounds_toArray, List.set_cons_zero, List.set_cons_succ]
  refine wpAnyH_take (i := 20) (oi := ⟨_, _, _, _, _, _⟩) (v := ?_) rfl (by kernel_rfl) (by kernel_rfl) (by kernel_rfl) (fun _ _ _ h => h) (Or.inl ⟨by kernel_rfl, ?_⟩) (by assumption) ?_
  rotate_left
  · (intro w hSw; (try dsimp only at hSw); go_simp; first | done | with_reducible rfl)
  simp only [Act.put, List.setIfInBounds_toArray, List.set_cons_zero, List.set_cons_succ]
  refine wpAnyH_take (i := 21) (oi := ⟨_, _, _, _, _, _⟩) (v := ?_) rfl (by kernel_rfl) (by kernel_rfl) (by kernel_rfl) (fun _ _ _ h => h) (Or.inl ⟨by kernel_rfl, ?_⟩) (by assumption) ?_
  rotate_left
  · (intro w hSw; (try dsimp only at hSw); go_simp; first | done | with_reducible rfl)
  simp only [Act.put, List.setIfInBounds_toArray, List.set_cons_zero, List.set_cons_succ]
  refine wpAnyH_take (i := 22) (oi := ⟨_, _, _, _, _, _⟩) (v := ?_) rfl (by kernel_rfl) (by kernel_rfl) (by kernel_rfl) (fun _ _ _ h => h) (Or.inl ⟨by kernel_rfl, ?_⟩) (by assumption) ?_
  rotate_left
  · (intro w hSw; (try dsimp only at hSw); go_simp; first | done | with_reducible rfl)
  simp only [Act.put, List.setIfInBounds_toArray, List.set_cons_zero, List.set_cons_succ]
  refine wpAnyH_done (by kernel_rfl) ?_ _
  have hBT := HBW4.out.trans (hb5'.mono HBW4.out.size)
  have HBT := Lib.hid hBT
  clear hHeld hk5 hr5 hs5 ho5 hb5 hb5' hr4 hk4 hBT hc6 hc4
  go_wp2
  go_ret
  exact ⟨rfl, HBT.out⟩
end Go.Proofs.Ytolbahfbhcpgdaa
end
