/- Part of the road to LoopsRow: LawL, LawM. -/
import Derived.Test.YtolbahfbhcpgdaaHeads16
set_option linter.all false
set_option linter.unusedSimpArgs false
set_option linter.unusedVariables false
set_option linter.unusedSectionVars false
section
/- FsckLoops: the walk. -/
namespace Go.Proofs.Ytolbahfbhcpgdaa
open Go.RowKit

/-- a directory by hand -/
def dirB (f : Nat → Nat) (ino data entry : Nat) : Nat → Nat := (stB (stB (stB (stB (stB (stB (stB (stB (stB (stB (stB (stB (stB (stB f (2048 + 64 * (ino - 1)) (2)) (2048 + 64 * (ino - 1) + 2) (3)) (2048 + 64 * (ino - 1) + 5) (4)) (2048 + 64 * (ino - 1) + 8) (3 + data)) ((3 + data) * 1024) (ino)) ((3 + data) * 1024 + 4) (1)) ((3 + data) * 1024 + 5) (46)) ((3 + data) * 1024 + 32) (ino)) ((3 + data) * 1024 + 36) (2)) ((3 + data) * 1024 + 37) (46)) ((3 + data) * 1024 + 38) (46)) ((3 + data) * 1024 + 64) (entry)) ((3 + data) * 1024 + 68) (1)) ((3 + data) * 1024 + 69) (120))
theorem dirB_lt {f : Nat → Nat} (hf : ∀ k, f k < 256) {ino data entry : Nat} (h1 : ino < 256) (h2 : 3 + data < 256) (h3 : entry < 256) : ∀ k, dirB f ino data entry k < 256 := by
  unfold dirB
  iterate 14 refine stB_lt ?_ (by omega)
  exact hf
theorem dirB_far (f : Nat → Nat) (ino data entry q : Nat) (h1 : q < 2048 + 64 * (ino - 1) ∨ 2048 + 64 * (ino - 1) + 64 ≤ q) (h2 : q < (3 + data) * 1024 ∨ (3 + data) * 1024 + 1024 ≤ q) : dirB f ino data entry q = f q := by
  unfold dirB stB
  iterate 14 rw [if_neg (by omega)]

set_option maxRecDepth 100000 in
set_option maxHeartbeats 4000000 in
theorem dirB_c (G cap base ino data entry : Nat) (f : Nat → Nat) (w : World) (h1 : 1 ≤ ino) (h2 : ino ≤ 16) (h3 : data ≤ 19) (h4 : entry < 256) (ho : w.ownsRow base 5 1 (.slice (some ⟨G, 0, none⟩) 23552 cap) 23552 (bytesL f 23552)) :
    Calls Try.prog 10 #[.slice (some ⟨G, 0, none⟩) 23552 cap, .int .i64 ino, .int .i64 data, .int .i64 entry] w fun e w' => e = .returned (.tuple #[]) ∧ w'.ownsRow base 5 1 (.slice (some ⟨G, 0, none⟩) 23552 cap) 23552 (bytesL (dirB f ino data entry) 23552) ∧ Mods (fun k => k = G) w w' := by
  have cells := fun (i : Nat) (hi : i < 23552) => own_get ho hi
  obtain ⟨p, rfl⟩ : ∃ p, ino = p + 1 := ⟨ino - 1, by omega⟩
  obtain ⟨c0, z0⟩ := cells (2048 + 64 * p) (by omega)
  obtain ⟨c1, z1⟩ := cells (2048 + 64 * p + 2) (by omega)
  obtain ⟨c2, z2⟩ := cells (2048 + 64 * p + 5) (by omega)
  obtain ⟨c3, z3⟩ := cells (2048 + 64 * p + 8) (by omega)
  obtain ⟨c4, z4⟩ := cells ((3 + data) * 1024) (by omega)
  obtain ⟨c5, z5⟩ := cells ((3 + data) * 1024 + 4) (by omega)
  obtain ⟨c6, z6⟩ := cells ((3 + data) * 1024 + 5) (by omega)
  obtain ⟨c7, z7⟩ := cells ((3 + data) * 1024 + 32) (by omega)
  obtain ⟨c8, z8⟩ := cells ((3 + data) * 1024 + 36) (by omega)
  obtain ⟨c9, z9⟩ := cells ((3 + data) * 1024 + 37) (by omega)
  obtain ⟨c10, z10⟩ := cells ((3 + data) * 1024 + 38) (by omega)
  obtain ⟨c11, z11⟩ := cells ((3 + data) * 1024 + 64) (by omega)
  obtain ⟨c12, z12⟩ := cells ((3 + data) * 1024 + 68) (by omega)
  obtain ⟨c13, z13⟩ := cells ((3 + data) * 1024 + 69) (by omega)
  have HO := Lib.hid ho
  clear ho cells
  go_enter Try.func10, Try.ntmps10
  go_wp2
  go_end0
  generalize hw0 : w.setCell ⟨G, 2048 + 64 * p, none⟩ (.int .u8 (2)) = w0
  obtain ⟨f0, hf0⟩ : ∃ f0, f0 = stB f (2048 + 64 * p) (2) := ⟨_, rfl⟩
  have o0 : w0.ownsRow base 5 1 (.slice (some ⟨G, 0, none⟩) 23552 cap) 23552 (bytesL f0 23552) := by rw [← hw0, hf0]; exact own_set HO.out (by omega) (2) (by simp)
  have m0 : Mods (fun k => k = G) w w0 := by rw [← hw0]; exact Mods.setCell (s := fun k => k = G) (Mods.refl (fun k => k = G) w) _ (fun _ => by rfl) _
  generalize hw1 : w0.setCell ⟨G, 2048 + 64 * p + 2, none⟩ (.int .u8 (3)) = w1
  obtain ⟨f1, hf1⟩ : ∃ f1, f1 = stB f0 (2048 + 64 * p + 2) (3) := ⟨_, rfl⟩
  have o1 : w1.ownsRow base 5 1 (.slice (some ⟨G, 0, none⟩) 23552 cap) 23552 (bytesL f1 23552) := by rw [← hw1, hf1]; exact own_set o0 (by omega) (3) (by simp)
  have m1 : Mods (fun k => k = G) w w1 := by rw [← hw1]; exact Mods.setCell (s := fun k => k = G) m0 _ (fun _ => by rfl) _
  generalize hw2 : w1.setCell ⟨G, 2048 + 64 * p + 5, none⟩ (.int .u8 (4)) = w2
  obtain ⟨f2, hf2⟩ : ∃ f2, f2 = stB f1 (2048 + 64 * p + 5) (4) := ⟨_, rfl⟩
  have o2 : w2.ownsRow base 5 1 (.slice (some ⟨G, 0, none⟩) 23552 cap) 23552 (bytesL f2 23552) := by rw [← hw2, hf2]; exact own_set o1 (by omega) (4) (by simp)
  have m2 : Mods (fun k => k = G) w w2 := by rw [← hw2]; exact Mods.setCell (s := fun k => k = G) m1 _ (fun _ => by rfl) _
  generalize hw3 : w2.setCell ⟨G, 2048 + 64 * p + 8, none⟩ (.int .u8 (3 + (data : Int))) = w3
  obtain ⟨f3, hf3⟩ : ∃ f3, f3 = stB f2 (2048 + 64 * p + 8) (3 + data) := ⟨_, rfl⟩
  have o3 : w3.ownsRow base 5 1 (.slice (some ⟨G, 0, none⟩) 23552 cap) 23552 (bytesL f3 23552) := by rw [← hw3, hf3]; exact own_set o2 (by omega) (3 + data) (by simp)
  have m3 : Mods (fun k => k = G) w w3 := by rw [← hw3]; exact Mods.setCell (s := fun k => k = G) m2 _ (fun _ => by rfl) _
  generalize hw4 : w3.setCell ⟨G, (3 + data) * 1024, none⟩ (.int .u8 ((p : Int) + 1)) = w4
  obtain ⟨f4, hf4⟩ : ∃ f4, f4 = stB f3 ((3 + data) * 1024) ((p + 1)) := ⟨_, rfl⟩
  have o4 : w4.ownsRow base 5 1 (.slice (some ⟨G, 0, none⟩) 23552 cap) 23552 (bytesL f4 23552) := by rw [← hw4, hf4]; exact own_set o3 (by omega) ((p + 1)) (by simp)
  have m4 : Mods (fun k => k = G) w w4 := by rw [← hw4]; exact Mods.setCell (s := fun k => k = G) m3 _ (fun _ => by rfl) _
  generalize hw5 : w4.setCell ⟨G, (3 + data) * 1024 + 4, none⟩ (.int .u8 (1)) = w5
  obtain ⟨f5, hf5⟩ : ∃ f5, f5 = stB f4 ((3 + data) * 1024 + 4) (1) := ⟨_, rfl⟩
  have o5 : w5.ownsRow base 5 1 (.slice (some ⟨G, 0, none⟩) 23552 cap) 23552 (bytesL f5 23552) := by rw [← hw5, hf5]; exact own_set o4 (by omega) (1) (by simp)
  have m5 : Mods (fun k => k = G) w w5 := by rw [← hw5]; exact Mods.setCell (s := fun k => k = G) m4 _ (fun _ => by rfl) _
  generalize hw6 : w5.setCell ⟨G, (3 + data) * 1024 + 5, none⟩ (.int .u8 (46)) = w6
  obtain ⟨f6, hf6⟩ : ∃ f6, f6 = stB f5 ((3 + data) * 1024 + 5) (46) := ⟨_, rfl⟩
  have o6 : w6.ownsRow base 5 1 (.slice (some ⟨G, 0, none⟩) 23552 cap) 23552 (bytesL f6 23552) := by rw [← hw6, hf6]; exact own_set o5 (by omega) (46) (by simp)
  have m6 : Mods (fun k => k = G) w w6 := by rw [← hw6]; exact Mods.setCell (s := fun k => k = G) m5 _ (fun _ => by rfl) _
  generalize hw7 : w6.setCell ⟨G, (3 + data) * 1024 + 32, none⟩ (.int .u8 ((p : Int) + 1)) = w7
  obtain ⟨f7, hf7⟩ : ∃ f7, f7 = stB f6 ((3 + data) * 1024 + 32) ((p + 1)) := ⟨_, rfl⟩
  have o7 : w7.ownsRow base 5 1 (.slice (some ⟨G, 0, none⟩) 23552 cap) 23552 (bytesL f7 23552) := by rw [← hw7, hf7]; exact own_set o6 (by omega) ((p + 1)) (by simp)
  have m7 : Mods (fun k => k = G) w w7 := by rw [← hw7]; exact Mods.setCell (s := fun k => k = G) m6 _ (fun _ => by rfl) _
  generalize hw8 : w7.setCell ⟨G, (3 + data) * 1024 + 36, none⟩ (.int .u8 (2)) = w8
  obtain ⟨f8, hf8⟩ : ∃ f8, f8 = stB f7 ((3 + data) * 1024 + 36) (2) := ⟨_, rfl⟩
  have o8 : w8.ownsRow base 5 1 (.slice (some ⟨G, 0, none⟩) 23552 cap) 23552 (bytesL f8 23552) := by rw [← hw8, hf8]; exact own_set o7 (by omega) (2) (by simp)
  have m8 : Mods (fun k => k = G) w w8 := by rw [← hw8]; exact Mods.setCell (s := fun k => k = G) m7 _ (fun _ => by rfl) _
  generalize hw9 : w8.setCell ⟨G, (3 + data) * 1024 + 37, none⟩ (.int .u8 (46)) = w9
  obtain ⟨f9, hf9⟩ : ∃ f9, f9 = stB f8 ((3 + data) * 1024 + 37) (46) := ⟨_, rfl⟩
  have o9 : w9.ownsRow base 5 1 (.slice (some ⟨G, 0, none⟩) 23552 cap) 23552 (bytesL f9 23552) := by rw [← hw9, hf9]; exact own_set o8 (by omega) (46) (by simp)
  have m9 : Mods (fun k => k = G) w w9 := by rw [← hw9]; exact Mods.setCell (s := fun k => k = G) m8 _ (fun _ => by rfl) _
  generalize hw10 : w9.setCell ⟨G, (3 + data) * 1024 + 38, none⟩ (.int .u8 (46)) = w10
  obtain ⟨f10, hf10⟩ : ∃ f10, f10 = stB f9 ((3 + data) * 1024 + 38) (46) := ⟨_, rfl⟩
  have o10 : w10.ownsRow base 5 1 (.slice (some ⟨G, 0, none⟩) 23552 cap) 23552 (bytesL f10 23552) := by rw [← hw10, hf10]; exact own_set o9 (by omega) (46) (by simp)
  have m10 : Mods (fun k => k = G) w w10 := by rw [← hw10]; exact Mods.setCell (s := fun k => k = G) m9 _ (fun _ => by rfl) _
  generalize hw11 : w10.setCell ⟨G, (3 + data) * 1024 + 64, none⟩ (.int .u8 ((entry : Int))) = w11
  obtain ⟨f11, hf11⟩ : ∃ f11, f11 = stB f10 ((3 + data) * 1024 + 64) (entry) := ⟨_, rfl⟩
  have o11 : w11.ownsRow base 5 1 (.slice (some ⟨G, 0, none⟩) 23552 cap) 23552 (bytesL f11 23552) := by rw [← hw11, hf11]; exact own_set o10 (by omega) (entry) (by simp)
  have m11 : Mods (fun k => k = G) w w11 := by rw [← hw11]; exact Mods.setCell (s := fun k => k = G) m10 _ (fun _ => by rfl) _
  generalize hw12 : w11.setCell ⟨G, (3 + data) * 1024 + 68, none⟩ (.int .u8 (1)) = w12
  obtain ⟨f12, hf12⟩ : ∃ f12, f12 = stB f11 ((3 + data) * 1024 + 68) (1) := ⟨_, rfl⟩
  have o12 : w12.ownsRow base 5 1 (.slice (some ⟨G, 0, none⟩) 23552 cap) 23552 (bytesL f12 23552) := by rw [← hw12, hf12]; exact own_set o11 (by omega) (1) (by simp)
  have m12 : Mods (fun k => k = G) w w12 := by rw [← hw12]; exact Mods.setCell (s := fun k => k = G) m11 _ (fun _ => by rfl) _
  generalize hw13 : w12.setCell ⟨G, (3 + data) * 1024 + 69, none⟩ (.int .u8 (120)) = w13
  obtain ⟨f13, hf13⟩ : ∃ f13, f13 = stB f12 ((3 + data) * 1024 + 69) (120) := ⟨_, rfl⟩
  have o13 : w13.ownsRow base 5 1 (.slice (some ⟨G, 0, none⟩) 23552 cap) 23552 (bytesL f13 23552) := by rw [← hw13, hf13]; exact own_set o12 (by omega) (120) (by simp)
  have m13 : Mods (fun k => k = G) w w13 := by rw [← hw13]; exact Mods.setCell (s := fun k => k = G) m12 _ (fun _ => by rfl) _
  refine ⟨rfl, ?_, m13⟩
  simp only [dirB, Nat.add_sub_cancel]
  rw [← hf0, ← hf1, ← hf2, ← hf3, ← hf4, ← hf5, ← hf6, ← hf7, ← hf8, ← hf9, ← hf10, ← hf11, ← hf12, ← hf13]
  exact o13
end Go.Proofs.Ytolbahfbhcpgdaa
end

section
/- FsckLoops: the pure side, the guards, the walk. -/
namespace Go.Proofs.Ytolbahfbhcpgdaa
open Go.RowKit

/-- i directories by hand, each with an entry of the next, out of k -/
def handD (n k : Nat) (f : Nat → Nat) : Nat → Nat → Nat
  | 0 => f
  | i + 1 => dirB (handD n k f i) (n + 2 + i) (n + 1 + i) (n + 2 + (i + 1) % k)
theorem handD_lt {n k : Nat} (hn : n ≤ 5) (hk : 1 ≤ k) (hk5 : k ≤ 5) {f : Nat → Nat} (hf : ∀ q, f q < 256) : ∀ i, i ≤ k → ∀ q, handD n k f i q < 256
  | 0, _ => hf
  | i + 1, hi => by
    have := Nat.mod_lt (i + 1) (show 0 < k by omega)
    exact dirB_lt (handD_lt hn hk hk5 hf i (by omega)) (by omega) (by omega) (by omega)
theorem handD_far {n k : Nat} (f : Nat → Nat) (q : Nat) (h1 : q < 2048 + 64 * (n + 1) ∨ 3072 ≤ q ∧ q < (4 + n) * 1024) : ∀ i, i ≤ 5 → n ≤ 5 → handD n k f i q = f q
  | 0, _, _ => rfl
  | i + 1, hi, hn => by
    show dirB (handD n k f i) (n + 2 + i) (n + 1 + i) (n + 2 + (i + 1) % k) q = _
    rw [dirB_far _ _ _ _ _ (by omega) (by omega)]
    exact handD_far f q h1 i (by omega) hn
theorem like_loops {n : Nat} {h : Nat → Nat} (hn : n ≤ 9) (hb : ∀ k, h k < 256) (e : ∀ q, q < 2048 + 64 * (n + 1) ∨ 3072 ≤ q ∧ q < 4096 → h q = trF 20 n q) : Like 20 n h := by
  refine like_of (m := 20) hn hb (fun k hk => ?_) (fun x => treeI x 1) (fun x => ?_) (fun x hx k hk => ?_) (fun j h1 h2 k hk => ?_) (fun j h1 h2 => ?_)
  · rw [e k (.inl (by omega))]; exact trF_sup 20 n (by omega) k hk
  · unfold treeI
    split
    · show (2 : Nat) < 65536; decide
    · show (1 : Nat) < 65536; decide
  · rw [e _ (.inl (by omega)), trF_row 20 n hn x (by omega) k hk, if_pos hx]
    exact (withL_same (treeI x) k).symm
  · rw [e _ (.inr (by omega)), trF_erow 20 n hn j (by omega) k hk, entN_file n j h1 h2]
  · rw [rootE_no (m := 20) hn h1 h2 (fun k hk => e _ (.inr (by omega)))]
    exact gone_zero 20 n _
theorem dirB_i (a b c : Int) (G cap base ino data entry : Nat) (f : Nat → Nat) (w : World) (ha : a = (ino : Int)) (hb : b = (data : Int)) (hc : c = (entry : Int)) (h1 : 1 ≤ ino) (h2 : ino ≤ 16) (h3 : data ≤ 19) (h4 : entry < 256) (ho : w.ownsRow base 5 1 (.slice (some ⟨G, 0, none⟩) 23552 cap) 23552 (bytesL f 23552)) :
    Calls Try.prog 10 #[.slice (some ⟨G, 0, none⟩) 23552 cap, .int .i64 a, .int .i64 b, .int .i64 c] w fun e w' => e = .returned (.tuple #[]) ∧ w'.ownsRow base 5 1 (.slice (some ⟨G, 0, none⟩) 23552 cap) 23552 (bytesL (dirB f ino data entry) 23552) ∧ Mods (fun k => k = G) w w' := by
  subst ha; subst hb; subst hc
  exact dirB_c G cap base ino data entry f w h1 h2 h3 h4 ho

set_option maxRecDepth 100000 in
set_option maxHeartbeats 4000000 in
theorem loops_no (n k : Int) (w : World) (hbad : n < 0 ∨ 5 < n ∨ k < 1 ∨ 5 < k) : Calls Try.prog 5 #[.int .i64 n, .int .i64 k] w fun e w' => e = .returned (.bool true) ∧ Below w.heap.size w w' := by
  have AL := alive_c
  have HAL := Lib.hid AL
  clear AL
  by_cases h0 : n < 0
  · have d0 : decide (n < 0) = true := by simpa using h0
    clear hbad h0
    go_enter Try.func5, Try.ntmps5
    go_wp2_with (go_at_call 7; refine (HAL.out _).mono ?_; rintro e w1 ⟨rfl, hb1⟩)
    go_ret
    exact ⟨rfl, hb1⟩
  · have d0 : decide (n < 0) = false := by simpa using h0
    by_cases h1 : 5 < n
    · have d1 : decide (5 < n) = true := by simpa using h1
      clear hbad h0 h1
      go_enter Try.func5, Try.ntmps5
      go_wp2_with (go_at_call 7; refine (HAL.out _).mono ?_; rintro e w1 ⟨rfl, hb1⟩)
      go_ret
      exact ⟨rfl, hb1⟩
    · have d1 : decide (5 < n) = false := by simpa using h1
      by_cases h2 : k < 1
      · have d2 : decide (k < 1) = true := by simpa using h2
        clear hbad h0 h1 h2
        go_enter Try.func5, Try.ntmps5
        go_wp2_with (go_at_call 7; refine (HAL.out _).mono ?_; rintro e w1 ⟨rfl, hb1⟩)
        go_ret
        exact ⟨rfl, hb1⟩
      · have d2 : decide (k < 1) = false := by simpa using h2
        have h3 : 5 < k := by omega
        have d3 : decide (5 < k) = true := by simpa using h3
        clear hbad h0 h1 h2 h3
        go_enter Try.func5, Try.ntmps5
        go_wp2_with (go_at_call 7; refine (HAL.out _).mono ?_; rintro e w1 ⟨rfl, hb1⟩)
        go_ret
        exact ⟨rfl, hb1⟩

set_option maxRecDepth 100000 in
set_option maxHeartbeats 8000000 in
theorem loops_yes (n k : Nat) (w : World) (hn : n ≤ 5) (hk : 1 ≤ k) (hk5 : k ≤ 5) : Calls Try.prog 5 #[.int .i64 n, .int .i64 k] w fun e w' => e = .returned (.bool true) ∧ Below w.heap.size w w' := by
  have AL := alive_c
  have TR := tree_c n (by omega)
  obtain ⟨h, hh⟩ : ∃ h, h = handD n k (trF 20 n) k := ⟨_, rfl⟩
  have hlk : Like 20 n h := by
    rw [hh]
    exact like_loops (by omega) (handD_lt hn hk hk5 (trF_lt 20 n (by omega)) k (Nat.le_refl _)) (fun q hq => handD_far _ q (by omega) k hk5 hn)
  have RP := fun W base G cap ho => lrep0_c (m := 20) (n := n) (N := 23552) (h := h) (by omega) (by omega) (by decide) (by decide) (by decide) hlk W base G cap ho
  obtain ⟨O, hO⟩ : ∃ O, O = repO (geo1 20) h 3 := ⟨_, rfl⟩
  have hOt : ∀ q, q < (4 + n) * 1024 → O q = trF 20 n q := fun q hq => by
    rw [hO]
    by_cases h4 : q < 4096
    · exact hlk.lo (by omega) (by omega) (fun k hk => head_20 ⟨n, by omega⟩ ⟨k, hk⟩) q h4
    · rw [hlk.hi q (by omega), hh]
      exact handD_far _ q (by omega) k hk5 hn
  obtain ⟨ul, hul⟩ : ∃ l, l = unlike h O (3 + 20) := ⟨_, rfl⟩
  rw [← hO, ← hul] at RP
  have CV := fun G cap W (hr : RdB W G 0 ((4 + n) * 1024) (trF 20 n)) => conv_str (P := Try.prog) W 22 9 5 G 0 ((4 + n) * 1024) cap (trF 20 n) (trF_lt 20 n (by omega)) hr Try.underlying22 Try.underlying5 Try.underlying9
  obtain ⟨ST, hST⟩ : ∃ s, s = strOf (trF 20 n) ((4 + n) * 1024) := ⟨_, rfl⟩
  simp only [← hST] at CV
  have gk : ∀ W : World, Blk 25 (W.alloc (.cells #[.int .i64 1, .int .i64 1, .int .i64 20] 25)) W.heap.size [.int .i64 1, .int .i64 1, .int .i64 20] := fun W => Blk.newL _
  have HAL := Lib.hid AL; have HTR := Lib.hid TR; have HRP := Lib.hid RP; have HCV := Lib.hid CV; have HH := Lib.hid hh; have HGK := Lib.hid gk; have HOT := Lib.hid hOt
  have d1 : decide ((5 : Int) < (n : Int)) = false := by simp; omega
  have d2 : decide ((k : Int) < 1) = false := by simp; omega
  have d3 : decide ((5 : Int) < (k : Int)) = false := by simp; omega
  have d0 : decide ((n : Int) < 0) = false := by simp
  clear AL TR RP CV hh hO hul hST gk hlk hOt
  go_enter Try.func5, Try.ntmps5
  go_wp2_with (first
    | (go_at_call 7; refine (HAL.out _).mono ?_; rintro e w1 ⟨rfl, hb1⟩; have HB1 := Lib.hid hb1; have hz1 := hb1.size; have k1 := HGK.out w1; have c0 := k1.cell 0; have c1 := k1.cell 1; have c2 := k1.cell 2; simp only [List.getElem?_cons_zero, List.getElem?_cons_succ] at c0 c1 c2; have HK1 := Lib.hid k1; clear hb1 k1)
    | (go_at_call 8; have hno := HO2; refine (HTR.out _).mono ?_; rintro e w3 ⟨G3, cap3, rfl, ho3, hb3⟩; have hz3 := hb3.size; have HO3 := Lib.hid ho3; have HB3 := Lib.hid hb3; clear ho3 hb3)
    | (go_at_call 8; refine (HTR.out _).mono ?_; rintro e w2 ⟨G, cap, rfl, ho2, hb2⟩; have hz2 := hb2.size; have hk2 := HK1.out.below hb2 (by simp); have g0 := hk2.cell 0; have g1 := hk2.cell 1; have g2 := hk2.cell 2; simp only [List.getElem?_cons_zero, List.getElem?_cons_succ] at g0 g1 g2; have HO2 := Lib.hid ho2; have HB2 := Lib.hid hb2; clear ho2 hb2 hk2))
  have lw1 : w1.heap.size < w2.heap.size := by simp at hz2; omega
  have hO := own_below HO2.out HB3.out
  obtain ⟨l1, l2, l3, l4⟩ := own_len hO
  obtain ⟨e1, e2, e3, e4⟩ := own_len HO3.out
  obtain ⟨a1, a2, a3, a4⟩ := own_len HO2.out
  unfold maxLen at l4 e4
  have lG1 : w1.heap.size < G := by simp at l1; omega
  have lG3 : G ≠ G3 := by omega
  have hBw3 : Below w.heap.size w w3 := ((HB1.out.alloc hz1 _).trans (HB2.out.mono (by simp; omega))).trans (HB3.out.mono (by omega))
  have hR3 := own_rdB HO3.out
  have HO := Lib.hid hO; have HBW3 := Lib.hid hBw3; have HR3 := Lib.hid hR3
  clear hO hBw3 hR3 a1 a2 a3 a4 c0 c1 c2 g0 g1 g2
  go_loopw [9] (fun i wr => ∃ j : Nat, j ≤ k ∧ i = .int .i64 j ∧ wr.ownsRow (w1.heap.size + 1) 5 1 (.slice (some ⟨G, 0, none⟩) 23552 cap) 23552 (bytesL (handD n k (trF 20 n) j) 23552) ∧ RdB wr G3 0 23552 (trF 20 n) ∧ G3 < wr.heap.size ∧ Below w.heap.size w wr) (fun i _ => k - (intOf i).toNat)
  case atStart => exact ⟨0, by omega, rfl, own_mono HO.out (by simp), HR3.out, e2, HBW3.out⟩
  case round =>
    obtain ⟨j, hj, rfl, ho, hr, hlG, hB⟩ := hrel
    obtain ⟨o1, o2, o3, o4⟩ := own_len ho
    unfold maxLen at o4
    by_cases hlt : j < k
    · have hem := Nat.mod_lt (j + 1) (show 0 < k by omega)
      have htm : ((j : Int) + 1) % (k : Int) = (((j + 1) % k : Nat) : Int) := by push_cast; rfl
      have hk0 : (k : Int) ≠ 0 := by omega
      have hlt' : (j : Int) < (k : Int) := by omega
      obtain ⟨E, hE⟩ : ∃ E, E = (j + 1) % k := ⟨_, rfl⟩
      rw [← hE] at htm hem
      have HE := Lib.hid hE
      have HOj := Lib.hid ho; have HRj := Lib.hid hr; have HBj := Lib.hid hB
      clear ho hr hB hE
      go_wp2_with (go_at_call 10; refine (dirB_i _ _ _ G cap (w1.heap.size + 1) (n + 2 + j) (n + 1 + j) (n + 2 + E) (handD n k (trF 20 n) j) _ (by push_cast; omega) (by push_cast; omega) (by push_cast; omega) (by omega) (by omega) (by omega) (by omega) HOj.out).mono ?_; rintro e w5 ⟨rfl, ho5, hm5⟩; have HO5 := Lib.hid ho5; have HM5 := Lib.hid hm5; clear ho5 hm5)
      have o5 := HO5.out
      have hz5 := HM5.out.size
      refine ⟨⟨j + 1, by omega, by go_num, ?_, fun q hq => by (rw [HM5.out.cell (g := G3) hlG (fun e => lG3 e.symm)]; exact HRj.out q hq), by omega, Below.mods HBj.out HM5.out (fun i hi e => by omega) (by omega)⟩, by simp [intOf]; omega⟩
      rw [HE.out] at o5
      exact o5
    · obtain rfl : j = k := by omega
      have HOj := Lib.hid ho; have HRj := Lib.hid hr; have HBj := Lib.hid hB
      clear ho hr hB hlt
      go_wp2_with (go_at_call 9; have ho9 := HOj.out; rw [← HH.out] at ho9; refine (HRP.out _ _ _ _ ho9).mono ?_; rintro e w4 ⟨G4, cap4, v4, rfl, ho4, hv4, hb4⟩; obtain ⟨A5, cap5, rfl⟩ := own_slice hv4; have hz4 := hb4.size; have HO4 := Lib.hid ho4; have HB4 := Lib.hid hb4; clear ho4 hv4 hb4 ho9)
      obtain ⟨b1, b2, b3, b4⟩ := own_len HO4.out
      unfold maxLen at b4
      have hr4 : RdB w4 G4 0 ((4 + n) * 1024) (trF 20 n) := fun q hq => by rw [own_rdB HO4.out q (by omega), HOT.out q hq]
      have hr3 : RdB w4 G3 0 ((4 + n) * 1024) (trF 20 n) := fun q hq => HRj.out.below HB4.out q (by omega)
      have hBT := HBj.out.trans (HB4.out.mono HBj.out.size)
      have HBT := Lib.hid hBT
      have CV := HCV.out
      have wL : IntKind.i64.wrap (IntKind.i64.wrap (4 + (n : Int)) * 1024) = (((4 + n) * 1024 : Nat) : Int) := by
        have x1 : IntKind.i64.wrap (4 + (n : Int)) = 4 + (n : Int) := by simp [IntKind.wrap, IntKind.signed, IntKind.bits]; omega
        rw [x1]
        simp [IntKind.wrap, IntKind.signed, IntKind.bits]; omega
      obtain ⟨L, hL⟩ : ∃ L, L = (4 + n) * 1024 := ⟨_, rfl⟩
      have q1 : (0 : Int) ≤ (L : Int) ∧ (L : Int) ≤ (cap4 : Int) := by omega
      have q2 : (0 : Int) ≤ (L : Int) ∧ (L : Int) ≤ (cap3 : Int) := by omega
      rw [← hL] at hr4 hr3 CV wL
      have HCVL := Lib.hid CV
      clear CV hL
      clear hBT
      refine wp_region_held_drew (S := (fun w' => RdB w' G4 0 L (trF 20 n) ∧ RdB w' G3 0 L (trF 20 n))) (by kernel_rfl) ⟨hr4.below (Below.refl _ _).drew, hr3.below (Below.refl _ _).drew⟩ (fun hHeld => ?_)
      refine wpAnyH_take (i := 0) (oi := ⟨_, _, _, _, _, _⟩) (v := ?_) rfl (by kernel_rfl) (by kernel_rfl) (by kernel_rfl) (fun _ _ _ h => h) (Or.inl ⟨by kernel_rfl, ?_⟩) (by assumption) ?_
      rotate_left
      · (intro w hSw; (try dsimp only at hSw); go_simp; first | done | with_reducible rfl)
      simp only [Act.put, List.setIfInBounds_toArray, List.set_cons_zero, List.set_cons_succ]
      refine wpAnyH_take (i := 1) (oi := ⟨_, _, _, _, _, _⟩) (v := ?_) rfl (by kernel_rfl) (by kernel_rfl) (by kernel_rfl) (fun _ _ _ h => h) (Or.inl ⟨by kernel_rfl, ?_⟩) (by assumption) ?_
      rotate_left
      · (intro w hSw; (try dsimp only at hSw); go_simp; first | done | with_reducible rfl)
      simp only [Act.put, List.setIfInBounds_toArray, List.set_cons_zero, List.set_cons_succ]
      refine wpAnyH_take (i := 2) (oi := ⟨_, _, _, _, _, _⟩) (v := ?_) rfl (by kernel_rfl) (by kernel_rfl) (by kernel_rfl) (fun _ _ _ h => h) (Or.inl ⟨by kernel_rfl, ?_⟩) (by assumption) ?_
      rotate_left
      · (intro w hSw; (try dsimp only at hSw); go_simp; first | done | with_reducible rfl)
      simp only [Act.put, List.setIfInBounds_toArray, List.set_cons_zero, List.set_cons_succ]
      refine wpAnyH_take (i := 3) (oi := ⟨_, _, _, _, _, _⟩) (v := ?_) rfl (by kernel_rfl) (by kernel_rfl) (by kernel_rfl) (fun _ _ _ h => h) (Or.inl ⟨by kernel_rfl, ?_⟩) (by assumption) ?_
      rotate_left
      · (intro w hSw; (try dsimp only at hSw); go_simp; first | done | with_reducible rfl)
      simp only [Act.put, List.setIfInBounds_toArray, List.set_cons_zero, List.set_cons_succ]
      refine wpAnyH_take (i := 4) (oi := ⟨_, _, _, _, _, _⟩) (v := ?_) rfl (by kernel_rfl) (by kernel_rfl) (by kernel_rfl) (fun _ _ _ h => h) (Or.inl ⟨by kernel_rfl, ?_⟩) (by assumption) ?_
      rotate_left
      · (intro w hSw; (try dsimp only at hSw); go_simp; first | done | with_reducible rfl)
      simp only [Act.put, List.setIfInBounds_toArray, List.set_cons_zero, List.set_cons_succ]
      refine wpAnyH_take (i := 5) (oi := ⟨_, _, _, _, _, _⟩) (v := ?_) rfl (by kernel_rfl) (by kernel_rfl) (by kernel_rfl) (fun _ _ _ h => h) (Or.inl ⟨by kernel_rfl, ?_⟩) (by assumption) ?_
      rotate_left
      · (intro w hSw; (try dsimp only at hSw); go_simp; (try simp only [wL]); first | done | with_reducible rfl)
      simp only [Act.put, List.setIfInBounds_toArray, List.set_cons_zero, List.set_cons_succ]
      refine wpAnyH_take (i := 6) (oi := ⟨_, _, _, _, _, _⟩) (v := ?_) rfl (by kernel_rfl) (by kernel_rfl) (by kernel_rfl) (fun _ _ _ h => h) (Or.inl ⟨by kernel_rfl, ?_⟩) (by assumption) ?_
      rotate_left
      · (intro w hSw; (try dsimp only at hSw); go_simp; (try simp only [Int.toNat_natCast]); first | done | with_reducible rfl)
      simp only [Act.put, List.setIfInBounds_toArray, List.set_cons_zero, List.set_cons_succ]
      refine wpAnyH_take (i := 7) (oi := ⟨_, _, _, _, _, _⟩) (v := ?_) rfl (by kernel_rfl) (by kernel_rfl) (by kernel_rfl) (fun _ _ _ h => h) (Or.inl ⟨by kernel_rfl, ?_⟩) (by assumption) ?_
      rotate_left
      · (intro w hSw; (try dsimp only at hSw); have cv := HCVL.out G4 cap4 _ hSw.1; go_simp; first | done | with_reducible rfl)
      simp only [Act.put, List.setIfInBounds_toArray, List.set_cons_zero, List.set_cons_succ]
      refine wpAnyH_take (i := 8) (oi := ⟨_, _, _, _, _, _⟩) (v := ?_) rfl (by kernel_rfl) (by kernel_rfl) (by kernel_rfl) (fun _ _ _ h => h) (Or.inl ⟨by kernel_rfl, ?_⟩) (by assumption) ?_
      rotate_left
      · (intro w hSw; (try dsimp only at hSw); go_simp; first | done | with_reducible rfl)
      simp only [Act.put, List.setIfInBounds_toArray, List.set_cons_zero, List.set_cons_succ]
      refine wpAnyH_take (i := 9) (oi := ⟨_, _, _, _, _, _⟩) (v := ?_) rfl (by kernel_rfl) (by kernel_rfl) (by kernel_rfl) (fun _ _ _ h => h) (Or.inl ⟨by kernel_rfl, ?_⟩) (by assumption) ?_
      rotate_left
      · (intro w hSw; (try dsimp only at hSw); go_simp; first | done | with_reducible rfl)
      simp only [Act.put, List.setIfInBounds_toArray, List.set_cons_zero, List.set_cons_succ]
      refine wpAnyH_take (i := 10) (oi := ⟨_, _, _, _, _, _⟩) (v := ?_) rfl (by kernel_rfl) (by kernel_rfl) (by kernel_rfl) (fun _ _ _ h => h) (Or.inl ⟨by kernel_rfl, ?_⟩) (by assumption) ?_
      rotate_left
      · (intro w hSw; (try dsimp only at hSw); go_simp; first | done | with_reducible rfl)
      simp only [Act.put, List.setIfInBounds_toArray, List.set_cons_zero, List.set_cons_succ]
      refine wpAnyH_take (i := 11) (oi := ⟨_, _, _, _, _, _⟩) (v := ?_) rfl (by kernel_rfl) (by kernel_rfl) (by kernel_rfl) (fun _ _ _ h => h) (Or.inl ⟨by kernel_rfl, ?_⟩) (by assumption) ?_
      rotate_left
      · (intro w hSw; (try dsimp only at hSw); go_simp; (try simp only [wL]); first | done | with_reducible rfl)
      simp only [Act.put, List.setIfInBounds_toArray, List.set_cons_zero, List.set_cons_succ]
      refine wpAnyH_take (i := 12) (oi := ⟨_, _, _, _, _, _⟩) (v := ?_) rfl (by kernel_rfl) (by kernel_rfl) (by kernel_rfl) (fun _ _ _ h => h) (Or.inl ⟨by kernel_rfl, ?_⟩) (by assumption) ?_
      rotate_left
      · (intro w hSw; (try dsimp only at hSw); go_simp; (try simp only [Int.toNat_natCast]); first | done | with_reducible rfl)
      simp only [Act.put, List.setIfInBounds_toArray, List.set_cons_zero, List.set_cons_succ]
      refine wpAnyH_take (i := 13) (oi := ⟨_, _, _, _, _, _⟩) (v := ?_) rfl (by kernel_rfl) (by kernel_rfl) (by kernel_rfl) (fun _ _ _ h => h) (Or.inl ⟨by kernel_rfl, ?_⟩) (by assumption) ?_
      rotate_left
      · (intro w hSw; (try dsimp only at hSw); have cv := HCVL.out G3 cap3 _ hSw.2; go_simp; first | done | with_reducible rfl)
      simp only [Act.put, List.setIfInBounds_toArray, List.set_cons_zero, List.set_cons_succ]
      refine wpAnyH_take (i := 14) (oi := ⟨_, _, _, _, _, _⟩) (v := ?_) rfl (by kernel_rfl) (by kernel_rfl) (by kernel_rfl) (fun _ _ _ h => h) (Or.inl ⟨by kernel_rfl, ?_⟩) (by assumption) ?_
      rotate_left
      · (intro w hSw; (try dsimp only at hSw); go_simp; first | done | with_reducible rfl)
      simp only [Act.put, List.setIfInBounds_toArray, List.set_cons_zero, List.set_cons_succ]
      refine wpAnyH_take (i := 15) (oi := ⟨_, _, _, _, _, _⟩) (v := ?_) rfl (by kernel_rfl) (by kernel_rfl) (by kernel_rfl) (fun _ _ _ h => h) (Or.inl ⟨by kernel_rfl, ?_⟩) (by assumption) ?_
      rotate_left
      · (intro w hSw; (try dsimp only at hSw); go_simp; first | done | with_reducible rfl)
      simp only [Act.put, List.setIfInBounds_toArray, List.set_cons_zero, List.set_cons_succ]
      refine wpAnyH_take (i := 16) (oi := ⟨_, _, _, _, _, _⟩) (v := ?_) rfl (by kernel_rfl) (by kernel_rfl) (by kernel_rfl) (fun _ _ _ h => h) (Or.inl ⟨by kernel_rfl, ?_⟩) (by assumption) ?_
      rotate_left
      · (intro w hSw; (try dsimp only at hSw); go_simp; first | done | with_reducible rfl)
      simp only [Act.put, List.setIfInBounds_toArray, List.set_cons_zero, List.set_cons_succ]
      refine wpAnyH_done (by kernel_rfl) ?_ _
      clear hHeld hr4 hr3
      go_wp2
      go_ret
      exact ⟨rfl, HBT.out.drew⟩
end Go.Proofs.Ytolbahfbhcpgdaa
end
