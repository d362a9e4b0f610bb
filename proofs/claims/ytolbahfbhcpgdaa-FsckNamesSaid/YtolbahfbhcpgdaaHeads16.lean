/- Part of the road to HeadsRow: FRep, LawW, LawH, LawZ, Row0. -/
import Derived.Deep.RegionHeld3
import Derived.Test.YtolbahfbhcpgdaaRows
import Derived.WalkKit
import Derived.ProofKit
import Derived.OpenShut
import Derived.Below
import Derived.ChangeSame
import Derived.Test.YtolbahfbhcpgdaaHeads15
import Derived.Test.YtolbahfbhcpgdaaHeads10
set_option linter.all false
set_option linter.unusedSimpArgs false
set_option linter.unusedVariables false
set_option linter.unusedSectionVars false
section
/- fsck.Repair. -/
namespace Go.Proofs.Ytolbahfbhcpgdaa
open Go.RowKit

theorem frep_c (g : Geo) (b o N cap d : Nat) (f : Nat → Nat) (w : World) (hg : g = supG f) (hr : RdB w b o N f) (hf : ∀ k, f k < 256) (hN : N = g.total * 1024) (hcap : N ≤ cap) (hcb : cap ≤ 9223372036854775807) (hof : ofOk f N = true) (hR : RepOk g f d) :
    Calls Try.prog 9 #[.slice (some ⟨b, o, none⟩) N cap] w fun e w' => ∃ G capo v, e = .returned (.tuple #[.slice (some ⟨G, 0, none⟩) N capo, v, .bool true]) ∧
      w'.ownsRow w.heap.size 5 1 (.slice (some ⟨G, 0, none⟩) N capo) N (bytesL (repO g f d) N) ∧
      w'.ownsRow w.heap.size 3 1 v (unlike f (repO g f d) g.total).length ((unlike f (repO g f d) g.total).map fun n => .int .i64 (n : Nat)) ∧ Below w.heap.size w w' := by
  have R := rep_c g b o N cap d f w hg hr hf hN hcap hcb hof hR
  have HR := Lib.hid R
  clear R hg hr hf hN hcap hcb hof hR
  go_enter Try.func9, Try.ntmps9
  go_wp2_with (go_at_call 17; refine HR.out.mono ?_; rintro e w1 ⟨G, capo, v, rfl, h1, h2, h3⟩; have H1 := Lib.hid h1; have H2 := Lib.hid h2; have H3 := Lib.hid h3; clear h1 h2 h3)
  go_ret3
  exact ⟨G, capo, v, rfl, H1.out, H2.out, H3.out⟩

theorem rep_no (b o N cap : Nat) (f : Nat → Nat) (w : World) (hr : RdB w b o N f) (hf : ∀ k, f k < 256) (hN : 1024 ≤ N) (hcap : N ≤ cap) (hcb : cap ≤ 9223372036854775807) (hof : ofOk f N = false) :
    Calls Try.prog 17 #[.slice (some ⟨b, o, none⟩) N cap] w fun e w' => e = .returned (.tuple #[.slice none 0 0, .slice none 0 0, .bool false]) ∧ Below w.heap.size w w' := by
  have OF := of_c b o N cap f hf w hr hN hcap hcb
  have HOF := Lib.hid OF; have HO := Lib.hid hof
  clear OF hr hof
  go_enter Try.func17, Try.ntmps17
  go_wp2_with (go_at_call 28; refine HOF.out.mono ?_; rintro e w1 ⟨-, h2, hb1⟩; obtain rfl := h2 HO.out; obtain ⟨hc1, hf1⟩ := bcell hb1; have hz1 := hb1.size)
  go_ret3
  exact ⟨rfl, hb1.alloc hz1 _⟩
theorem frep_no (b o N cap : Nat) (f : Nat → Nat) (w : World) (hr : RdB w b o N f) (hf : ∀ k, f k < 256) (hN : 1024 ≤ N) (hcap : N ≤ cap) (hcb : cap ≤ 9223372036854775807) (hof : ofOk f N = false) :
    Calls Try.prog 9 #[.slice (some ⟨b, o, none⟩) N cap] w fun e w' => e = .returned (.tuple #[.slice none 0 0, .slice none 0 0, .bool false]) ∧ Below w.heap.size w w' := by
  have R := rep_no b o N cap f w hr hf hN hcap hcb hof
  have HR := Lib.hid R
  clear R hr hof
  go_enter Try.func9, Try.ntmps9
  go_wp2_with (go_at_call 17; refine HR.out.mono ?_; rintro e w1 ⟨rfl, h1⟩)
  go_ret3
  exact ⟨rfl, h1⟩

theorem same_c (g cap B cb : Nat) (w : World) (hv : w.cell? ⟨g, 0, none⟩ = some (.int .i64 2)) (hB : w.cell? ⟨B, 0, none⟩ = some (.int .i64 2)) :
    Calls Try.prog 14 #[.slice (some ⟨g, 0, none⟩) 1 cap, .slice (some ⟨B, 0, none⟩) 1 cb] w fun e w' => e = .returned (.bool true) ∧ Below w.heap.size w w' := by
  go_enter Try.func14, Try.ntmps14
  go_wp2
  go_loopw [5] (fun i wr => (i = .int .i64 0 ∧ wr = w) ∨ (i = .int .i64 1 ∧ ∃ q, wr = w.drewN q)) (fun i _ => 1 - (intOf i).toNat)
  case atStart => exact .inl ⟨rfl, rfl⟩
  case round =>
    rcases hrel with ⟨rfl, hw⟩ | ⟨rfl, q, rfl⟩
    · obtain rfl := hw.symm
      go_wp2
      go_quiet (fail)
      go_wp2
      go_roundw
      case rel => exact .inr ⟨rfl, _, rfl⟩
      case measure => simp [intOf]
    · go_wp2
      go_ret
      exact ⟨rfl, bdrewN (Below.refl _ _) _⟩
end Go.Proofs.Ytolbahfbhcpgdaa
end

section
/- Repair at the statements' images; the example of the document. -/
namespace Go.Proofs.Ytolbahfbhcpgdaa
open Go.RowKit

theorem lrep0_c {m n N : Nat} {h : Nat → Nat} (hn : n ≤ 9) (hm : n < m) (h8 : 8 ≤ m) (h1000 : m ≤ 1000) (hN : N = (3 + m) * 1024) (L : Like m n h) (W : World) (base G cap : Nat) (ho : W.ownsRow base 5 1 (.slice (some ⟨G, 0, none⟩) N cap) N (bytesL h N)) :
    Calls Try.prog 9 #[.slice (some ⟨G, 0, none⟩) N cap] W fun e w' => ∃ G' cap' v, e = .returned (.tuple #[.slice (some ⟨G', 0, none⟩) N cap', v, .bool true]) ∧
      w'.ownsRow W.heap.size 5 1 (.slice (some ⟨G', 0, none⟩) N cap') N (bytesL (repO (geo1 m) h 3) N) ∧
      w'.ownsRow W.heap.size 3 1 v (unlike h (repO (geo1 m) h 3) (3 + m)).length ((unlike h (repO (geo1 m) h 3) (3 + m)).map fun n => .int .i64 (n : Nat)) ∧ Below W.heap.size W w' := by
  obtain ⟨s1, s2⟩ := L.supOk h8 h1000
  obtain ⟨l1, l2, l3, l4⟩ := own_len ho
  unfold maxLen at l4
  have et : (geo1 m).total = 3 + m := by show 1 + 1 * (1 + 1 + m) = 3 + m; omega
  have := frep_c (geo1 m) G 0 N cap 3 h W s1.symm (own_rdB ho) L.byte (by rw [et]; exact hN) l3 (by omega) (by rw [hN]; exact L.ofOk h8 h1000) (L.ok hn hm h8 h1000)
  rw [et] at this
  exact this
theorem lrep_c {m n N : Nat} {h : Nat → Nat} (hn : n ≤ 9) (hm : n < m) (h8 : 8 ≤ m) (h1000 : m ≤ 1000) (hN : N = (3 + m) * 1024) (hhd : ∀ k, k < 1024 → headP (geo1 m) (fun i => decide (i < n + 1)) (fun i => decide (i < n + 1)) k = trF m n (1024 + k)) (L : Like m n h) (hi : ∀ q, 4096 ≤ q → q < N → h q = trF m n q)
    (W : World) (base G cap : Nat) (ho : W.ownsRow base 5 1 (.slice (some ⟨G, 0, none⟩) N cap) N (bytesL h N)) :
    Calls Try.prog 9 #[.slice (some ⟨G, 0, none⟩) N cap] W fun e w' => ∃ G' cap' v, e = .returned (.tuple #[.slice (some ⟨G', 0, none⟩) N cap', v, .bool true]) ∧
      w'.ownsRow W.heap.size 5 1 (.slice (some ⟨G', 0, none⟩) N cap') N (bytesL (trF m n) N) ∧
      w'.ownsRow W.heap.size 3 1 v (unlike h (trF m n) (3 + m)).length ((unlike h (trF m n) (3 + m)).map fun n => .int .i64 (n : Nat)) ∧ Below W.heap.size W w' := by
  have e0 : ∀ q, q < N → repO (geo1 m) h 3 q = trF m n q := fun q hq => by
    by_cases h4 : q < 4096
    · exact L.lo hn hm hhd q h4
    · rw [L.hi q (by omega)]; exact hi q (by omega) hq
  have e1 : bytesL (repO (geo1 m) h 3) N = bytesL (trF m n) N := bytesL_congr e0
  have e2 : unlike h (repO (geo1 m) h 3) (3 + m) = unlike h (trF m n) (3 + m) := unlike_congr (fun k hk => e0 k (by omega))
  have := lrep0_c hn hm h8 h1000 hN L W base G cap ho
  rw [e1, e2] at this
  exact this

/-! ### the example -/
def exF : Nat → Nat := fun q => if q = 2050 then 1 else mkF 8 q
theorem exF_like : Like 8 0 exF := by
  refine like_of (m := 8) (n := 0) (by decide) (fun k => ?_) (fun k hk => ?_) (fun _ => 1) (fun _ => by decide) (fun x hx k hk => ?_) (fun j h1 h2 => by omega) (fun j h1 h2 => ?_)
  · unfold exF; split
    · decide
    · exact mkF_lt 8 k
  · unfold exF; rw [if_neg (by omega)]; exact trF_sup 8 0 (by decide) k hk
  · obtain rfl : x = 0 := by omega
    unfold exF
    by_cases h2 : k = 2
    · subst h2; rw [if_pos rfl, (withL_2 _ _).1]
    · rw [if_neg (by omega)]
      have := trF_row 8 0 (by decide) 0 (by decide) k hk
      rw [if_pos (Nat.le_refl _)] at this
      rw [show mkF 8 (2048 + 64 * 0 + k) = trF 8 0 (2048 + 64 * 0 + k) from rfl, this]
      by_cases h3 : k = 3
      · subst h3; rw [(withL_2 _ _).2]; rfl
      · rw [withL_far _ _ _ h2 h3]
  · rw [rootE_no (m := 8) (n := 0) (by decide) h1 h2 (fun k hk => by unfold exF; rw [if_neg (by omega)]; rfl)]
    exact gone_zero 8 0 _
theorem exF_unlike : unlike exF (trF 8 0) 11 = [2] := by
  rw [unlike_of (fun k => decide (k = 2)) (fun k hk hp j hj => ?_) (fun k hk hp => ?_)]
  · rfl
  · have hk2 : k ≠ 2 := by simpa using hp
    unfold exF; rw [if_neg (by omega)]; rfl
  · have hk2 : k = 2 := by simpa using hp
    subst hk2
    refine ⟨2, by decide, ?_⟩
    have := trF_row 8 0 (by decide) 0 (by decide) 2 (by decide)
    rw [if_pos (Nat.le_refl _)] at this
    rw [show trF 8 0 (2 * 1024 + 2) = trF 8 0 (2048 + 64 * 0 + 2) from rfl, this]
    unfold exF
    rw [if_pos (by decide)]
    have h2 : inoF (treeI 0) 2 = 2 := rfl
    rw [h2]; decide
theorem ofOk_odd {f : Nat → Nat} {N : Nat} (h : N % 1024 ≠ 0) : ofOk f N = false := by
  unfold ofOk
  rw [decide_eq_false (p := N = (supG f).total * 1024) (fun e => h (by omega)), Bool.and_false, Bool.and_false]

set_option maxRecDepth 100000 in
set_option maxHeartbeats 4000000 in
theorem alive_c (w : World) : Calls Try.prog 7 #[] w fun e w' => e = .returned (.bool true) ∧ Below w.heap.size w w' := by
  have MK := fun W => mkfs_c 8 (by decide) (by decide) W
  have RP := fun W base G cap ho => lrep_c (m := 8) (n := 0) (N := 11264) (h := exF) (by decide) (by decide) (by decide) (by decide) (by decide) (fun k hk => head_8 ⟨k, hk⟩) exF_like (fun q h1 h2 => by unfold exF; rw [if_neg (by omega)]; rfl) W base G cap ho
  rw [show 3 + 8 = 11 from rfl, exF_unlike] at RP
  have HMK := Lib.hid MK; have HRP := Lib.hid RP
  clear MK RP
  go_enter Try.func7, Try.ntmps7
  go_wp2_with (first
    | (go_at_call 13; refine (HMK.out _).mono ?_; rintro e w1 ⟨G, cap, rfl, ho1, hb1⟩; obtain ⟨p1, p2⟩ := own_get ho1 (i := 2050) (by decide); obtain ⟨l1, l2, l3, l4⟩ := own_len ho1; unfold maxLen at l4; have HO1 := Lib.hid ho1; have HB1 := Lib.hid hb1; clear ho1 hb1)
    | fail)
  have o1 : (w1.setCell ⟨G, 2050, none⟩ (.int .u8 1)).ownsRow w.heap.size 5 1 (.slice (some ⟨G, 0, none⟩) 11264 cap) 11264 (bytesL exF 11264) := own_set HO1.out (i := 2050) (by decide) 1 rfl
  have hBs : Below w.heap.size w (w1.setCell ⟨G, 2050, none⟩ (.int .u8 1)) := HB1.out.setCell (p := ⟨G, 2050, none⟩) l1 _
  refine (HRP.out _ _ G cap o1).mono ?_
  rintro e w2 ⟨G2, cap2, v, rfl, ho2, hv2, hb2⟩
  obtain ⟨gw, capw, rfl, hcw, hcell⟩ := own_one hv2
  have hB2 := hBs.trans (hb2.mono hBs.size)
  have r2 := ((own_rdB o1).below hb2).sub 1 11263 (by decide)
  have hgl := (own_len o1).2.1
  have NO := frep_no G 1 11263 (cap - 1) (fun k => exF (1 + k)) w2 r2 (fun k => exF_like.byte _) (by decide) (by omega) (by omega) (ofOk_odd (by decide))
  have lgw := lt_of_cell hcell
  have HNO := Lib.hid NO; have HB2 := Lib.hid hB2
  have hc1 : (1 : Int) ≤ (cap : Int) := by omega
  have hcn : ¬ cap = 1 := by omega
  clear o1 hBs ho2 hv2 hb2 r2 NO hB2 p1 p2
  go_wp2_with (first
    | (go_at_call 9; refine HNO.out.mono ?_; rintro e w3 ⟨rfl, hb3⟩; obtain ⟨hc3, hf3⟩ := bcell hb3; have hz3 := hb3.size))
  have c3 : (w3.alloc (.cells #[.int .i64 2] 3)).cell? ⟨gw, 0, none⟩ = some (.int .i64 2) := by
    rw [World.cell?_of_block (w := w3) (Below.heap_alloc _ _ _ (by show gw < w3.heap.size; omega))]; exact (hc3 gw 0 lgw).trans hcell
  refine (same_c gw capw w3.heap.size 1 _ c3 ((Blk.newL (e := 3) (w := w3) [.int .i64 2]).cell 0)).mono ?_
  rintro e w4 ⟨rfl, hb4⟩
  go_wp2
  go_ret
  have hB2 := HB2.out
  have hB3 := hB2.trans (hb3.mono hB2.size)
  exact ⟨rfl, (hB3.alloc hB3.size _).trans (hb4.mono (by have := hB3.size; simp; omega))⟩
end Go.Proofs.Ytolbahfbhcpgdaa
end

section
/- FsckHeads: the pure side, and the walk. -/
namespace Go.Proofs.Ytolbahfbhcpgdaa
open Go.RowKit

theorem like_heads {n : Nat} {h : Nat → Nat} (hn : n ≤ 9) (hb : ∀ k, h k < 256) (e : ∀ q, q < 1024 ∨ 2048 ≤ q → h q = trF 20 n q) : Like 20 n h := by
  refine like_of (m := 20) hn hb (fun k hk => ?_) (fun x => treeI x 1) (fun x => ?_) (fun x hx k hk => ?_) (fun j h1 h2 k hk => ?_) (fun j h1 h2 => ?_)
  · rw [e k (.inl hk)]; exact trF_sup 20 n (by omega) k hk
  · unfold treeI
    split
    · show (2 : Nat) < 65536; decide
    · show (1 : Nat) < 65536; decide
  · rw [e _ (.inr (by omega)), trF_row 20 n hn x (by omega) k hk, if_pos hx]
    exact (withL_same (treeI x) k).symm
  · rw [e _ (.inr (by omega)), trF_erow 20 n hn j (by omega) k hk, entN_file n j h1 h2]
  · rw [rootE_no (m := 20) hn h1 h2 (fun k hk => e _ (.inr (by omega)))]
    exact gone_zero 20 n _
/-- a string out of the Tree's bytes -/
theorem conv_tree (G cap n : Nat) (hn : n ≤ 9) (W : World) (hr : RdB W G 0 23552 (trF 20 n)) : (Go.convert 22 9 (.slice (some ⟨G, 0, none⟩) 23552 cap)).run Try.prog W = .ok (.string (strOf (trF 20 n) 23552)) W :=
  conv_str (P := Try.prog) W 22 9 5 G 0 23552 cap (trF 20 n) (trF_lt 20 n (by omega)) hr Try.underlying22 Try.underlying5 Try.underlying9

set_option maxRecDepth 100000 in
set_option maxHeartbeats 4000000 in
theorem heads_no (n a : Int) (v : Value) (A : Option Addr) (l c : Nat) (hv : v = .slice A l c) (w : World) (hbad : n < 0 ∨ 9 < n ∨ a < 0 ∨ 1023 < a ∨ 1024 < l) : Calls Try.prog 3 #[.int .i64 n, .int .i64 a, v] w fun e w' => e = .returned (.bool true) ∧ Below w.heap.size w w' := by
  subst hv
  have AL := alive_c
  have HAL := Lib.hid AL
  clear AL
  by_cases h1 : n < 0
  · have d1 : decide (n < 0) = true := by simpa using h1
    clear hbad h1
    go_enter Try.func3, Try.ntmps3
    go_wp2_with (go_at_call 7; refine (HAL.out _).mono ?_; rintro e w1 ⟨rfl, hb1⟩)
    go_ret
    exact ⟨rfl, hb1⟩
  · have d1 : decide (n < 0) = false := by simpa using h1
    by_cases h2 : 9 < n
    · have d2 : decide (9 < n) = true := by simpa using h2
      clear hbad h1 h2
      go_enter Try.func3, Try.ntmps3
      go_wp2_with (go_at_call 7; refine (HAL.out _).mono ?_; rintro e w1 ⟨rfl, hb1⟩)
      go_ret
      exact ⟨rfl, hb1⟩
    · have d2 : decide (9 < n) = false := by simpa using h2
      by_cases h3 : a < 0
      · have d3 : decide (a < 0) = true := by simpa using h3
        clear hbad h1 h2 h3
        go_enter Try.func3, Try.ntmps3
        go_wp2_with (go_at_call 7; refine (HAL.out _).mono ?_; rintro e w1 ⟨rfl, hb1⟩)
        go_ret
        exact ⟨rfl, hb1⟩
      · have d3 : decide (a < 0) = false := by simpa using h3
        by_cases h4 : 1023 < a
        · have d4 : decide (1023 < a) = true := by simpa using h4
          clear hbad h1 h2 h3 h4
          go_enter Try.func3, Try.ntmps3
          go_wp2_with (go_at_call 7; refine (HAL.out _).mono ?_; rintro e w1 ⟨rfl, hb1⟩)
          go_ret
          exact ⟨rfl, hb1⟩
        · have d4 : decide (1023 < a) = false := by simpa using h4
          have h5 : 1024 < l := by omega
          have d5 : decide (1024 < l) = true := by simpa using h5
          have d6 : decide ((1024 : Int) < (l : Int)) = true := by simp; omega
          clear hbad h1 h2 h3 h4
          go_enter Try.func3, Try.ntmps3
          go_wp2_with (go_at_call 7; refine (HAL.out _).mono ?_; rintro e w1 ⟨rfl, hb1⟩)
          go_ret
          exact ⟨rfl, hb1⟩

set_option maxRecDepth 100000 in
set_option maxHeartbeats 8000000 in
theorem heads_yes (n a jb jo jl jc : Nat) (jf : Nat → Nat) (w : World) (hn : n ≤ 9) (ha : a ≤ 1023) (hl : jl ≤ 1024) (hjf : ∀ k, jf k < 256) (hj : RdB w jb jo jl jf) : Calls Try.prog 3 #[.int .i64 n, .int .i64 a, .slice (some ⟨jb, jo, none⟩) jl jc] w fun e w' => e = .returned (.bool true) ∧ Below w.heap.size w w' := by
  have AL := alive_c
  have TR := tree_c n hn
  obtain ⟨m, hm⟩ : ∃ m, m = min jl (1024 - a) := ⟨_, rfl⟩
  have hm1 : m ≤ jl ∧ a + m ≤ 1024 := by omega
  obtain ⟨hm1, hm2⟩ := hm1
  obtain ⟨h, hh⟩ : ∃ h, h = putF (trF 20 n) (1024 + a) m jf := ⟨_, rfl⟩
  have hlk : Like 20 n h := by
    rw [hh]
    refine like_heads hn (putF_lt (trF_lt 20 n (by omega)) hjf) (fun q hq => ?_)
    unfold putF; rw [if_neg (by omega)]
  have RP := fun W base G cap ho => lrep_c (m := 20) (n := n) (N := 23552) (h := h) hn (by omega) (by decide) (by decide) (by decide) (fun k hk => head_20 ⟨n, by omega⟩ ⟨k, hk⟩) hlk (fun q h1 h2 => by rw [hh]; unfold putF; rw [if_neg (by omega)]) W base G cap ho
  have hul : (unlike h (trF 20 n) (3 + 20)).length ≤ 1 := unlike_one 1 (fun k hk hk1 j hj => by rw [hh]; unfold putF; rw [if_neg (by omega)])
  obtain ⟨ul, hul2⟩ : ∃ l, l = unlike h (trF 20 n) (3 + 20) := ⟨_, rfl⟩
  rw [← hul2] at RP hul
  have CV := fun G cap W hr => conv_tree G cap n hn W hr
  obtain ⟨ST, hST⟩ : ∃ s, s = strOf (trF 20 n) 23552 := ⟨_, rfl⟩
  simp only [← hST] at CV
  have gk : ∀ W : World, Blk 25 (W.alloc (.cells #[.int .i64 1, .int .i64 1, .int .i64 20] 25)) W.heap.size [.int .i64 1, .int .i64 1, .int .i64 20] := fun W => Blk.newL _
  have HAL := Lib.hid AL; have HTR := Lib.hid TR; have HRP := Lib.hid RP; have HCV := Lib.hid CV; have HJ := Lib.hid hj; have HH := Lib.hid hh; have HM := Lib.hid hm; have HGK := Lib.hid gk
  have d4 : decide ((1024 : Int) < (jl : Int)) = false := by simp; omega
  clear AL TR RP CV hj hh hm hul2 hST gk hlk
  go_enter Try.func3, Try.ntmps3
  go_wp2_with (first
    | (go_at_call 7; refine (HAL.out _).mono ?_; rintro e w1 ⟨rfl, hb1⟩; have HB1 := Lib.hid hb1; have hz1 := hb1.size; have k1 := HGK.out w1; have c0 := k1.cell 0; have c1 := k1.cell 1; have c2 := k1.cell 2; simp only [List.getElem?_cons_zero, List.getElem?_cons_succ] at c0 c1 c2; have HK1 := Lib.hid k1; clear hb1 k1)
    | (go_at_call 8; refine (HTR.out _).mono ?_; rintro e w2 ⟨G, cap, rfl, ho2, hb2⟩; obtain ⟨l1, l2, l3, l4⟩ := own_len ho2; unfold maxLen at l4; have hz2 := hb2.size; have HO2 := Lib.hid ho2; have HB2 := Lib.hid hb2; clear ho2 hb2; have hBw2 : Below w.heap.size w w2 := ((HB1.out.alloc hz1 _).trans (HB2.out.mono (by simp; omega))); have HBW2 := Lib.hid hBw2; have HJ2 := Lib.hid (HJ.out.below hBw2); clear hBw2)
    | (refine copy_own rfl _ _ 22 22 rfl 5 Try.underlying22 (by kernel_rfl) G (1024 + a) (2048 - (1024 + a)) (cap - (1024 + a)) jb jo jl jc (by rfl) (by rfl) _ 5 23552 cap (trF 20 n) jf HO2.out (by omega) m (by have h0 := HM.out; show m = min jl (2048 - (1024 + a)); omega) (fun q hq => HJ2.out q (by omega)) (by omega) ?_; intro w3 ho3 hm3; rw [← HH.out] at ho3; have hz3 := hm3.size; have HO3 := Lib.hid ho3; have HM3 := Lib.hid hm3; clear ho3 hm3)
    | (go_at_call 9; refine (HRP.out _ _ _ _ HO3.out).mono ?_; rintro e w4 ⟨G4, cap4, v4, rfl, ho4, hv4, hb4⟩; obtain ⟨A5, cap5, rfl⟩ := own_slice hv4; have hz4 := hb4.size; have HO4 := Lib.hid ho4; have HB4 := Lib.hid hb4; clear ho4 hv4 hb4))
  have lw1 : w1.heap.size < w2.heap.size := by simp at hz2; omega
  have lG1 : w1.heap.size < G := by simp at l1; omega
  have hk2 := HK1.out.below HB2.out (by simp)
  have hk3 := hk2.mods HM3.out (fun e => by omega)
  have hk4 := hk3.below HB4.out hk3.lt
  have hr4 := own_rdB HO4.out
  have hBw3 := Below.mods HBW2.out HM3.out (fun i hi e => by omega) (by omega)
  have hBw4 := hBw3.trans (HB4.out.mono hBw3.size)
  have lk4 := hk4.lt
  have lG4 := (own_len HO4.out).2.1
  have d9 : decide ((ul.length : Int) ≤ 1) = true := by simp; omega
  have d10 : (ul.length : Int) ≤ 1 := by omega
  have g0 := hk4.cell 0; have g1 := hk4.cell 1; have g2 := hk4.cell 2
  simp only [List.getElem?_cons_zero, List.getElem?_cons_succ] at g0 g1 g2
  have HBW4 := Lib.hid hBw4
  clear hk2 hk3 hBw3 hBw4 c0 c1 c2 hul
  refine wp_region_held_drew (S := (fun w' => w'.cell? ⟨w1.heap.size, 0, none⟩ = some (.int .i64 1) ∧ w'.cell? ⟨w1.heap.size, 1, none⟩ = some (.int .i64 1) ∧ w'.cell? ⟨w1.heap.size, 2, none⟩ = some (.int .i64 20) ∧ RdB w' G4 0 23552 (trF 20 n))) (by kernel_rfl) ⟨g0, g1, g2, hr4.below (Below.refl _ _).drew⟩ (fun hHeld => ?_)
  refine wpAnyH_take (i := 0) (oi := ⟨_, _, _, _, _, _⟩) (v := ?_) rfl (by kernel_rfl) (by kernel_rfl) (by kernel_rfl) (fun _ _ _ h => h) (Or.inl ⟨by kernel_rfl, ?_⟩) (by assumption) ?_
  rotate_left
  · (intro w hSw; (try dsimp only at hSw); go_simp; first | done | with_reducible rfl)
  simp only [Act.put, List.setIfInBounds_toArray, List.set_cons_zero, List.set_cons_succ]
  refine wpAnyH_take (i := 1) (oi := ⟨_, _, _, _, _, _⟩) (v := ?_) rfl (by kernel_rfl) (by kernel_rfl) (by kernel_rfl) (fun _ _ _ h => h) (Or.inl ⟨by kernel_rfl, ?_⟩) (by assumption) ?_
  rotate_left
  · (intro w hSw; (try dsimp only at hSw); go_simp; first | done | with_reducible rfl)
  simp only [Act.put, List.setIfInBounds_toArray, List.set_cons_zero, List.set_cons_succ]
  refine wpAnyH_take (i := 2) (oi := ⟨_, _, _, _, _, _⟩) (v := ?_) rfl (by kernel_rfl) (by kernel_rfl) (by kernel_rfl) (fun _ _ _ h => h) (Or.inl ⟨by kernel_rfl, ?_⟩) (by assumption) ?_
  rotate_left
  · (intro w hSw; (try dsimp only at hSw); go_simp; first | done | with_reducible rfl)
  simp only [Act.put, List.setIfInBounds_toArray, List.set_cons_zero, List.set_cons_succ]
  refine wpAnyH_take (i := 3) (oi := ⟨_, _, _, _, _, _⟩) (v := ?_) rfl (by kernel_rfl) (by kernel_rfl) (by kernel_rfl) (fun _ _ _ h => h) (Or.inl ⟨by kernel_rfl, ?_⟩) (by assumption) ?_
  rotate_left
  · (intro w hSw; (try dsimp only at hSw); go_simp; first | done | with_reducible rfl)
  simp only [Act.put, List.setIfInBounds_toArray, List.set_cons_zero, List.set_cons_succ]
  refine wpAnyH_take (i := 4) (oi := ⟨_, _, _, _, _, _⟩) (v := ?_) rfl (by kernel_rfl) (by kernel_rfl) (by kernel_rfl) (fun _ _ _ h => h) (Or.inl ⟨by kernel_rfl, ?_⟩) (by assumption) ?_
  rotate_left
  · (intro w hSw; (try dsimp only at hSw); go_simp; first | done | with_reducible rfl)
  simp only [Act.put, List.setIfInBounds_toArray, List.set_cons_zero, List.set_cons_succ]
  refine wpAnyH_take (i := 5) (oi := ⟨_, _, _, _, _, _⟩) (v := ?_) rfl (by kernel_rfl) (by kernel_rfl) (by kernel_rfl) (fun _ _ _ h => h) (Or.inl ⟨by kernel_rfl, ?_⟩) (by assumption) ?_
  rotate_left
  · (intro w hSw; (try dsimp only at hSw); go_simp; first | done | with_reducible rfl)
  simp only [Act.put, List.setIfInBounds_toArray, List.set_cons_zero, List.set_cons_succ]
  refine wpAnyH_take (i := 6) (oi := ⟨_, _, _, _, _, _⟩) (v := ?_) rfl (by kernel_rfl) (by kernel_rfl) (by kernel_rfl) (fun _ _ _ h => h) (Or.inl ⟨by kernel_rfl, ?_⟩) (by assumption) ?_
  rotate_left
  · (intro w hSw; (try dsimp only at hSw); go_simp; first | done | with_reducible rfl)
  simp only [Act.put, List.setIfInBounds_toArray, List.set_cons_zero, List.set_cons_succ]
  refine wpAnyH_take (i := 7) (oi := ⟨_, _, _, _, _, _⟩) (v := ?_) rfl (by kernel_rfl) (by kernel_rfl) (by kernel_rfl) (fun _ _ _ h => h) (Or.inl ⟨by kernel_rfl, ?_⟩) (by assumption) ?_
  rotate_left
  · (intro w hSw; (try dsimp only at hSw); go_simp; first | done | with_reducible rfl)
  simp only [Act.put, List.setIfInBounds_toArray, List.set_cons_zero, List.set_cons_succ]
  refine wpAnyH_take (i := 8) (oi := ⟨_, _, _, _, _, _⟩) (v := ?_) rfl (by kernel_rfl) (by kernel_rfl) (by kernel_rfl) (fun _ _ _ h => h) (Or.inl ⟨by kernel_rfl, ?_⟩) (by assumption) ?_
  rotate_left
  · (intro w hSw; (try dsimp only at hSw); have cv := HCV.out G4 cap4 _ hSw.2.2.2; go_simp; first | done | with_reducible rfl)
  simp only [Act.put, List.setIfInBounds_toArray, List.set_cons_zero, List.set_cons_succ]
  refine wpAnyH_take (i := 9) (oi := ⟨_, _, _, _, _, _⟩) (v := ?_) rfl (by kernel_rfl) (by kernel_rfl) (by kernel_rfl) (fun _ _ _ h => h) (Or.inl ⟨by kernel_rfl, ?_⟩) (by assumption) ?_
  rotate_left
  · (intro w hSw; (try dsimp only at hSw); go_simp; first | done | with_reducible rfl)
  simp only [Act.put, List.setIfInBounds_toArray, List.set_cons_zero, List.set_cons_succ]
  refine wpAnyH_take (i := 10) (oi := ⟨_, _, _, _, _, _⟩) (v := ?_) rfl (by kernel_rfl) (by kernel_rfl) (by kernel_rfl) (fun _ _ _ h => h) (Or.inl ⟨by kernel_rfl, ?_⟩) (by assumption) ?_
  rotate_left
  · (intro w hSw; (try dsimp only at hSw); go_simp; first | done | with_reducible rfl)
  simp only [Act.put, List.setIfInBounds_toArray, List.set_cons_zero, List.set_cons_succ]
  refine wpAnyH_ready (rs := [11]) (by kernel_rfl) (by simp) ?_
  refine AllReadyH.cons rfl (fun K hK => ?_) AllReadyH.nil
  go_simp
  go_at_call 8
  refine (HTR.out _).mono ?_
  rintro e w5 ⟨G5, cap5, rfl, ho5, hb5⟩
  have hb5' : Below w4.heap.size w4 w5 := (Below.refl w4.heap.size w4).drew.trans hb5
  have hk5 := hk4.below hb5' lk4
  have hr5 := hr4.below hb5'
  have hs5 := own_rdB ho5
  go_simp
  refine hK.out _ _ ?_ (fun hHeld => ?_)
  · exact ⟨hk5.cell 0, hk5.cell 1, hk5.cell 2, hr5⟩
  clear hK K
  refine anyH_mono (fun w' => (w'.cell? ⟨w1.heap.size, 0, none⟩ = some (.int .i64 1) ∧ w'.cell? ⟨w1.heap.size, 1, none⟩ = some (.int .i64 1) ∧ w'.cell? ⟨w1.heap.size, 2, none⟩ = some (.int .i64 20) ∧ RdB w' G4 0 23552 (trF 20 n)) ∧ RdB w' G5 0 23552 (trF 20 n)) (fun w h => h.1) _ _ _ _ ?_
  replace hHeld : (fun w' => (w'.cell? ⟨w1.heap.size, 0, none⟩ = some (.int .i64 1) ∧ w'.cell? ⟨w1.heap.size, 1, none⟩ = some (.int .i64 1) ∧ w'.cell? ⟨w1.heap.size, 2, none⟩ = some (.int .i64 20) ∧ RdB w' G4 0 23552 (trF 20 n)) ∧ RdB w' G5 0 23552 (trF 20 n)) _ := ⟨hHeld, hs5⟩
  refine wpAnyH_take (i := 12) (oi := ⟨_, _, _, _, _, _⟩) (v := ?_) rfl (by kernel_rfl) (by kernel_rfl) (by kernel_rfl) (fun _ _ _ h => h) (Or.inl ⟨by kernel_rfl, ?_⟩) (by assumption) ?_
  rotate_left
  · (intro w hSw; (try dsimp only at hSw); have cv := HCV.out G5 cap5 _ hSw.2; go_simp; first | done | with_reducible rfl)
  simp only [Act.put, List.setIfInBounds_toArray, List.set_cons_zero, List.set_cons_succ]
  refine wpAnyH_take (i := 13) (oi := ⟨_, _, _, _, _, _⟩) (v := ?_) rfl (by kernel_rfl) (by kernel_rfl) (by kernel_rfl) (fun _ _ _ h => h) (Or.inl ⟨by kernel_rfl, ?_⟩) (by assumption) ?_
  rotate_left
  · (intro w hSw; (try dsimp only at hSw); go_simp; first | done | with_reducible rfl)
  simp only [Act.put, List.setIfInBounds_toArray, List.set_cons_zero, List.set_cons_succ]
  refine wpAnyH_take (i := 14) (oi := ⟨_, _, _, _, _, _⟩) (v := ?_) rfl (by kernel_rfl) (by kernel_rfl) (by kernel_rfl) (fun _ _ _ h => h) (Or.inl ⟨by kernel_rfl, ?_⟩) (by assumption) ?_
  rotate_left
  · (intro w hSw; (try dsimp only at hSw); go_simp; first | done | with_reducible rfl)
  simp only [Act.put, List.setIfInBounds_toArray, List.set_cons_zero, List.set_cons_succ]
  refine wpAnyH_take (i := 15) (oi := ⟨_, _, _, _, _, _⟩) (v := ?_) rfl (by kernel_rfl) (by kernel_rfl) (by kernel_rfl) (fun _ _ _ h => h) (Or.inl ⟨by kernel_rfl, ?_⟩) (by assumption) ?_
  rotate_left
  · (intro w hSw; (try dsimp only at hSw); go_simp; first | done | with_reducible rfl)
  simp only [Act.put, List.setIfInBounds_toArray, List.set_cons_zero, List.set_cons_succ]
  refine wpAnyH_done (by kernel_rfl) ?_ _
  have hBT := HBW4.out.trans (hb5'.mono HBW4.out.size)
  have HBT := Lib.hid hBT
  clear hHeld hk5 hr5 hs5 ho5 hb5 hb5' hr4 hk4 hBT
  go_wp2
  go_ret
  exact ⟨rfl, HBT.out⟩
end Go.Proofs.Ytolbahfbhcpgdaa
end

section
/- FsckHeads where junk has no bytes (its address may be whatever). -/
namespace Go.Proofs.Ytolbahfbhcpgdaa
open Go.RowKit

set_option maxRecDepth 100000 in
set_option maxHeartbeats 8000000 in
theorem heads_zero (n a jc : Nat) (A : Option Addr) (w : World) (hn : n ≤ 9) (ha : a ≤ 1023) : Calls Try.prog 3 #[.int .i64 n, .int .i64 a, .slice A 0 jc] w fun e w' => e = .returned (.bool true) ∧ Below w.heap.size w w' := by
  have AL := alive_c
  have TR := tree_c n hn
  obtain ⟨h, hh⟩ : ∃ h, h = trF 20 n := ⟨_, rfl⟩
  have hlk : Like 20 n h := by
    rw [hh]
    exact like_heads hn (trF_lt 20 n (by omega)) (fun q hq => rfl)
  have RP := fun W base G cap ho => lrep_c (m := 20) (n := n) (N := 23552) (h := h) hn (by omega) (by decide) (by decide) (by decide) (fun k hk => head_20 ⟨n, by omega⟩ ⟨k, hk⟩) hlk (fun q h1 h2 => by rw [hh]) W base G cap ho
  have hul : (unlike h (trF 20 n) (3 + 20)).length ≤ 1 := unlike_one 1 (fun k hk hk1 j hj => by rw [hh])
  obtain ⟨ul, hul2⟩ : ∃ l, l = unlike h (trF 20 n) (3 + 20) := ⟨_, rfl⟩
  rw [← hul2] at RP hul
  have CV := fun G cap W hr => conv_tree G cap n hn W hr
  obtain ⟨ST, hST⟩ : ∃ s, s = strOf (trF 20 n) 23552 := ⟨_, rfl⟩
  simp only [← hST] at CV
  have gk : ∀ W : World, Blk 25 (W.alloc (.cells #[.int .i64 1, .int .i64 1, .int .i64 20] 25)) W.heap.size [.int .i64 1, .int .i64 1, .int .i64 20] := fun W => Blk.newL _
  have HAL := Lib.hid AL; have HTR := Lib.hid TR; have HRP := Lib.hid RP; have HCV := Lib.hid CV; have HH := Lib.hid hh; have HGK := Lib.hid gk
  clear AL TR RP CV hh hul2 hST gk hlk
  go_enter Try.func3, Try.ntmps3
  go_wp2_with (first
    | (go_at_call 7; refine (HAL.out _).mono ?_; rintro e w1 ⟨rfl, hb1⟩; have HB1 := Lib.hid hb1; have hz1 := hb1.size; have k1 := HGK.out w1; have c0 := k1.cell 0; have c1 := k1.cell 1; have c2 := k1.cell 2; simp only [List.getElem?_cons_zero, List.getElem?_cons_succ] at c0 c1 c2; have HK1 := Lib.hid k1; clear hb1 k1)
    | (go_at_call 8; refine (HTR.out _).mono ?_; rintro e w2 ⟨G, cap, rfl, ho2, hb2⟩; obtain ⟨l1, l2, l3, l4⟩ := own_len ho2; unfold maxLen at l4; have hz2 := hb2.size; have HO2 := Lib.hid ho2; have HB2 := Lib.hid hb2; clear ho2 hb2; have hBw2 : Below w.heap.size w w2 := ((HB1.out.alloc hz1 _).trans (HB2.out.mono (by simp; omega))); have HBW2 := Lib.hid hBw2; clear hBw2)
    | (refine wpList_copy_nothing rfl _ _ 22 22 rfl 5 Try.underlying22 (by kernel_rfl) (some ⟨G, 1024 + a, none⟩) A (2048 - (1024 + a)) (cap - (1024 + a)) 0 jc (by rfl) (by rfl) (by show min 0 _ = 0; omega) ?_)
    | (go_at_call 9; refine (HRP.out _ _ _ _ (by rw [HH.out]; exact HO2.out)).mono ?_; rintro e w4 ⟨G4, cap4, v4, rfl, ho4, hv4, hb4⟩; obtain ⟨A5, cap5, rfl⟩ := own_slice hv4; have hz4 := hb4.size; have HO4 := Lib.hid ho4; have HB4 := Lib.hid hb4; clear ho4 hv4 hb4))
  have lw1 : w1.heap.size < w2.heap.size := by simp at hz2; omega
  have lG1 : w1.heap.size < G := by simp at l1; omega
  have hk2 := HK1.out.below HB2.out (by simp)
  have hk3 := hk2
  have hk4 := hk3.below HB4.out hk3.lt
  have hr4 := own_rdB HO4.out
  have hBw3 := HBW2.out
  have hBw4 := hBw3.trans (HB4.out.mono hBw3.size)
  have lk4 := hk4.lt
  have lG4 := (own_len HO4.out).2.1
  have d9 : decide ((ul.length : Int) ≤ 1) = true := by simp; omega
  have d10 : (ul.length : Int) ≤ 1 := by omega
  have g0 := hk4.cell 0; have g1 := hk4.cell 1; have g2 := hk4.cell 2
  simp only [List.getElem?_cons_zero, List.getElem?_cons_succ] at g0 g1 g2
  have HBW4 := Lib.hid hBw4
  clear hk2 hk3 hBw3 hBw4 c0 c1 c2 hul
  refine wp_region_held_drew (S := (fun w' => w'.cell? ⟨w1.heap.size, 0, none⟩ = some (.int .i64 1) ∧ w'.cell? ⟨w1.heap.size, 1, none⟩ = some (.int .i64 1) ∧ w'.cell? ⟨w1.heap.size, 2, none⟩ = some (.int .i64 20) ∧ RdB w' G4 0 23552 (trF 20 n))) (by kernel_rfl) ⟨g0, g1, g2, hr4.below (Below.refl _ _).drew⟩ (fun hHeld => ?_)
  refine wpAnyH_take (i := 0) (oi := ⟨_, _, _, _, _, _⟩) (v := ?_) rfl (by kernel_rfl) (by kernel_rfl) (by kernel_rfl) (fun _ _ _ h => h) (Or.inl ⟨by kernel_rfl, ?_⟩) (by assumption) ?_
  rotate_left
  · (intro w hSw; (try dsimp only at hSw); go_simp; first | done | with_reducible rfl)
  simp only [Act.put, List.setIfInBounds_toArray, List.set_cons_zero, List.set_cons_succ]
  refine wpAnyH_take (i := 1) (oi := ⟨_, _, _, _, _, _⟩) (v := ?_) rfl (by kernel_rfl) (by kernel_rfl) (by kernel_rfl) (fun _ _ _ h => h) (Or.inl ⟨by kernel_rfl, ?_⟩) (by assumption) ?_
  rotate_left
  · (intro w hSw; (try dsimp only at hSw); go_simp; first | done | with_reducible rfl)
  simp only [Act.put, List.setIfInBounds_toArray, List.set_cons_zero, List.set_cons_succ]
  refine wpAnyH_take (i := 2) (oi := ⟨_, _, _, _, _, _⟩) (v := ?_) rfl (by kernel_rfl) (by kernel_rfl) (by kernel_rfl) (fun _ _ _ h => h) (Or.inl ⟨by kernel_rfl, ?_⟩) (by assumption) ?_
  rotate_left
  · (intro w hSw; (try dsimp only at hSw); go_simp; first | done | with_reducible rfl)
  simp only [Act.put, List.setIfInBounds_toArray, List.set_cons_zero, List.set_cons_succ]
  refine wpAnyH_take (i := 3) (oi := ⟨_, _, _, _, _, _⟩) (v := ?_) rfl (by kernel_rfl) (by kernel_rfl) (by kernel_rfl) (fun _ _ _ h => h) (Or.inl ⟨by kernel_rfl, ?_⟩) (by assumption) ?_
  rotate_left
  · (intro w hSw; (try dsimp only at hSw); go_simp; first | done | with_reducible rfl)
  simp only [Act.put, List.setIfInBounds_toArray, List.set_cons_zero, List.set_cons_succ]
  refine wpAnyH_take (i := 4) (oi := ⟨_, _, _, _, _, _⟩) (v := ?_) rfl (by kernel_rfl) (by kernel_rfl) (by kernel_rfl) (fun _ _ _ h => h) (Or.inl ⟨by kernel_rfl, ?_⟩) (by assumption) ?_
  rotate_left
  · (intro w hSw; (try dsimp only at hSw); go_simp; first | done | with_reducible rfl)
  simp only [Act.put, List.setIfInBounds_toArray, List.set_cons_zero, List.set_cons_succ]
  refine wpAnyH_take (i := 5) (oi := ⟨_, _, _, _, _, _⟩) (v := ?_) rfl (by kernel_rfl) (by kernel_rfl) (by kernel_rfl) (fun _ _ _ h => h) (Or.inl ⟨by kernel_rfl, ?_⟩) (by assumption) ?_
  rotate_left
  · (intro w hSw; (try dsimp only at hSw); go_simp; first | done | with_reducible rfl)
  simp only [Act.put, List.setIfInBounds_toArray, List.set_cons_zero, List.set_cons_succ]
  refine wpAnyH_take (i := 6) (oi := ⟨_, _, _, _, _, _⟩) (v := ?_) rfl (by kernel_rfl) (by kernel_rfl) (by kernel_rfl) (fun _ _ _ h => h) (Or.inl ⟨by kernel_rfl, ?_⟩) (by assumption) ?_
  rotate_left
  · (intro w hSw; (try dsimp only at hSw); go_simp; first | done | with_reducible rfl)
  simp only [Act.put, List.setIfInBounds_toArray, List.set_cons_zero, List.set_cons_succ]
  refine wpAnyH_take (i := 7) (oi := ⟨_, _, _, _, _, _⟩) (v := ?_) rfl (by kernel_rfl) (by kernel_rfl) (by kernel_rfl) (fun _ _ _ h => h) (Or.inl ⟨by kernel_rfl, ?_⟩) (by assumption) ?_
  rotate_left
  · (intro w hSw; (try dsimp only at hSw); go_simp; first | done | with_reducible rfl)
  simp only [Act.put, List.setIfInBounds_toArray, List.set_cons_zero, List.set_cons_succ]
  refine wpAnyH_take (i := 8) (oi := ⟨_, _, _, _, _, _⟩) (v := ?_) rfl (by kernel_rfl) (by kernel_rfl) (by kernel_rfl) (fun _ _ _ h => h) (Or.inl ⟨by kernel_rfl, ?_⟩) (by assumption) ?_
  rotate_left
  · (intro w hSw; (try dsimp only at hSw); have cv := HCV.out G4 cap4 _ hSw.2.2.2; go_simp; first | done | with_reducible rfl)
  simp only [Act.put, List.setIfInBounds_toArray, List.set_cons_zero, List.set_cons_succ]
  refine wpAnyH_take (i := 9) (oi := ⟨_, _, _, _, _, _⟩) (v := ?_) rfl (by kernel_rfl) (by kernel_rfl) (by kernel_rfl) (fun _ _ _ h => h) (Or.inl ⟨by kernel_rfl, ?_⟩) (by assumption) ?_
  rotate_left
  · (intro w hSw; (try dsimp only at hSw); go_simp; first | done | with_reducible rfl)
  simp only [Act.put, List.setIfInBounds_toArray, List.set_cons_zero, List.set_cons_succ]
  refine wpAnyH_take (i := 10) (oi := ⟨_, _, _, _, _, _⟩) (v := ?_) rfl (by kernel_rfl) (by kernel_rfl) (by kernel_rfl) (fun _ _ _ h => h) (Or.inl ⟨by kernel_rfl, ?_⟩) (by assumption) ?_
  rotate_left
  · (intro w hSw; (try dsimp only at hSw); go_simp; first | done | with_reducible rfl)
  simp only [Act.put, List.setIfInBounds_toArray, List.set_cons_zero, List.set_cons_succ]
  refine wpAnyH_ready (rs := [11]) (by kernel_rfl) (by simp) ?_
  refine AllReadyH.cons rfl (fun K hK => ?_) AllReadyH.nil
  go_simp
  go_at_call 8
  refine (HTR.out _).mono ?_
  rintro e w5 ⟨G5, cap5, rfl, ho5, hb5⟩
  have hb5' : Below w4.heap.size w4 w5 := (Below.refl w4.heap.size w4).drew.trans hb5
  have hk5 := hk4.below hb5' lk4
  have hr5 := hr4.below hb5'
  have hs5 := own_rdB ho5
  go_simp
  refine hK.out _ _ ?_ (fun hHeld => ?_)
  · exact ⟨hk5.cell 0, hk5.cell 1, hk5.cell 2, hr5⟩
  clear hK K
  refine anyH_mono (fun w' => (w'.cell? ⟨w1.heap.size, 0, none⟩ = some (.int .i64 1) ∧ w'.cell? ⟨w1.heap.size, 1, none⟩ = some (.int .i64 1) ∧ w'.cell? ⟨w1.heap.size, 2, none⟩ = some (.int .i64 20) ∧ RdB w' G4 0 23552 (trF 20 n)) ∧ RdB w' G5 0 23552 (trF 20 n)) (fun w h => h.1) _ _ _ _ ?_
  replace hHeld : (fun w' => (w'.cell? ⟨w1.heap.size, 0, none⟩ = some (.int .i64 1) ∧ w'.cell? ⟨w1.heap.size, 1, none⟩ = some (.int .i64 1) ∧ w'.cell? ⟨w1.heap.size, 2, none⟩ = some (.int .i64 20) ∧ RdB w' G4 0 23552 (trF 20 n)) ∧ RdB w' G5 0 23552 (trF 20 n)) _ := ⟨hHeld, hs5⟩
  refine wpAnyH_take (i := 12) (oi := ⟨_, _, _, _, _, _⟩) (v := ?_) rfl (by kernel_rfl) (by kernel_rfl) (by kernel_rfl) (fun _ _ _ h => h) (Or.inl ⟨by kernel_rfl, ?_⟩) (by assumption) ?_
  rotate_left
  · (intro w hSw; (try dsimp only at hSw); have cv := HCV.out G5 cap5 _ hSw.2; go_simp; first | done | with_reducible rfl)
  simp only [Act.put, List.setIfInBounds_toArray, List.set_cons_zero, List.set_cons_succ]
  refine wpAnyH_take (i := 13) (oi := ⟨_, _, _, _, _, _⟩) (v := ?_) rfl (by kernel_rfl) (by kernel_rfl) (by kernel_rfl) (fun _ _ _ h => h) (Or.inl ⟨by kernel_rfl, ?_⟩) (by assumption) ?_
  rotate_left
  · (intro w hSw; (try dsimp only at hSw); go_simp; first | done | with_reducible rfl)
  simp only [Act.put, List.setIfInBounds_toArray, List.set_cons_zero, List.set_cons_succ]
  refine wpAnyH_take (i := 14) (oi := ⟨_, _, _, _, _, _⟩) (v := ?_) rfl (by kernel_rfl) (by kernel_rfl) (by kernel_rfl) (fun _ _ _ h => h) (Or.inl ⟨by kernel_rfl, ?_⟩) (by assumption) ?_
  rotate_left
  · (intro w hSw; (try dsimp only at hSw); go_simp; first | done | with_reducible rfl)
  simp only [Act.put, List.setIfInBounds_toArray, List.set_cons_zero, List.set_cons_succ]
  refine wpAnyH_take (i := 15) (oi := ⟨_, _, _, _, _, _⟩) (v := ?_) rfl (by kernel_rfl) (by kernel_rfl) (by kernel_rfl) (fun _ _ _ h => h) (Or.inl ⟨by kernel_rfl, ?_⟩) (by assumption) ?_
  rotate_left
  · (intro w hSw; (try dsimp only at hSw); go_simp; first | done | with_reducible rfl)
  simp only [Act.put, List.setIfInBounds_toArray, List.set_cons_zero, List.set_cons_succ]
  refine wpAnyH_done (by kernel_rfl) ?_ _
  have hBT := HBW4.out.trans (hb5'.mono HBW4.out.size)
  have HBT := Lib.hid hBT
  clear hHeld hk5 hr5 hs5 ho5 hb5 hb5' hr4 hk4 hBT
  go_wp2
  go_ret
  exact ⟨rfl, HBT.out⟩
end Go.Proofs.Ytolbahfbhcpgdaa
end

section
/- The row's end for a statement that answers true and leaves what was there alone. -/
namespace Go.Proofs.Ytolbahfbhcpgdaa
open Go.ChangeShapes Go.WideShapes Go.ChangeAt Go.RowKit

theorem ownKnobNone : ownKnob Try.prog.godebug = none := by kernel_rfl
theorem cells8 : Try.prog.cellsOf 5 = 1 := by kernel_rfl
theorem cellsI : Try.prog.cellsOf 3 = 1 := by kernel_rfl
section
variable {H : Type} {enc : TypeId × Value → H} {P : Program}
/-- nothing that was there has changed, and the arguments read as they did: the post of a statement without variables -/
theorem still_post {f : Func} {s : ChangeSpec} {apart fresh handsOn again : Bool} {W W' : World} {args : Array Value} {v : Value} {ds gs : List (DataW H)} {pa : List MemPlace}
    (hW : DataW.Whole enc P f.params.toList s.vars apart W args.toList ds gs pa) (hb : Below W.heap.size W W')
    (hr : ∀ (b : Nat) (sp : Nat → Bool) (hd : Bool), DataW.TrodAll enc P W' b sp hd f.resultTypes.toList (v.resultList f.resultTypes.size) (s.fn H (ds ++ gs)).results [])
    (ha : ∀ sp : Nat → Bool, (∀ p ∈ pa, sp p.block = true) → DataW.TrodAll enc P W' 0 sp true f.params.toList args.toList (s.fn H (ds ++ gs)).args pa)
    (hv : ∀ sp : Nat → Bool, (∀ p ∈ pa, sp p.block = true) → DataW.TrodVars enc P W' sp s.vars (s.fn H (ds ++ gs)).vars [])
    (hk : ∀ (j : Nat) (t : TypeId) (r : Value), f.resultTypes[j]? = some t → (v.resultList f.resultTypes.size)[j]? = some r → Value.okWide P W' .any 0 t r) :
    s.post enc P f apart fresh handsOn again W args v W' := by
  have low : ∀ p ∈ pa, p.block < W.heap.size := fun p hp => hW.lt p hp
  have old : ∀ p ∈ pa, (fun b => decide (b < W.heap.size)) p.block = true := fun p hp => by simpa using low p hp
  refine ⟨ds, gs, pa, [], pa, [], hW, hr _ _ _, ha _ old, hv _ old, World.keptBut_mono (fun p hp => ⟨hp, .inr (.inl hp)⟩) (hb.frame (· ∈ pa)), fun _ => ?_⟩
  obtain ⟨_, _, _, _, _, hz, hn⟩ := hW
  refine ⟨hk, _, _, ([] ++ pa) ++ [], ⟨[] ++ pa, [], trodAll_append (ha _ (fun _ _ => rfl)) (hr _ _ _), hv _ (fun _ _ => rfl), rfl, fun b off hp => ?_, fun q => ?_⟩, fun p hp _ => ?_⟩
  · have hin : MemPlace.cell b off ∈ pa := by simpa using hp
    rw [hb.frozen (low _ hin)]
    exact hz b off hin
  · have := hn q
    simpa using this
  · simpa using hp
end
end Go.Proofs.Ytolbahfbhcpgdaa
end
