/- Part of the road to TwRow: FRep, LawW, LawH, LawZ, Row0, TwN, RInoP, RNum. -/
import Derived.Deep.RegionHeld3
import Derived.Test.YtbbgahffcjbloaaGreatRows
import Derived.WalkKit
import Derived.ProofKit
import Derived.OpenShut
import Derived.Below
import Derived.ChangeSame
import Derived.Test.YtbbgahffcjbloaaGreatTws13
import Derived.Test.YtbbgahffcjbloaaGreatTws08
import Derived.Test.YtbbgahffcjbloaaGreatTws05
import Derived.Test.YtbbgahffcjbloaaGreatTws01
import Derived.Test.YtbbgahffcjbloaaGreatTws02
set_option linter.all false
set_option linter.unusedSimpArgs false
set_option linter.unusedVariables false
set_option linter.unusedSectionVars false
section
/- fsck.Repair. -/
namespace Go.Proofs.YtbbgahffcjbloaaGreat
open Go.RowKit

theorem frep_c (g : Geo) (b o N cap d : Nat) (f : Nat → Nat) (w : World) (hg : g = supG f) (hr : RdB w b o N f) (hf : ∀ k, f k < 256) (hN : N = g.total * 1024) (hcap : N ≤ cap) (hcb : cap ≤ 9223372036854775807) (hof : ofOk f N = true) (hR : RepOk g f d) :
    Calls Tryz.prog 11 #[.slice (some ⟨b, o, none⟩) N cap] w fun e w' => ∃ G capo v, e = .returned (.tuple #[.slice (some ⟨G, 0, none⟩) N capo, v, .bool true]) ∧
      w'.ownsRow w.heap.size 5 1 (.slice (some ⟨G, 0, none⟩) N capo) N (bytesL (repO g f d) N) ∧
      w'.ownsRow w.heap.size 3 1 v (unlike f (repO g f d) g.total).length ((unlike f (repO g f d) g.total).map fun n => .int .i64 (n : Nat)) ∧ Below w.heap.size w w' := by
  have R := rep_c g b o N cap d f w hg hr hf hN hcap hcb hof hR
  have HR := Lib.hid R
  clear R hg hr hf hN hcap hcb hof hR
  go_enter Tryz.func11, Tryz.ntmps11
  go_wp2_with (go_at_call 24; refine HR.out.mono ?_; rintro e w1 ⟨G, capo, v, rfl, h1, h2, h3⟩; have H1 := Lib.hid h1; have H2 := Lib.hid h2; have H3 := Lib.hid h3; clear h1 h2 h3)
  go_ret3
  exact ⟨G, capo, v, rfl, H1.out, H2.out, H3.out⟩

theorem rep_no (b o N cap : Nat) (f : Nat → Nat) (w : World) (hr : RdB w b o N f) (hf : ∀ k, f k < 256) (hN : 1024 ≤ N) (hcap : N ≤ cap) (hcb : cap ≤ 9223372036854775807) (hof : ofOk f N = false) :
    Calls Tryz.prog 24 #[.slice (some ⟨b, o, none⟩) N cap] w fun e w' => e = .returned (.tuple #[.slice none 0 0, .slice none 0 0, .bool false]) ∧ Below w.heap.size w w' := by
  have OF := of_c b o N cap f hf w hr hN hcap hcb
  have HOF := Lib.hid OF; have HO := Lib.hid hof
  clear OF hr hof
  go_enter Tryz.func24, Tryz.ntmps24
  go_wp2_with (go_at_call 45; refine HOF.out.mono ?_; rintro e w1 ⟨-, h2, hb1⟩; obtain rfl := h2 HO.out; obtain ⟨hc1, hf1⟩ := bcell hb1; have hz1 := hb1.size)
  go_ret3
  exact ⟨rfl, hb1.alloc hz1 _⟩
theorem frep_no (b o N cap : Nat) (f : Nat → Nat) (w : World) (hr : RdB w b o N f) (hf : ∀ k, f k < 256) (hN : 1024 ≤ N) (hcap : N ≤ cap) (hcb : cap ≤ 9223372036854775807) (hof : ofOk f N = false) :
    Calls Tryz.prog 11 #[.slice (some ⟨b, o, none⟩) N cap] w fun e w' => e = .returned (.tuple #[.slice none 0 0, .slice none 0 0, .bool false]) ∧ Below w.heap.size w w' := by
  have R := rep_no b o N cap f w hr hf hN hcap hcb hof
  have HR := Lib.hid R
  clear R hr hof
  go_enter Tryz.func11, Tryz.ntmps11
  go_wp2_with (go_at_call 24; refine HR.out.mono ?_; rintro e w1 ⟨rfl, h1⟩)
  go_ret3
  exact ⟨rfl, h1⟩

theorem same_c (g cap B cb : Nat) (w : World) (hv : w.cell? ⟨g, 0, none⟩ = some (.int .i64 2)) (hB : w.cell? ⟨B, 0, none⟩ = some (.int .i64 2)) :
    Calls Tryz.prog 16 #[.slice (some ⟨g, 0, none⟩) 1 cap, .slice (some ⟨B, 0, none⟩) 1 cb] w fun e w' => e = .returned (.bool true) ∧ Below w.heap.size w w' := by
  go_enter Tryz.func16, Tryz.ntmps16
  go_wp2
  go_loopw [5] (fun i wr => (i = .int .i64 0 ∧ wr = w) ∨ (i = .int .i64 1 ∧ ∃ q, wr = w.drewN q)) (fun i _ => 1 - (intOf i).toNat)
  case atStart => exact .inl ⟨rfl, rfl⟩
  case round =>
    rcases hrel with ⟨rfl, hw⟩ | ⟨rfl, q, rfl⟩
    · obtain rfl := hw.symm
      go_wp2
      go_quiet (fail)
      go_wp2
      go_roundw
      case rel => exact .inr ⟨rfl, _, rfl⟩
      case measure => simp [intOf]
    · go_wp2
      go_ret
      exact ⟨rfl, bdrewN (Below.refl _ _) _⟩
end Go.Proofs.YtbbgahffcjbloaaGreat
end

section
/- Repair at the statements' images; the example of the document. -/
namespace Go.Proofs.YtbbgahffcjbloaaGreat
open Go.RowKit

theorem lrep0_c {m n N : Nat} {h : Nat → Nat} (hn : n ≤ 9) (hm : n < m) (h8 : 8 ≤ m) (h1000 : m ≤ 1000) (hN : N = (3 + m) * 1024) (L : Like m n h) (W : World) (base G cap : Nat) (ho : W.ownsRow base 5 1 (.slice (some ⟨G, 0, none⟩) N cap) N (bytesL h N)) :
    Calls Tryz.prog 11 #[.slice (some ⟨G, 0, none⟩) N cap] W fun e w' => ∃ G' cap' v, e = .returned (.tuple #[.slice (some ⟨G', 0, none⟩) N cap', v, .bool true]) ∧
      w'.ownsRow W.heap.size 5 1 (.slice (some ⟨G', 0, none⟩) N cap') N (bytesL (repO (geo1 m) h 3) N) ∧
      w'.ownsRow W.heap.size 3 1 v (unlike h (repO (geo1 m) h 3) (3 + m)).length ((unlike h (repO (geo1 m) h 3) (3 + m)).map fun n => .int .i64 (n : Nat)) ∧ Below W.heap.size W w' := by
  obtain ⟨s1, s2⟩ := L.supOk h8 h1000
  obtain ⟨l1, l2, l3, l4⟩ := own_len ho
  unfold maxLen at l4
  have et : (geo1 m).total = 3 + m := by show 1 + 1 * (1 + 1 + m) = 3 + m; omega
  have := frep_c (geo1 m) G 0 N cap 3 h W s1.symm (own_rdB ho) L.byte (by rw [et]; exact hN) l3 (by omega) (by rw [hN]; exact L.ofOk h8 h1000) (L.ok hn hm h8 h1000)
  rw [et] at this
  exact this
theorem lrep_c {m n N : Nat} {h : Nat → Nat} (hn : n ≤ 9) (hm : n < m) (h8 : 8 ≤ m) (h1000 : m ≤ 1000) (hN : N = (3 + m) * 1024) (hhd : ∀ k, k < 1024 → headP (geo1 m) (fun i => decide (i < n + 1)) (fun i => decide (i < n + 1)) k = trF m n (1024 + k)) (L : Like m n h) (hi : ∀ q, 4096 ≤ q → q < N → h q = trF m n q)
    (W : World) (base G cap : Nat) (ho : W.ownsRow base 5 1 (.slice (some ⟨G, 0, none⟩) N cap) N (bytesL h N)) :
    Calls Tryz.prog 11 #[.slice (some ⟨G, 0, none⟩) N cap] W fun e w' => ∃ G' cap' v, e = .returned (.tuple #[.slice (some ⟨G', 0, none⟩) N cap', v, .bool true]) ∧
      w'.ownsRow W.heap.size 5 1 (.slice (some ⟨G', 0, none⟩) N cap') N (bytesL (trF m n) N) ∧
      w'.ownsRow W.heap.size 3 1 v (unlike h (trF m n) (3 + m)).length ((unlike h (trF m n) (3 + m)).map fun n => .int .i64 (n : Nat)) ∧ Below W.heap.size W w' := by
  have e0 : ∀ q, q < N → repO (geo1 m) h 3 q = trF m n q := fun q hq => by
    by_cases h4 : q < 4096
    · exact L.lo hn hm hhd q h4
    · rw [L.hi q (by omega)]; exact hi q (by omega) hq
  have e1 : bytesL (repO (geo1 m) h 3) N = bytesL (trF m n) N := bytesL_congr e0
  have e2 : unlike h (repO (geo1 m) h 3) (3 + m) = unlike h (trF m n) (3 + m) := unlike_congr (fun k hk => e0 k (by omega))
  have := lrep0_c hn hm h8 h1000 hN L W base G cap ho
  rw [e1, e2] at this
  exact this

/-! ### the example -/
def exF : Nat → Nat := fun q => if q = 2050 then 1 else mkF 8 q
theorem exF_like : Like 8 0 exF := by
  refine like_of (m := 8) (n := 0) (by decide) (fun k => ?_) (fun k hk => ?_) (fun _ => 1) (fun _ => by decide) (fun x hx k hk => ?_) (fun j h1 h2 => by omega) (fun j h1 h2 => ?_)
  · unfold exF; split
    · decide
    · exact mkF_lt 8 k
  · unfold exF; rw [if_neg (by omega)]; exact trF_sup 8 0 (by decide) k hk
  · obtain rfl : x = 0 := by omega
    unfold exF
    by_cases h2 : k = 2
    · subst h2; rw [if_pos rfl, (withL_2 _ _).1]
    · rw [if_neg (by omega)]
      have := trF_row 8 0 (by decide) 0 (by decide) k hk
      rw [if_pos (Nat.le_refl _)] at this
      rw [show mkF 8 (2048 + 64 * 0 + k) = trF 8 0 (2048 + 64 * 0 + k) from rfl, this]
      by_cases h3 : k = 3
      · subst h3; rw [(withL_2 _ _).2]; rfl
      · rw [withL_far _ _ _ h2 h3]
  · rw [rootE_no (m := 8) (n := 0) (by decide) h1 h2 (fun k hk => by unfold exF; rw [if_neg (by omega)]; rfl)]
    exact gone_zero 8 0 _
theorem exF_unlike : unlike exF (trF 8 0) 11 = [2] := by
  rw [unlike_of (fun k => decide (k = 2)) (fun k hk hp j hj => ?_) (fun k hk hp => ?_)]
  · rfl
  · have hk2 : k ≠ 2 := by simpa using hp
    unfold exF; rw [if_neg (by omega)]; rfl
  · have hk2 : k = 2 := by simpa using hp
    subst hk2
    refine ⟨2, by decide, ?_⟩
    have := trF_row 8 0 (by decide) 0 (by decide) 2 (by decide)
    rw [if_pos (Nat.le_refl _)] at this
    rw [show trF 8 0 (2 * 1024 + 2) = trF 8 0 (2048 + 64 * 0 + 2) from rfl, this]
    unfold exF
    rw [if_pos (by decide)]
    have h2 : inoF (treeI 0) 2 = 2 := rfl
    rw [h2]; decide
theorem ofOk_odd {f : Nat → Nat} {N : Nat} (h : N % 1024 ≠ 0) : ofOk f N = false := by
  unfold ofOk
  rw [decide_eq_false (p := N = (supG f).total * 1024) (fun e => h (by omega)), Bool.and_false, Bool.and_false]

set_option maxRecDepth 100000 in
set_option maxHeartbeats 4000000 in
theorem alive_c (w : World) : Calls Tryz.prog 9 #[] w fun e w' => e = .returned (.bool true) ∧ Below w.heap.size w w' := by
  have MK := fun W => mkfs_c 8 (by decide) (by decide) W
  have RP := fun W base G cap ho => lrep_c (m := 8) (n := 0) (N := 11264) (h := exF) (by decide) (by decide) (by decide) (by decide) (by decide) (fun k hk => head_8 ⟨k, hk⟩) exF_like (fun q h1 h2 => by unfold exF; rw [if_neg (by omega)]; rfl) W base G cap ho
  rw [show 3 + 8 = 11 from rfl, exF_unlike] at RP
  have HMK := Lib.hid MK; have HRP := Lib.hid RP
  clear MK RP
  go_enter Tryz.func9, Tryz.ntmps9
  go_wp2_with (first
    | (go_at_call 20; refine (HMK.out _).mono ?_; rintro e w1 ⟨G, cap, rfl, ho1, hb1⟩; obtain ⟨p1, p2⟩ := own_get ho1 (i := 2050) (by decide); obtain ⟨l1, l2, l3, l4⟩ := own_len ho1; unfold maxLen at l4; have HO1 := Lib.hid ho1; have HB1 := Lib.hid hb1; clear ho1 hb1)
    | fail)
  have o1 : (w1.setCell ⟨G, 2050, none⟩ (.int .u8 1)).ownsRow w.heap.size 5 1 (.slice (some ⟨G, 0, none⟩) 11264 cap) 11264 (bytesL exF 11264) := own_set HO1.out (i := 2050) (by decide) 1 rfl
  have hBs : Below w.heap.size w (w1.setCell ⟨G, 2050, none⟩ (.int .u8 1)) := HB1.out.setCell (p := ⟨G, 2050, none⟩) l1 _
  refine (HRP.out _ _ G cap o1).mono ?_
  rintro e w2 ⟨G2, cap2, v, rfl, ho2, hv2, hb2⟩
  obtain ⟨gw, capw, rfl, hcw, hcell⟩ := own_one hv2
  have hB2 := hBs.trans (hb2.mono hBs.size)
  have r2 := ((own_rdB o1).below hb2).sub 1 11263 (by decide)
  have hgl := (own_len o1).2.1
  have NO := frep_no G 1 11263 (cap - 1) (fun k => exF (1 + k)) w2 r2 (fun k => exF_like.byte _) (by decide) (by omega) (by omega) (ofOk_odd (by decide))
  have lgw := lt_of_cell hcell
  have HNO := Lib.hid NO; have HB2 := Lib.hid hB2
  have hc1 : (1 : Int) ≤ (cap : Int) := by omega
  have hcn : ¬ cap = 1 := by omega
  clear o1 hBs ho2 hv2 hb2 r2 NO hB2 p1 p2
  go_wp2_with (first
    | (go_at_call 11; refine HNO.out.mono ?_; rintro e w3 ⟨rfl, hb3⟩; obtain ⟨hc3, hf3⟩ := bcell hb3; have hz3 := hb3.size))
  have c3 : (w3.alloc (.cells #[.int .i64 2] 3)).cell? ⟨gw, 0, none⟩ = some (.int .i64 2) := by
    rw [World.cell?_of_block (w := w3) (Below.heap_alloc _ _ _ (by show gw < w3.heap.size; omega))]; exact (hc3 gw 0 lgw).trans hcell
  refine (same_c gw capw w3.heap.size 1 _ c3 ((Blk.newL (e := 3) (w := w3) [.int .i64 2]).cell 0)).mono ?_
  rintro e w4 ⟨rfl, hb4⟩
  go_wp2
  go_ret
  have hB2 := HB2.out
  have hB3 := hB2.trans (hb3.mono hB2.size)
  exact ⟨rfl, (hB3.alloc hB3.size _).trans (hb4.mono (by have := hB3.size; simp; omega))⟩
end Go.Proofs.YtbbgahffcjbloaaGreat
end

section
/- FsckHeads: the pure side, and the walk. -/
namespace Go.Proofs.YtbbgahffcjbloaaGreat
open Go.RowKit

end Go.Proofs.YtbbgahffcjbloaaGreat
end

section
namespace Go.Proofs.YtbbgahffcjbloaaGreat
open Go.RowKit

end Go.Proofs.YtbbgahffcjbloaaGreat
end

section
/- The row's end for a statement that answers true and leaves what was there alone. -/
namespace Go.Proofs.YtbbgahffcjbloaaGreat
open Go.ChangeShapes Go.WideShapes Go.ChangeAt Go.RowKit

theorem ownKnobNone : ownKnob Tryz.prog.godebug = none := by kernel_rfl
section
variable {H : Type} {enc : TypeId × Value → H} {P : Program}
/-- nothing that was there has changed, and the arguments read as they did: the post of a statement without variables -/
theorem still_post {f : Func} {s : ChangeSpec} {apart fresh handsOn again : Bool} {W W' : World} {args : Array Value} {v : Value} {ds gs : List (DataW H)} {pa : List MemPlace}
    (hW : DataW.Whole enc P f.params.toList s.vars apart W args.toList ds gs pa) (hb : Below W.heap.size W W')
    (hr : ∀ (b : Nat) (sp : Nat → Bool) (hd : Bool), DataW.TrodAll enc P W' b sp hd f.resultTypes.toList (v.resultList f.resultTypes.size) (s.fn H (ds ++ gs)).results [])
    (ha : ∀ sp : Nat → Bool, (∀ p ∈ pa, sp p.block = true) → DataW.TrodAll enc P W' 0 sp true f.params.toList args.toList (s.fn H (ds ++ gs)).args pa)
    (hv : ∀ sp : Nat → Bool, (∀ p ∈ pa, sp p.block = true) → DataW.TrodVars enc P W' sp s.vars (s.fn H (ds ++ gs)).vars [])
    (hk : ∀ (j : Nat) (t : TypeId) (r : Value), f.resultTypes[j]? = some t → (v.resultList f.resultTypes.size)[j]? = some r → Value.okWide P W' .any 0 t r) :
    s.post enc P f apart fresh handsOn again W args v W' := by
  have low : ∀ p ∈ pa, p.block < W.heap.size := fun p hp => hW.lt p hp
  have old : ∀ p ∈ pa, (fun b => decide (b < W.heap.size)) p.block = true := fun p hp => by simpa using low p hp
  refine ⟨ds, gs, pa, [], pa, [], hW, hr _ _ _, ha _ old, hv _ old, World.keptBut_mono (fun p hp => ⟨hp, .inr (.inl hp)⟩) (hb.frame (· ∈ pa)), fun _ => ?_⟩
  obtain ⟨_, _, _, _, _, hz, hn⟩ := hW
  refine ⟨hk, _, _, ([] ++ pa) ++ [], ⟨[] ++ pa, [], trodAll_append (ha _ (fun _ _ => rfl)) (hr _ _ _), hv _ (fun _ _ => rfl), rfl, fun b off hp => ?_, fun q => ?_⟩, fun p hp _ => ?_⟩
  · have hin : MemPlace.cell b off ∈ pa := by simpa using hp
    rw [hb.frozen (low _ hin)]
    exact hz b off hin
  · have := hn q
    simpa using this
  · simpa using hp
end
end Go.Proofs.YtbbgahffcjbloaaGreat
end

section
/- FsckTwins: the guards. -/
namespace Go.Proofs.YtbbgahffcjbloaaGreat
open Go.RowKit

set_option maxRecDepth 100000 in
set_option maxHeartbeats 4000000 in
theorem twins_no (n a b : Int) (w : World) (hbad : n < 2 ∨ 9 < n ∨ a < 0 ∨ b < 0 ∨ n ≤ a ∨ n ≤ b ∨ a = b) : Calls Tryz.prog 7 #[.int .i64 n, .int .i64 a, .int .i64 b] w fun e w' => e = .returned (.bool true) ∧ Below w.heap.size w w' := by
  have AL := alive_c
  have HAL := Lib.hid AL
  clear AL
  by_cases h0 : n < 2
  · have d0 : decide (n < 2) = true := by simpa using h0
    clear hbad h0
    go_enter Tryz.func7, Tryz.ntmps7
    go_wp2_with (go_at_call 9; refine (HAL.out _).mono ?_; rintro e w1 ⟨rfl, hb1⟩)
    go_ret
    exact ⟨rfl, hb1⟩
  · have d0 : decide (n < 2) = false := by simpa using h0
    by_cases h1 : 9 < n
    · have d1 : decide (9 < n) = true := by simpa using h1
      clear hbad h0 h1
      go_enter Tryz.func7, Tryz.ntmps7
      go_wp2_with (go_at_call 9; refine (HAL.out _).mono ?_; rintro e w1 ⟨rfl, hb1⟩)
      go_ret
      exact ⟨rfl, hb1⟩
    · have d1 : decide (9 < n) = false := by simpa using h1
      by_cases h2 : a < 0
      · have d2 : decide (a < 0) = true := by simpa using h2
        clear hbad h0 h1 h2
        go_enter Tryz.func7, Tryz.ntmps7
        go_wp2_with (go_at_call 9; refine (HAL.out _).mono ?_; rintro e w1 ⟨rfl, hb1⟩)
        go_ret
        exact ⟨rfl, hb1⟩
      · have d2 : decide (a < 0) = false := by simpa using h2
        by_cases h3 : b < 0
        · have d3 : decide (b < 0) = true := by simpa using h3
          clear hbad h0 h1 h2 h3
          go_enter Tryz.func7, Tryz.ntmps7
          go_wp2_with (go_at_call 9; refine (HAL.out _).mono ?_; rintro e w1 ⟨rfl, hb1⟩)
          go_ret
          exact ⟨rfl, hb1⟩
        · have d3 : decide (b < 0) = false := by simpa using h3
          by_cases h4 : n ≤ a
          · have d4 : decide (n ≤ a) = true := by simpa using h4
            clear hbad h0 h1 h2 h3 h4
            go_enter Tryz.func7, Tryz.ntmps7
            go_wp2_with (go_at_call 9; refine (HAL.out _).mono ?_; rintro e w1 ⟨rfl, hb1⟩)
            go_ret
            exact ⟨rfl, hb1⟩
          · have d4 : decide (n ≤ a) = false := by simpa using h4
            by_cases h5 : n ≤ b
            · have d5 : decide (n ≤ b) = true := by simpa using h5
              clear hbad h0 h1 h2 h3 h4 h5
              go_enter Tryz.func7, Tryz.ntmps7
              go_wp2_with (go_at_call 9; refine (HAL.out _).mono ?_; rintro e w1 ⟨rfl, hb1⟩)
              go_ret
              exact ⟨rfl, hb1⟩
            · have d5 : decide (n ≤ b) = false := by simpa using h5
              have h6 : a = b := by omega
              have d6 : ((a) == b) = true := by simpa using h6
              clear hbad h0 h1 h2 h3 h4 h5 h6
              go_enter Tryz.func7, Tryz.ntmps7
              go_wp2_with (go_at_call 9; refine (HAL.out _).mono ?_; rintro e w1 ⟨rfl, hb1⟩)
              go_ret
              exact ⟨rfl, hb1⟩
end Go.Proofs.YtbbgahffcjbloaaGreat
end

section
/- The reference's inodes, packed. -/
namespace Go.Proofs.YtbbgahffcjbloaaGreat
open Go.RowKit

set_option maxRecDepth 100000 in
set_option maxHeartbeats 4000000 in
theorem rpino_z (i : InoN) (hr : InoR i) (hk2 : i 0 ≤ 2) (z : Bool) (d2 : (((i 0 : Nat) : Int) == 0) = z) (hCm : z = true → allZ i = true) (w : World) :
    Calls Tryz.prog 22 #[inoV i] w fun e w' => ∃ G cap, e = .returned (.tuple #[.slice (some ⟨G, 0, none⟩) 64 cap, .bool true]) ∧ w'.ownsRow w.heap.size 5 1 (.slice (some ⟨G, 0, none⟩) 64 cap) 64 (bytesL (inoF i) 64) ∧ Below w.heap.size w w' := by
  have hCmp := fun W => ino_cmp i W
  have gE : Tryz.prog.eqGuardType Tryz.prog.depth 56 = false := by kernel_rfl
  unfold inoV at hCmp
  have hC2 : z = true → ∀ W, (Op.equalIn 10000 56 (.agg #[.int .i64 (i 0 : Nat), .int .i64 (i 1 : Nat), .int .i64 (i 2 : Nat), .int .i64 (i 3 : Nat), .int .i64 (i 4 : Nat), .int .i64 (i 5 : Nat), .int .i64 (i 6 : Nat), .int .i64 (i 7 : Nat), .int .i64 (i 8 : Nat), .int .i64 (i 9 : Nat), .int .i64 (i 10 : Nat), .int .i64 (i 11 : Nat), .int .i64 (i 12 : Nat)]) (.agg #[.int .i64 0, .int .i64 0, .int .i64 0, .int .i64 0, .int .i64 0, .int .i64 0, .int .i64 0, .int .i64 0, .int .i64 0, .int .i64 0, .int .i64 0, .int .i64 0, .int .i64 0])).run Tryz.prog W = .ok true W := fun h W => by
    have := hCmp W; rwa [hCm h] at this
  clear hCmp hCm
  have l1 := hr.l; have l2 := hr.s
  have l11 := hr.p 11 (by omega) (by omega); have l12 := hr.p 12 (by omega) (by omega)
  have HR := Lib.hid hr
  have e02 : bytesL (catF 0 (fun _ => 0) (byteN (i 0))) (0 + 2) = bytesL (byteN (i 0)) 2 := bytesL_congr fun k _ => by simp [catF]
  have d0 : decide ((i 0 : Int) < 0) = false := by simp
  have d1 : decide ((2 : Int) < (i 0 : Int)) = false := by simp; omega
  have bx := inoL_new w i 56
  obtain ⟨c0, c1, c2, c3, c4, c5, c6, c7, c8, c9, c10, c11, c12⟩ := cells13 bx
  have F2 := rfits2_c (i 1) l1
  have F4a := rfits4_c (i 2) l2
  have F4b := rfits4_c (i 11) l11
  have F4c := rfits4_c (i 12) l12
  have HF2 := Lib.hid F2; have HFa := Lib.hid F4a; have HFb := Lib.hid F4b; have HFc := Lib.hid F4c; have HBX := Lib.hid bx
  unfold inoV
  clear hr F2 F4a F4b F4c bx
  cases z
  all_goals (try simp only [forall_const] at hC2)
  all_goals (
    go_enter Tryz.func22, Tryz.ntmps22
    go_wp2_with (go_at_call 41; first
      | (with_reducible refine (HF2.out _).mono ?_; rintro e w1 ⟨rfl, rfl⟩)
      | (with_reducible refine (HFa.out _).mono ?_; rintro e w1 ⟨rfl, rfl⟩)
      | (with_reducible refine (HFb.out _).mono ?_; rintro e w1 ⟨rfl, rfl⟩)
      | (with_reducible refine (HFc.out _).mono ?_; rintro e w1 ⟨rfl, rfl⟩))
    have hk0 := HBX.out.drew
    have hB0 : Below w.heap.size w (w.alloc (.cells #[.int .i64 (i 0 : Nat), .int .i64 (i 1 : Nat), .int .i64 (i 2 : Nat), .int .i64 (i 3 : Nat), .int .i64 (i 4 : Nat), .int .i64 (i 5 : Nat), .int .i64 (i 6 : Nat), .int .i64 (i 7 : Nat), .int .i64 (i 8 : Nat), .int .i64 (i 9 : Nat), .int .i64 (i 10 : Nat), .int .i64 (i 11 : Nat), .int .i64 (i 12 : Nat)] 56)).drew := ((Below.refl _ w).alloc (Nat.le_refl _) _).drew
    have hs0 : w.heap.size + 1 ≤ (w.alloc (.cells #[.int .i64 (i 0 : Nat), .int .i64 (i 1 : Nat), .int .i64 (i 2 : Nat), .int .i64 (i 3 : Nat), .int .i64 (i 4 : Nat), .int .i64 (i 5 : Nat), .int .i64 (i 6 : Nat), .int .i64 (i 7 : Nat), .int .i64 (i 8 : Nat), .int .i64 (i 9 : Nat), .int .i64 (i 10 : Nat), .int .i64 (i 11 : Nat), .int .i64 (i 12 : Nat)] 56)).drew.heap.size := by simp
    refine wp_region_held_drew (S := (fun w' => w'.cell? ⟨w.heap.size, 0, none⟩ = some (.int .i64 (i 0 : Nat)) ∧ w'.cell? ⟨w.heap.size, 1, none⟩ = some (.int .i64 (i 1 : Nat)) ∧ w'.cell? ⟨w.heap.size, 2, none⟩ = some (.int .i64 (i 2 : Nat)))) (by kernel_rfl) ⟨hk0.cell 0, hk0.cell 1, hk0.cell 2⟩ (fun hHeld => ?_)
    refine tkA (i := 0) (oi := ⟨_, _, _, _, _, _⟩) ?_
    simp only [putA, List.set]
    refine tkA (i := 1) (oi := ⟨_, _, _, _, _, _⟩) ?_
    simp only [putA, List.set]
    refine tkA (i := 3) (oi := ⟨_, _, _, _, _, _⟩) ?_
    simp only [putA, List.set]
    refine tkA (i := 4) (oi := ⟨_, _, _, _, _, _⟩) ?_
    simp only [putA, List.set]
    refine tkA (i := 6) (oi := ⟨_, _, _, _, _, _⟩) ?_
    simp only [putA, List.set]
    refine tkA (i := 7) (oi := ⟨_, _, _, _, _, _⟩) ?_
    simp only [putA, List.set]
    generalize (w.alloc (.cells #[.int .i64 (i 0 : Nat), .int .i64 (i 1 : Nat), .int .i64 (i 2 : Nat), .int .i64 (i 3 : Nat), .int .i64 (i 4 : Nat), .int .i64 (i 5 : Nat), .int .i64 (i 6 : Nat), .int .i64 (i 7 : Nat), .int .i64 (i 8 : Nat), .int .i64 (i 9 : Nat), .int .i64 (i 10 : Nat), .int .i64 (i 11 : Nat), .int .i64 (i 12 : Nat)] 56)).drew = W0 at hk0 hB0 hs0 hHeld ⊢
    refine wpAnyH_ready (rs := [2]) (by kernel_rfl) (by simp) ?_
    refine AllReadyH.cons rfl (fun K hK => ?_) AllReadyH.nil
    go_simp
    go_at_call 42
    refine (rput2_c (w.heap.size + 1) (0) (i 0) 2 _ (fun _ => 0) _ (by omega) (by omega) (by omega) (by omega) (by omega) (.inl (World.ownsRow_nil _ _ _ _))).mono ?_
    rintro e w2 ⟨v2, rfl, ho2, hs2, hm2⟩
    have hz2 := hm2.size
    have hB2 := Below.mods hB0 hm2 (fun i hi e => (by cases e)) (by omega)
    have hk2 := hk0.mods hm2 (fun e => (by cases e))
    rw [e02] at ho2
    go_simp
    refine hK.out _ _ ?_ (fun hHeld => ?_)
    · exact ⟨hk2.cell 0, hk2.cell 1, hk2.cell 2⟩
    clear hK K
    refine wpAnyH_ready (rs := [5]) (by kernel_rfl) (by simp) ?_
    refine AllReadyH.cons rfl (fun K hK => ?_) AllReadyH.nil
    go_simp
    go_at_call 42
    refine (rput2_c (w.heap.size + 1) (2) (i 1) 2 _ (byteN (i 0)) _ (by omega) (by omega) (by omega) (by omega) (by omega) (.inl ho2)).mono ?_
    rintro e w5 ⟨v5, rfl, ho5, hs5, hm5⟩
    have hz5 := hm5.size
    have hB5 := Below.mods hB2 hm5 (fun i hi e => (by have h0 := own_base ho2 _ e; omega)) (by omega)
    have hk5 := hk2.mods hm5 (fun e => (by have h0 := own_base ho2 _ e; omega))
    go_simp
    refine hK.out _ _ ?_ (fun hHeld => ?_)
    · exact ⟨hk5.cell 0, hk5.cell 1, hk5.cell 2⟩
    clear hK K
    refine wpAnyH_ready (rs := [8]) (by kernel_rfl) (by simp) ?_
    refine AllReadyH.cons rfl (fun K hK => ?_) AllReadyH.nil
    go_simp
    go_at_call 42
    refine (rput2_c (w.heap.size + 1) (4) (i 2) 4 _ (catF 2 (byteN (i 0)) (byteN (i 1))) _ (by omega) (by omega) (by omega) (by omega) (by omega) (.inl ho5)).mono ?_
    rintro e w8 ⟨v8, rfl, ho8, hs8, hm8⟩
    have hz8 := hm8.size
    have hB8 := Below.mods hB5 hm8 (fun i hi e => (by have h0 := own_base ho5 _ e; omega)) (by omega)
    have hk8 := hk5.mods hm8 (fun e => (by have h0 := own_base ho5 _ e; omega))
    go_simp
    refine hK.out _ _ ?_ (fun hHeld => ?_)
    · exact ⟨hk8.cell 0, hk8.cell 1, hk8.cell 2⟩
    clear hK K
    refine tkA (i := 9) (oi := ⟨_, _, _, _, _, _⟩) ?_
    simp only [putA, List.set]
    refine wpAnyH_done (by kernel_rfl) ?_ _
    have hzz : w.heap.size + 1 ≤ w8.heap.size := by omega
    replace ho8 : w8.ownsRow (w.heap.size + 1) 5 1 v8 8 (bytesL (inoK i 0) 8) := ho8
    have lk8 := hk8.lt
    clear hHeld hk0 hk2 hk5 hB0 hB2 hB5 hm2 hm5 hm8 hs2 hs5 hs8 ho2 ho5 hs0 hz2 hz5 hz8 c0 c1 c2 c3 c4 c5 c6 c7 c8 c9 c10 c11 c12 d0 d1 d2 hC2 gE
    obtain ⟨g8, cap8, rfl⟩ := own_has ho8 (by omega)
    go_wp2
    go_loopw [4, 5] (fun v j' wr => ∃ (j G cap : Nat), j ≤ 8 ∧ j' = .int .i64 j ∧ v = .slice (some ⟨G, 0, none⟩) (8 + 4 * j) cap ∧ wr.ownsRow (w.heap.size + 1) 5 1 (.slice (some ⟨G, 0, none⟩) (8 + 4 * j) cap) (8 + 4 * j) (bytesL (inoK i j) (8 + 4 * j)) ∧ Blk 56 wr w.heap.size (inoL i) ∧ Below w.heap.size w wr ∧ w.heap.size + 1 ≤ wr.heap.size) (fun _ j' _ => 8 - (intOf j').toNat)
    case atStart => exact ⟨0, _, _, by omega, rfl, rfl, ho8, hk8, hB8, hzz⟩
    case round =>
      obtain ⟨j, G, cap, hj, rfl, rfl, ho, hkb, hBw, hzw⟩ := hrel
      by_cases hlt : j < 8
      · have hc := hkb.cell (3 + j)
        rw [inoL_get _ _ (by omega)] at hc
        have lp := HR.out.p (3 + j) (by omega) (by omega)
        have F4 := rfits4_c (i (3 + j)) lp
        have RP := fun W hW hO => rput2_c (w.heap.size + 1) (8 + 4 * j) (i (3 + j)) 4 (.slice (some ⟨G, 0, none⟩) (8 + 4 * j) cap) (inoK i j) W (by omega) (by omega) lp (by omega) hW hO
        have HF4 := Lib.hid F4; have HRP := Lib.hid RP; have HO := Lib.hid ho; have HK := Lib.hid hkb; have HBW := Lib.hid hBw
        have lkb := hkb.lt
        clear F4 RP ho hkb hBw
        go_wp2_with (first
          | (go_at_call 41; refine (HF4.out _).mono ?_; rintro e w1 ⟨rfl, rfl⟩)
          | (go_at_call 42; refine (HRP.out _ hzw (.inl HO.out)).mono ?_; rintro e w3 ⟨v3, rfl, ho3, hs3, hm3⟩))
        go_roundw
        case rel =>
          obtain ⟨g3, cap3, rfl⟩ := own_has ho3 (by omega)
          have hz3 := hm3.size
          exact ⟨j + 1, g3, cap3, by omega, by go_num, rfl, ho3, HK.out.mods hm3 (fun e => by have h0 := own_base HO.out _ e; omega), Below.mods HBW.out hm3 (fun q hq e => by have h0 := own_base HO.out _ e; omega) (by omega), by omega⟩
        case measure => simp [intOf]; omega
      · obtain rfl : j = 8 := by omega
        have HO := Lib.hid ho; have HBW := Lib.hid hBw
        have e11 := hkb.cell 11; have e12 := hkb.cell 12
        rw [inoL_get _ _ (by omega)] at e11 e12
        have l9 := hkb.lt
        clear ho hlt
        go_wp2
        refine wp_region_held_drew (S := (fun w' => w'.cell? ⟨w.heap.size, 11, none⟩ = some (.int .i64 (i 11 : Nat)) ∧ w'.cell? ⟨w.heap.size, 12, none⟩ = some (.int .i64 (i 12 : Nat)))) (by kernel_rfl) ⟨e11, e12⟩ (fun hHeld => ?_)
        refine tkA (i := 0) (oi := ⟨_, _, _, _, _, _⟩) ?_
        simp only [putA, List.set]
        refine tkA (i := 1) (oi := ⟨_, _, _, _, _, _⟩) ?_
        simp only [putA, List.set]
        refine tkA (i := 2) (oi := ⟨_, _, _, _, _, _⟩) ?_
        simp only [putA, List.set]
        refine tkA (i := 4) (oi := ⟨_, _, _, _, _, _⟩) ?_
        simp only [putA, List.set]
        refine tkA (i := 5) (oi := ⟨_, _, _, _, _, _⟩) ?_
        simp only [putA, List.set]
        have hk0 := hkb.drew
        have hB0 := hBw.drew
        have HO2 := own_below HO.out (Below.refl _ wr).drew
        have hs0 : w.heap.size + 1 ≤ wr.drew.heap.size := hzw
        clear hkb hBw
        generalize wr.drew = W0 at hk0 hB0 hs0 HO2 hHeld ⊢
        refine wpAnyH_ready (rs := [3]) (by kernel_rfl) (by simp) ?_
        refine AllReadyH.cons rfl (fun K hK => ?_) AllReadyH.nil
        go_simp
        go_at_call 42
        refine (rput2_c (w.heap.size + 1) (40) (i 11) 4 _ (inoK i 8) _ (by omega) (by omega) (by omega) (by omega) (by omega) (.inl HO2)).mono ?_
        rintro e w3 ⟨v3, rfl, ho3, hs3, hm3⟩
        have hz3 := hm3.size
        have hB3 := Below.mods hB0 hm3 (fun i hi e => (by have h0 := own_base HO2 _ e; omega)) (by omega)
        have hk3 := hk0.mods hm3 (fun e => (by have h0 := own_base HO2 _ e; omega))
        go_simp
        refine hK.out _ _ ?_ (fun hHeld => ?_)
        · exact ⟨hk3.cell 11, hk3.cell 12⟩
        clear hK K
        refine wpAnyH_ready (rs := [6]) (by kernel_rfl) (by simp) ?_
        refine AllReadyH.cons rfl (fun K hK => ?_) AllReadyH.nil
        go_simp
        go_at_call 42
        refine (rput2_c (w.heap.size + 1) (44) (i 12) 4 _ (inoK i 9) _ (by omega) (by omega) (by omega) (by omega) (by omega) (.inl ho3)).mono ?_
        rintro e w6 ⟨v6, rfl, ho6, hs6, hm6⟩
        have hz6 := hm6.size
        have hB6 := Below.mods hB3 hm6 (fun i hi e => (by have h0 := own_base ho3 _ e; omega)) (by omega)
        have hk6 := hk3.mods hm6 (fun e => (by have h0 := own_base ho3 _ e; omega))
        go_simp
        refine hK.out _ _ ?_ (fun hHeld => ?_)
        · exact ⟨hk6.cell 11, hk6.cell 12⟩
        clear hK K
        refine wpAnyH_ready (rs := [7]) (by kernel_rfl) (by simp) ?_
        refine AllReadyH.cons rfl (fun K hK => ?_) AllReadyH.nil
        go_simp
        go_at_call 43
        refine (rfill_c (w.heap.size + 1) 48 64 _ (inoK i 10) _ (by omega) (by omega) (by omega) (by omega) ho6).mono ?_
        rintro e w7 ⟨v7, rfl, ho7, hs7, hm7⟩
        have hz7 := hm7.size
        have hB7 := Below.mods hB6 hm7 (fun q hq e => by have h0 := own_base ho6 _ e; omega) (by omega)
        have hk7 := hk6.mods hm7 (fun e => by have h0 := own_base ho6 _ e; omega)
        go_simp
        refine hK.out _ _ ?_ (fun hHeld => ?_)
        · exact ⟨hk7.cell 11, hk7.cell 12⟩
        clear hK K
        refine tkA (i := 8) (oi := ⟨_, _, _, _, _, _⟩) ?_
        simp only [putA, List.set]
        refine tkA (i := 9) (oi := ⟨_, _, _, _, _, _⟩) ?_
        simp only [putA, List.set]
        refine wpAnyH_done (by kernel_rfl) ?_ _
        obtain ⟨g7, cap7, rfl⟩ := own_has ho7 (by omega)
        have HO7 := Lib.hid ho7; have HB7 := Lib.hid hB7
        clear hHeld hk0 hk3 hk6 hk7 hB0 hB3 hB6 hB7 hm3 hm6 hm7 hs3 hs6 hs7 ho3 ho6 ho7 HO2
        go_wp2
        go_ret2
        exact ⟨_, _, rfl, own_mono HO7.out (by omega), HB7.out⟩)
set_option maxRecDepth 100000 in
set_option maxHeartbeats 1000000 in
theorem rpino_no (i : InoN) (ho : inoOk i = false) (w : World) :
    Calls Tryz.prog 22 #[inoV i] w fun e w' => e = .returned (.tuple #[.slice none 0 0, .bool false]) ∧ Below w.heap.size w w' := by
  have hCmp := fun W => ino_cmp i W
  have gE : Tryz.prog.eqGuardType Tryz.prog.depth 56 = false := by kernel_rfl
  unfold inoV at hCmp
  have d0 : decide ((i 0 : Int) < 0) = false := by simp
  have bx := inoL_new w i 56
  obtain ⟨c0, c1, c2, c3, c4, c5, c6, c7, c8, c9, c10, c11, c12⟩ := cells13 bx
  clear bx
  unfold inoV
  by_cases hk2 : 2 < i 0
  · have d1 : decide ((2 : Int) < (i 0 : Int)) = true := by simp; omega
    clear hCmp gE hk2 ho
    go_enter Tryz.func22, Tryz.ntmps22
    go_wp2
    go_ret2
    exact ⟨rfl, ((Below.refl _ _).alloc (Nat.le_refl _) _)⟩
  · have d1 : decide ((2 : Int) < (i 0 : Int)) = false := by simp; omega
    obtain ⟨d2, hz⟩ : (((i 0 : Nat) : Int) == 0) = true ∧ allZ i = false := by
      simp only [inoOk, Bool.and_eq_false_iff, Bool.or_eq_false_iff, decide_eq_false_iff_not] at ho
      rcases ho with h | ⟨h1, h2⟩
      · omega
      · exact ⟨by simp; omega, h2⟩
    rw [hz] at hCmp
    clear hz ho hk2
    go_enter Tryz.func22, Tryz.ntmps22
    go_wp2
    go_ret2
    exact ⟨rfl, ((Below.refl _ _).alloc (Nat.le_refl _) _)⟩
theorem rpino_g (i : InoN) (hr : InoR i) (ho : inoOk i = true) (w : World) :
    Calls Tryz.prog 22 #[inoV i] w fun e w' => ∃ G cap, e = .returned (.tuple #[.slice (some ⟨G, 0, none⟩) 64 cap, .bool true]) ∧ w'.ownsRow w.heap.size 5 1 (.slice (some ⟨G, 0, none⟩) 64 cap) 64 (bytesL (inoF i) 64) ∧ Below w.heap.size w w' := by
  simp only [inoOk, Bool.and_eq_true, Bool.or_eq_true, decide_eq_true_eq] at ho
  by_cases h0 : i 0 = 0
  · exact rpino_z i hr (by omega) true (by simp [h0]) (fun _ => ho.2.resolve_left (by omega)) w
  · exact rpino_z i hr ho.1 false (by simpa using h0) (fun h => by cases h) w
end Go.Proofs.YtbbgahffcjbloaaGreat
end

section
/- The reference's numbers out of bytes. -/
namespace Go.Proofs.YtbbgahffcjbloaaGreat
open Go.RowKit

/-- a higher byte's place below the digits that were read -/
theorem or_hi (n x : Nat) (hn : n < 281474976710656) (hx : x < 256) : bits .or .i64 ((n : Int) * 256) (x : Int) = ((x + n * 256 : Nat) : Int) := by
  have e : (n : Int) * 256 = ((n * 256 : Nat) : Int) := by simp
  rw [e, (bits_nat .i64 63 (by decide) (fun m h0 h1 => by rw [IntKind.wrap_i64]; omega) (n * 256) x (by omega) (by omega)).2]
  have h2 : (256 : Nat) = 2 ^ 8 := by decide
  rw [h2, Nat.mul_comm n, ← Nat.two_pow_add_eq_or_of_lt (by omega), Nat.add_comm]
theorem leN_cons (f : Nat → Nat) : ∀ n, leN f (n + 1) = f 0 + leN (fun k => f (k + 1)) n * 256
  | 0 => by simp [leN]
  | n + 1 => by
    rw [leN, leN_cons f n, leN, Nat.pow_succ, Nat.add_mul, Nat.add_assoc, Nat.mul_assoc]
set_option maxRecDepth 100000 in
set_option maxHeartbeats 1000000 in
theorem rnum_c (B o n cap at_ bytes : Nat) (f : Nat → Nat) (w : World) (hf : ∀ k, f k < 256) (h : RdB w B o n f) (hb : bytes ≤ 6) (ha : at_ + bytes ≤ n) (hn : n ≤ 1000000) :
    Calls Tryz.prog 96 #[.slice (some ⟨B, o, none⟩) n cap, .int .i64 at_, .int .i64 bytes] w fun e w' => e = .returned (.int .i64 (leN (fun k => f (at_ + k)) bytes : Nat)) ∧ w = w' := by
  go_enter Tryz.func96, Tryz.ntmps96
  go_wp2
  go_loop [7, 8] (fun v i => ∃ k : Nat, k ≤ bytes ∧ i = .int .i64 ((bytes : Int) - 1 - k) ∧ v = .int .i64 (leN (fun j => f (at_ + (bytes - k) + j)) k : Nat)) (fun _ i => (intOf i + 1).toNat)
  case atStart => exact ⟨0, Nat.zero_le _, by simp, rfl⟩
  case round =>
    obtain ⟨k, hk, rfl, rfl⟩ := hrel
    by_cases hlt : k < bytes
    · obtain ⟨q, hq⟩ : ∃ q, q + k + 1 = bytes := ⟨bytes - k - 1, by omega⟩
      have e1 : (bytes : Int) - 1 - k = (q : Int) := by omega
      have hc := h (at_ + q) (by omega)
      have hl := leN_lt (fun j => f (at_ + (bytes - k) + j)) (fun j => hf _) k
      have hl2 : (256 : Nat) ^ k ≤ 256 ^ 5 := Nat.pow_le_pow_right (by decide) (by omega)
      have h5 : (256 : Nat) ^ 5 = 1099511627776 := by decide
      have hx := hf (at_ + q)
      have hor := or_hi (leN (fun j => f (at_ + (bytes - k) + j)) k) (f (at_ + q)) (by omega) hx
      have t1 : decide ((0 : Int) ≤ (q : Int)) = true := by simp
      rw [e1]
      go_wp2
      go_round
      case rel => exact ⟨k + 1, by omega, by go_num, by
        have e2 : bytes - (k + 1) = q := by omega
        have e3 : bytes - k = q + 1 := by omega
        have e4 : (fun j => f (at_ + q + (j + 1))) = fun j => f (at_ + (q + 1) + j) := by funext j; congr 1; omega
        rw [leN_cons, e2, e3, e4]
        simp⟩
      case measure => simp [intOf] <;> omega
    · obtain rfl : k = bytes := by omega
      go_wp2
      go_ret
      exact ⟨by simp, rfl⟩
end Go.Proofs.YtbbgahffcjbloaaGreat
end
