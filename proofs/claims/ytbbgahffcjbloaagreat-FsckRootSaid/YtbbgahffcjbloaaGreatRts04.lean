/- Part of the road to RootRow: FRep, LawW, LawH, LawZ, Row0, RtN, RootN, RepN, RInoP, RNum. -/
import Derived.Deep.RegionHeld3
import Derived.Test.YtbbgahffcjbloaaGreatRows
import Derived.WalkKit
import Derived.ProofKit
import Derived.OpenShut
import Derived.Below
import Derived.ChangeSame
import Derived.Deep.DeepCutAuto
import Derived.Test.YtbbgahffcjbloaaGreatRts03
import Derived.Test.YtbbgahffcjbloaaGreatTws08
import Derived.Test.YtbbgahffcjbloaaGreatRts02
import Derived.Test.YtbbgahffcjbloaaGreatTws05
import Derived.Test.YtbbgahffcjbloaaGreatTws01
import Derived.Test.YtbbgahffcjbloaaGreatTws02
set_option linter.all false
set_option linter.unusedSimpArgs false
set_option linter.unusedVariables false
set_option linter.unusedSectionVars false
section
/- fsck.Repair. -/
namespace Go.Proofs.YtbbgahffcjbloaaGreat
open Go.RowKit

theorem frep_of (f O : Nat → Nat) (T b o N cap : Nat) (w : World) (R : Calls Tryz.prog 24 #[.slice (some ⟨b, o, none⟩) N cap] w fun e w' => ∃ G capo v, e = .returned (.tuple #[.slice (some ⟨G, 0, none⟩) N capo, v, .bool true]) ∧
      w'.ownsRow w.heap.size 5 1 (.slice (some ⟨G, 0, none⟩) N capo) N (bytesL O N) ∧
      w'.ownsRow w.heap.size 3 1 v (unlike f O T).length ((unlike f O T).map fun n => .int .i64 (n : Nat)) ∧ Below w.heap.size w w') :
    Calls Tryz.prog 11 #[.slice (some ⟨b, o, none⟩) N cap] w fun e w' => ∃ G capo v, e = .returned (.tuple #[.slice (some ⟨G, 0, none⟩) N capo, v, .bool true]) ∧
      w'.ownsRow w.heap.size 5 1 (.slice (some ⟨G, 0, none⟩) N capo) N (bytesL O N) ∧
      w'.ownsRow w.heap.size 3 1 v (unlike f O T).length ((unlike f O T).map fun n => .int .i64 (n : Nat)) ∧ Below w.heap.size w w' := by
  have HR := Lib.hid R
  clear R
  go_enter Tryz.func11, Tryz.ntmps11
  go_wp2_with (go_at_call 24; refine HR.out.mono ?_; rintro e w1 ⟨G, capo, v, rfl, h1, h2, h3⟩; have H1 := Lib.hid h1; have H2 := Lib.hid h2; have H3 := Lib.hid h3; clear h1 h2 h3)
  go_ret3
  exact ⟨G, capo, v, rfl, H1.out, H2.out, H3.out⟩
theorem frep_c (g : Geo) (b o N cap d : Nat) (f : Nat → Nat) (w : World) (hg : g = supG f) (hr : RdB w b o N f) (hf : ∀ k, f k < 256) (hN : N = g.total * 1024) (hcap : N ≤ cap) (hcb : cap ≤ 9223372036854775807) (hof : ofOk f N = true) (hR : RepOk g f d) :
    Calls Tryz.prog 11 #[.slice (some ⟨b, o, none⟩) N cap] w fun e w' => ∃ G capo v, e = .returned (.tuple #[.slice (some ⟨G, 0, none⟩) N capo, v, .bool true]) ∧
      w'.ownsRow w.heap.size 5 1 (.slice (some ⟨G, 0, none⟩) N capo) N (bytesL (repO g f d) N) ∧
      w'.ownsRow w.heap.size 3 1 v (unlike f (repO g f d) g.total).length ((unlike f (repO g f d) g.total).map fun n => .int .i64 (n : Nat)) ∧ Below w.heap.size w w' :=
  frep_of f _ _ b o N cap w (rep_c g b o N cap d f w hg hr hf hN hcap hcb hof hR)

theorem rep_no (b o N cap : Nat) (f : Nat → Nat) (w : World) (hr : RdB w b o N f) (hf : ∀ k, f k < 256) (hN : 1024 ≤ N) (hcap : N ≤ cap) (hcb : cap ≤ 9223372036854775807) (hof : ofOk f N = false) :
    Calls Tryz.prog 24 #[.slice (some ⟨b, o, none⟩) N cap] w fun e w' => e = .returned (.tuple #[.slice none 0 0, .slice none 0 0, .bool false]) ∧ Below w.heap.size w w' := by
  have OF := of_c b o N cap f hf w hr hN hcap hcb
  have HOF := Lib.hid OF; have HO := Lib.hid hof
  clear OF hr hof
  go_enter Tryz.func24, Tryz.ntmps24
  go_wp2_with (go_at_call 45; refine HOF.out.mono ?_; rintro e w1 ⟨-, h2, hb1⟩; obtain rfl := h2 HO.out; obtain ⟨hc1, hf1⟩ := bcell hb1; have hz1 := hb1.size)
  go_ret3
  exact ⟨rfl, hb1.alloc hz1 _⟩
theorem frep_no (b o N cap : Nat) (f : Nat → Nat) (w : World) (hr : RdB w b o N f) (hf : ∀ k, f k < 256) (hN : 1024 ≤ N) (hcap : N ≤ cap) (hcb : cap ≤ 9223372036854775807) (hof : ofOk f N = false) :
    Calls Tryz.prog 11 #[.slice (some ⟨b, o, none⟩) N cap] w fun e w' => e = .returned (.tuple #[.slice none 0 0, .slice none 0 0, .bool false]) ∧ Below w.heap.size w w' := by
  have R := rep_no b o N cap f w hr hf hN hcap hcb hof
  have HR := Lib.hid R
  clear R hr hof
  go_enter Tryz.func11, Tryz.ntmps11
  go_wp2_with (go_at_call 24; refine HR.out.mono ?_; rintro e w1 ⟨rfl, h1⟩)
  go_ret3
  exact ⟨rfl, h1⟩

theorem same_c (g cap B cb : Nat) (w : World) (hv : w.cell? ⟨g, 0, none⟩ = some (.int .i64 2)) (hB : w.cell? ⟨B, 0, none⟩ = some (.int .i64 2)) :
    Calls Tryz.prog 16 #[.slice (some ⟨g, 0, none⟩) 1 cap, .slice (some ⟨B, 0, none⟩) 1 cb] w fun e w' => e = .returned (.bool true) ∧ Below w.heap.size w w' := by
  go_enter Tryz.func16, Tryz.ntmps16
  go_wp2
  go_loopw [5] (fun i wr => (i = .int .i64 0 ∧ wr = w) ∨ (i = .int .i64 1 ∧ ∃ q, wr = w.drewN q)) (fun i _ => 1 - (intOf i).toNat)
  case atStart => exact .inl ⟨rfl, rfl⟩
  case round =>
    rcases hrel with ⟨rfl, hw⟩ | ⟨rfl, q, rfl⟩
    · obtain rfl := hw.symm
      go_wp2
      go_quiet (fail)
      go_wp2
      go_roundw
      case rel => exact .inr ⟨rfl, _, rfl⟩
      case measure => simp [intOf]
    · go_wp2
      go_ret
      exact ⟨rfl, bdrewN (Below.refl _ _) _⟩
end Go.Proofs.YtbbgahffcjbloaaGreat
end

section
/- Repair at the statements' images; the example of the document. -/
namespace Go.Proofs.YtbbgahffcjbloaaGreat
open Go.RowKit

theorem lrep0_c {m n N : Nat} {h : Nat → Nat} (hn : n ≤ 9) (hm : n < m) (h8 : 8 ≤ m) (h1000 : m ≤ 1000) (hN : N = (3 + m) * 1024) (L : Like m n h) (W : World) (base G cap : Nat) (ho : W.ownsRow base 5 1 (.slice (some ⟨G, 0, none⟩) N cap) N (bytesL h N)) :
    Calls Tryz.prog 11 #[.slice (some ⟨G, 0, none⟩) N cap] W fun e w' => ∃ G' cap' v, e = .returned (.tuple #[.slice (some ⟨G', 0, none⟩) N cap', v, .bool true]) ∧
      w'.ownsRow W.heap.size 5 1 (.slice (some ⟨G', 0, none⟩) N cap') N (bytesL (repO (geo1 m) h 3) N) ∧
      w'.ownsRow W.heap.size 3 1 v (unlike h (repO (geo1 m) h 3) (3 + m)).length ((unlike h (repO (geo1 m) h 3) (3 + m)).map fun n => .int .i64 (n : Nat)) ∧ Below W.heap.size W w' := by
  obtain ⟨s1, s2⟩ := L.supOk h8 h1000
  obtain ⟨l1, l2, l3, l4⟩ := own_len ho
  unfold maxLen at l4
  have et : (geo1 m).total = 3 + m := by show 1 + 1 * (1 + 1 + m) = 3 + m; omega
  have := frep_c (geo1 m) G 0 N cap 3 h W s1.symm (own_rdB ho) L.byte (by rw [et]; exact hN) l3 (by omega) (by rw [hN]; exact L.ofOk h8 h1000) (L.ok hn hm h8 h1000)
  rw [et] at this
  exact this
theorem lrep_c {m n N : Nat} {h : Nat → Nat} (hn : n ≤ 9) (hm : n < m) (h8 : 8 ≤ m) (h1000 : m ≤ 1000) (hN : N = (3 + m) * 1024) (hhd : ∀ k, k < 1024 → headP (geo1 m) (fun i => decide (i < n + 1)) (fun i => decide (i < n + 1)) k = trF m n (1024 + k)) (L : Like m n h) (hi : ∀ q, 4096 ≤ q → q < N → h q = trF m n q)
    (W : World) (base G cap : Nat) (ho : W.ownsRow base 5 1 (.slice (some ⟨G, 0, none⟩) N cap) N (bytesL h N)) :
    Calls Tryz.prog 11 #[.slice (some ⟨G, 0, none⟩) N cap] W fun e w' => ∃ G' cap' v, e = .returned (.tuple #[.slice (some ⟨G', 0, none⟩) N cap', v, .bool true]) ∧
      w'.ownsRow W.heap.size 5 1 (.slice (some ⟨G', 0, none⟩) N cap') N (bytesL (trF m n) N) ∧
      w'.ownsRow W.heap.size 3 1 v (unlike h (trF m n) (3 + m)).length ((unlike h (trF m n) (3 + m)).map fun n => .int .i64 (n : Nat)) ∧ Below W.heap.size W w' := by
  have e0 : ∀ q, q < N → repO (geo1 m) h 3 q = trF m n q := fun q hq => by
    by_cases h4 : q < 4096
    · exact L.lo hn hm hhd q h4
    · rw [L.hi q (by omega)]; exact hi q (by omega) hq
  have e1 : bytesL (repO (geo1 m) h 3) N = bytesL (trF m n) N := bytesL_congr e0
  have e2 : unlike h (repO (geo1 m) h 3) (3 + m) = unlike h (trF m n) (3 + m) := unlike_congr (fun k hk => e0 k (by omega))
  have := lrep0_c hn hm h8 h1000 hN L W base G cap ho
  rw [e1, e2] at this
  exact this

/-! ### the example -/
def exF : Nat → Nat := fun q => if q = 2050 then 1 else mkF 8 q
theorem exF_like : Like 8 0 exF := by
  refine like_of (m := 8) (n := 0) (by decide) (fun k => ?_) (fun k hk => ?_) (fun _ => 1) (fun _ => by decide) (fun x hx k hk => ?_) (fun j h1 h2 => by omega) (fun j h1 h2 => ?_)
  · unfold exF; split
    · decide
    · exact mkF_lt 8 k
  · unfold exF; rw [if_neg (by omega)]; exact trF_sup 8 0 (by decide) k hk
  · obtain rfl : x = 0 := by omega
    unfold exF
    by_cases h2 : k = 2
    · subst h2; rw [if_pos rfl, (withL_2 _ _).1]
    · rw [if_neg (by omega)]
      have := trF_row 8 0 (by decide) 0 (by decide) k hk
      rw [if_pos (Nat.le_refl _)] at this
      rw [show mkF 8 (2048 + 64 * 0 + k) = trF 8 0 (2048 + 64 * 0 + k) from rfl, this]
      by_cases h3 : k = 3
      · subst h3; rw [(withL_2 _ _).2]; rfl
      · rw [withL_far _ _ _ h2 h3]
  · rw [rootE_no (m := 8) (n := 0) (by decide) h1 h2 (fun k hk => by unfold exF; rw [if_neg (by omega)]; rfl)]
    exact gone_zero 8 0 _
theorem exF_unlike : unlike exF (trF 8 0) 11 = [2] := by
  rw [unlike_of (fun k => decide (k = 2)) (fun k hk hp j hj => ?_) (fun k hk hp => ?_)]
  · rfl
  · have hk2 : k ≠ 2 := by simpa using hp
    unfold exF; rw [if_neg (by omega)]; rfl
  · have hk2 : k = 2 := by simpa using hp
    subst hk2
    refine ⟨2, by decide, ?_⟩
    have := trF_row 8 0 (by decide) 0 (by decide) 2 (by decide)
    rw [if_pos (Nat.le_refl _)] at this
    rw [show trF 8 0 (2 * 1024 + 2) = trF 8 0 (2048 + 64 * 0 + 2) from rfl, this]
    unfold exF
    rw [if_pos (by decide)]
    have h2 : inoF (treeI 0) 2 = 2 := rfl
    rw [h2]; decide
theorem ofOk_odd {f : Nat → Nat} {N : Nat} (h : N % 1024 ≠ 0) : ofOk f N = false := by
  unfold ofOk
  rw [decide_eq_false (p := N = (supG f).total * 1024) (fun e => h (by omega)), Bool.and_false, Bool.and_false]

set_option maxRecDepth 100000 in
set_option maxHeartbeats 4000000 in
theorem alive_c (w : World) : Calls Tryz.prog 9 #[] w fun e w' => e = .returned (.bool true) ∧ Below w.heap.size w w' := by
  have MK := fun W => mkfs_c 8 (by decide) (by decide) W
  have RP := fun W base G cap ho => lrep_c (m := 8) (n := 0) (N := 11264) (h := exF) (by decide) (by decide) (by decide) (by decide) (by decide) (fun k hk => head_8 ⟨k, hk⟩) exF_like (fun q h1 h2 => by unfold exF; rw [if_neg (by omega)]; rfl) W base G cap ho
  rw [show 3 + 8 = 11 from rfl, exF_unlike] at RP
  have HMK := Lib.hid MK; have HRP := Lib.hid RP
  clear MK RP
  go_enter Tryz.func9, Tryz.ntmps9
  go_wp2_with (first
    | (go_at_call 20; refine (HMK.out _).mono ?_; rintro e w1 ⟨G, cap, rfl, ho1, hb1⟩; obtain ⟨p1, p2⟩ := own_get ho1 (i := 2050) (by decide); obtain ⟨l1, l2, l3, l4⟩ := own_len ho1; unfold maxLen at l4; have HO1 := Lib.hid ho1; have HB1 := Lib.hid hb1; clear ho1 hb1)
    | fail)
  have o1 : (w1.setCell ⟨G, 2050, none⟩ (.int .u8 1)).ownsRow w.heap.size 5 1 (.slice (some ⟨G, 0, none⟩) 11264 cap) 11264 (bytesL exF 11264) := own_set HO1.out (i := 2050) (by decide) 1 rfl
  have hBs : Below w.heap.size w (w1.setCell ⟨G, 2050, none⟩ (.int .u8 1)) := HB1.out.setCell (p := ⟨G, 2050, none⟩) l1 _
  refine (HRP.out _ _ G cap o1).mono ?_
  rintro e w2 ⟨G2, cap2, v, rfl, ho2, hv2, hb2⟩
  obtain ⟨gw, capw, rfl, hcw, hcell⟩ := own_one hv2
  have hB2 := hBs.trans (hb2.mono hBs.size)
  have r2 := ((own_rdB o1).below hb2).sub 1 11263 (by decide)
  have hgl := (own_len o1).2.1
  have NO := frep_no G 1 11263 (cap - 1) (fun k => exF (1 + k)) w2 r2 (fun k => exF_like.byte _) (by decide) (by omega) (by omega) (ofOk_odd (by decide))
  have lgw := lt_of_cell hcell
  have HNO := Lib.hid NO; have HB2 := Lib.hid hB2
  have hc1 : (1 : Int) ≤ (cap : Int) := by omega
  have hcn : ¬ cap = 1 := by omega
  clear o1 hBs ho2 hv2 hb2 r2 NO hB2 p1 p2
  go_wp2_with (first
    | (go_at_call 11; refine HNO.out.mono ?_; rintro e w3 ⟨rfl, hb3⟩; obtain ⟨hc3, hf3⟩ := bcell hb3; have hz3 := hb3.size))
  have c3 : (w3.alloc (.cells #[.int .i64 2] 3)).cell? ⟨gw, 0, none⟩ = some (.int .i64 2) := by
    rw [World.cell?_of_block (w := w3) (Below.heap_alloc _ _ _ (by show gw < w3.heap.size; omega))]; exact (hc3 gw 0 lgw).trans hcell
  refine (same_c gw capw w3.heap.size 1 _ c3 ((Blk.newL (e := 3) (w := w3) [.int .i64 2]).cell 0)).mono ?_
  rintro e w4 ⟨rfl, hb4⟩
  go_wp2
  go_ret
  have hB2 := HB2.out
  have hB3 := hB2.trans (hb3.mono hB2.size)
  exact ⟨rfl, (hB3.alloc hB3.size _).trans (hb4.mono (by have := hB3.size; simp; omega))⟩
end Go.Proofs.YtbbgahffcjbloaaGreat
end

section
/- FsckHeads: the pure side, and the walk. -/
namespace Go.Proofs.YtbbgahffcjbloaaGreat
open Go.RowKit

end Go.Proofs.YtbbgahffcjbloaaGreat
end

section
namespace Go.Proofs.YtbbgahffcjbloaaGreat
open Go.RowKit

end Go.Proofs.YtbbgahffcjbloaaGreat
end

section
/- The row's end for a statement that answers true and leaves what was there alone. -/
namespace Go.Proofs.YtbbgahffcjbloaaGreat
open Go.ChangeShapes Go.WideShapes Go.ChangeAt Go.RowKit

theorem ownKnobNone : ownKnob Tryz.prog.godebug = none := by kernel_rfl
section
variable {H : Type} {enc : TypeId × Value → H} {P : Program}
/-- nothing that was there has changed, and the arguments read as they did: the post of a statement without variables -/
theorem still_post {f : Func} {s : ChangeSpec} {apart fresh handsOn again : Bool} {W W' : World} {args : Array Value} {v : Value} {ds gs : List (DataW H)} {pa : List MemPlace}
    (hW : DataW.Whole enc P f.params.toList s.vars apart W args.toList ds gs pa) (hb : Below W.heap.size W W')
    (hr : ∀ (b : Nat) (sp : Nat → Bool) (hd : Bool), DataW.TrodAll enc P W' b sp hd f.resultTypes.toList (v.resultList f.resultTypes.size) (s.fn H (ds ++ gs)).results [])
    (ha : ∀ sp : Nat → Bool, (∀ p ∈ pa, sp p.block = true) → DataW.TrodAll enc P W' 0 sp true f.params.toList args.toList (s.fn H (ds ++ gs)).args pa)
    (hv : ∀ sp : Nat → Bool, (∀ p ∈ pa, sp p.block = true) → DataW.TrodVars enc P W' sp s.vars (s.fn H (ds ++ gs)).vars [])
    (hk : ∀ (j : Nat) (t : TypeId) (r : Value), f.resultTypes[j]? = some t → (v.resultList f.resultTypes.size)[j]? = some r → Value.okWide P W' .any 0 t r) :
    s.post enc P f apart fresh handsOn again W args v W' := by
  have low : ∀ p ∈ pa, p.block < W.heap.size := fun p hp => hW.lt p hp
  have old : ∀ p ∈ pa, (fun b => decide (b < W.heap.size)) p.block = true := fun p hp => by simpa using low p hp
  refine ⟨ds, gs, pa, [], pa, [], hW, hr _ _ _, ha _ old, hv _ old, World.keptBut_mono (fun p hp => ⟨hp, .inr (.inl hp)⟩) (hb.frame (· ∈ pa)), fun _ => ?_⟩
  obtain ⟨_, _, _, _, _, hz, hn⟩ := hW
  refine ⟨hk, _, _, ([] ++ pa) ++ [], ⟨[] ++ pa, [], trodAll_append (ha _ (fun _ _ => rfl)) (hr _ _ _), hv _ (fun _ _ => rfl), rfl, fun b off hp => ?_, fun q => ?_⟩, fun p hp _ => ?_⟩
  · have hin : MemPlace.cell b off ∈ pa := by simpa using hp
    rw [hb.frozen (low _ hin)]
    exact hz b off hin
  · have := hn q
    simpa using this
  · simpa using hp
end
end Go.Proofs.YtbbgahffcjbloaaGreat
end

section
/- FsckRoot: the guards. -/
namespace Go.Proofs.YtbbgahffcjbloaaGreat
open Go.RowKit

set_option maxRecDepth 100000 in
set_option maxHeartbeats 4000000 in
theorem root_no (n which : Int) (w : World) (hbad : n < 0 ∨ 9 < n) : Calls Tryz.prog 8 #[.int .i64 n, .int .i64 which] w fun e w' => e = .returned (.bool true) ∧ Below w.heap.size w w' := by
  have AL := alive_c
  have HAL := Lib.hid AL
  clear AL
  by_cases h0 : n < 0
  · have d0 : decide (n < 0) = true := by simpa using h0
    clear hbad h0
    go_enter Tryz.func8, Tryz.ntmps8
    go_wp2_with (go_at_call 9; refine (HAL.out _).mono ?_; rintro e w1 ⟨rfl, hb1⟩)
    go_ret
    exact ⟨rfl, hb1⟩
  · have d0 : decide (n < 0) = false := by simpa using h0
    have h1 : 9 < n := by omega
    have d1 : decide (9 < n) = true := by simpa using h1
    clear hbad h0 h1
    go_enter Tryz.func8, Tryz.ntmps8
    go_wp2_with (go_at_call 9; refine (HAL.out _).mono ?_; rintro e w1 ⟨rfl, hb1⟩)
    go_ret
    exact ⟨rfl, hb1⟩
end Go.Proofs.YtbbgahffcjbloaaGreat
end

section
/- mend: a mender makes the root anew. -/
namespace Go.Proofs.YtbbgahffcjbloaaGreat
open Go.RowKit

/-- a new root's inode -/
def newI (d : Nat) : InoN := fun j => if j = 0 then 2 else if j = 2 then 1024 else if j = 3 then d else 0
/-- a taken inode is marked as made anew -/
theorem MAt.anew {w : World} {g : Geo} {b o N cap : Nat} {f : Nat → Nat} {X CB IB M : Nat} {out way : Value} {c : Nat → Bool} {adr : Nat → Option Nat} {tk : Nat → Tk} (h : MAt w g b o N cap f X CB IB M out way c adr tk) {x B : Nat} (hx : adr x = some B) :
    MAt (w.setCell ⟨B, 16, none⟩ (.bool true)) g b o N cap f X CB IB M out way c adr (fun y => if y = x then { tk x with anew := true } else tk y) := by
  obtain ⟨⟨v, hB, hv⟩, hino⟩ := h.tks x B hx
  have hm : Mods (fun k => k = B) w (w.setCell ⟨B, 16, none⟩ (.bool true)) := (Mods.refl (fun k => k = B) w).setCell ⟨B, 16, none⟩ (fun _ => rfl) _
  have hXB : X ≠ B := fun e => by
    have h1 : w.heap[X]? = _ := h.men
    rw [e, show w.heap[B]? = _ from hB] at h1
    exact absurd (tag_inj h1) (by decide)
  have hbB : b ≠ B := fun e => by
    have hr := h.img.rd 0 (by have := h.img.n; have := h.img.ok.total_pos; omega)
    rw [e, hB.cell] at hr
    have hmem := List.mem_of_getElem? hr
    obtain ⟨A, cc, hvs⟩ : ∃ A cap, v = .slice A (tk x).L.length cap := by
      rcases hv.2 with ⟨hv1, hn⟩ | ⟨g, cap, cur, hv1, _⟩
      · exact ⟨none, 0, by rw [hv1, hn]⟩
      · exact ⟨_, _, hv1⟩
    rw [hvs] at hmem
    simp [tkV] at hmem
  refine ⟨h.men.mods hm hXB, { h.img with rd := fun k hk => (hm.cell h.img.lt hbB).trans (h.img.rd k hk) }, h.cl.mods hm (fun e => by subst e; exact not_map h.cl hB), h.im.mods hm (fun e => by subst e; exact not_map h.im hB), h.ne, fun y B' e => ?_⟩
  by_cases hy : y = x
  · simp only [hy, if_true] at e ⊢
    rw [hx] at e
    cases e
    exact ⟨⟨v, hB.set 16 _, own_mods hv hm (fun k hk e => by
      subst e
      rcases hv.2 with ⟨hv1, _⟩ | ⟨g', cap', cur, hv1, _, hgg, _⟩
      · rw [hv1] at hk; cases hk
      · rw [hv1] at hk
        have e2 : g' = k := Option.some.inj hk
        rw [e2, show w.heap[k]? = _ from hB] at hgg
        exact absurd (tag_inj hgg) (by decide))⟩, hino⟩
  · simp only [if_neg hy]
    obtain ⟨⟨v', hB', hv'⟩, hino'⟩ := h.tks y B' e
    have hne : B' ≠ B := fun e2 => by
      subst e2
      have c1 := hB.cell 0
      have c2 := hB'.cell 0
      rw [c1] at c2
      simp [tkV] at c2
      omega
    refine ⟨⟨v', hB'.mods hm hne, own_mods hv' hm (fun k hk e => by
      subst e
      rcases hv'.2 with ⟨hv1, _⟩ | ⟨g', cap', cur, hv1, _, hgg, _⟩
      · rw [hv1] at hk; cases hk
      · rw [hv1] at hk
        have e2 : g' = k := Option.some.inj hk
        rw [e2, show w.heap[k]? = _ from hB] at hgg
        exact absurd (tag_inj hgg) (by decide))⟩, hino'⟩
set_option maxRecDepth 1000000 in
set_option maxHeartbeats 8000000 in
theorem rootn_c (g : Geo) (b o N cap : Nat) (f : Nat → Nat) (X CB IB M : Nat) (out : Value) (c : Nat → Bool) (adr : Nat → Option Nat) (tk : Nat → Tk) (w : World) (h : MAt w g b o N cap f X CB IB M out (.slice none 0 0) c adr tk) (hM : M ≤ 900000000)
    (I : InoN) (hIe : I = inoAt g f 1) (hbad : I 0 ≠ 2 ∨ I 2 < 1024 ∨ g.dOk (I 3) = false) (hfresh : adr 1 = none) (d : Nat) (hd : d = g.data 0) (hd0 : d < 4294967296) (hz : g.dOk 0 = false) (L : List Ptr) (hL : L = (keepR g 1 c (ptrsI (newI d))).1) (hLd : L = [⟨0, 0, 0, d⟩]) (hout : ∀ k q, out ≠ .int k q) :
    Calls Tryz.prog 47 #[.pointer (some ⟨X, 0, none⟩)] w fun e w' => e = .returned (.tuple #[]) ∧ ∃ B v, w.heap.size ≤ B ∧ B < w'.heap.size ∧
      MAt w' g b o N cap f X CB IB (M + 10) out v (keepR g 1 c (ptrsI (newI d))).2 (fun x => if x = 1 then some B else adr x)
        (fun x => if x = 1 then ⟨1, newI d, L, 1, true, 0⟩ else tk x) ∧ w'.ownsRow w.heap.size 108 1 v 1 [.pointer (some ⟨B, 0, none⟩)] ∧ Mods (fun k => k = CB ∨ k = IB ∨ k = X) w w' := by
  have AC := as_c g X b o N cap 1 f w h.img (h.men.cell 0) (h.men.cell 1) (h.men.cell 2) (h.men.cell 3)
  rw [← hIe] at AC
  have hIb : ∀ k, newI d k < 4294967296 := fun k => by unfold newI; split <;> (try split) <;> (try split) <;> omega
  have TD := fun W (hW : MAt W g b o N cap f X CB IB M out (.slice none 0 0) c adr tk) => taked_c g b o N cap f X CB IB M out c adr tk W hW hM (newI d) hIb rfl rfl hz hz hfresh d L hL hLd hout
  have DT := fun W => data_c g h.img.ok 0 (by have := h.img.ok.i1; have := h.img.ok.d1; have := h.img.ok.g1; unfold Geo.blocks; exact Nat.mul_pos (by omega) (by omega)) W
  rw [← hd] at DT
  have IDT := fun W => idata_c g h.img.ok (.slice (some ⟨b, o, none⟩) N cap) (I 3) W
  unfold inoV at AC TD
  have HTD := Lib.hid TD; have HDT := Lib.hid DT; have HID := Lib.hid IDT; have HH := Lib.hid h; have HBAD := Lib.hid hbad; have HOUT := Lib.hid hout
  have lX := h.men.lt
  have HLD := Lib.hid hLd
  clear TD DT IDT hIe hL hIb h hbad hd hout hLd
  go_enter Tryz.func47, Tryz.ntmps47
  go_upto_region 1 with (go_at_call 77; refine AC.mono ?_; rintro e w2 ⟨rfl, hb2⟩)
  obtain ⟨w3, hw3⟩ : ∃ W, W = w2.alloc (.cells #[.int .i64 (I 0 : Nat), .int .i64 (I 1 : Nat), .int .i64 (I 2 : Nat), .int .i64 (I 3 : Nat), .int .i64 (I 4 : Nat), .int .i64 (I 5 : Nat), .int .i64 (I 6 : Nat), .int .i64 (I 7 : Nat), .int .i64 (I 8 : Nat), .int .i64 (I 9 : Nat), .int .i64 (I 10 : Nat), .int .i64 (I 11 : Nat), .int .i64 (I 12 : Nat)] 56) := ⟨_, rfl⟩
  obtain ⟨q, hq⟩ : ∃ q, q = w2.heap.size := ⟨_, rfl⟩
  have k3 : Blk 56 w3 q [.int .i64 (I 0 : Nat), .int .i64 (I 1 : Nat), .int .i64 (I 2 : Nat), .int .i64 (I 3 : Nat), .int .i64 (I 4 : Nat), .int .i64 (I 5 : Nat), .int .i64 (I 6 : Nat), .int .i64 (I 7 : Nat), .int .i64 (I 8 : Nat), .int .i64 (I 9 : Nat), .int .i64 (I 10 : Nat), .int .i64 (I 11 : Nat), .int .i64 (I 12 : Nat)] := by rw [hw3, hq]; exact Blk.newL [.int .i64 (I 0 : Nat), .int .i64 (I 1 : Nat), .int .i64 (I 2 : Nat), .int .i64 (I 3 : Nat), .int .i64 (I 4 : Nat), .int .i64 (I 5 : Nat), .int .i64 (I 6 : Nat), .int .i64 (I 7 : Nat), .int .i64 (I 8 : Nat), .int .i64 (I 9 : Nat), .int .i64 (I 10 : Nat), .int .i64 (I 11 : Nat), .int .i64 (I 12 : Nat)]
  have hB23 : Below w2.heap.size w2 w3 := by rw [hw3]; exact (Below.refl _ _).alloc (Nat.le_refl _) _
  have h3 : MAt w3 g b o N cap f X CB IB M out (.slice none 0 0) c adr tk := (HH.out.below hb2).below hB23
  have hB3 : Below w.heap.size w w3 := hb2.trans (hB23.mono hb2.size)
  rw [← hw3]
  simp only [← hq]
  have y0 := k3.cell 0; have y2 := k3.cell 2; have y3 := k3.cell 3
  simp only [List.getElem?_cons_zero, List.getElem?_cons_succ] at y0 y2 y3
  have x0 := h3.men.cell 0; have x1 := h3.men.cell 1; have x2 := h3.men.cell 2; have x3 := h3.men.cell 3
  simp only [List.getElem?_cons_zero, List.getElem?_cons_succ] at x0 x1 x2 x3
  have HQ := Lib.hid hq; have H3 := Lib.hid h3; have HB3 := Lib.hid hB3
  clear hw3 hq AC hB23 h3 hB3 k3 hb2
  go_cut [24] (fun s24 wx => s24 = .bool false ∧ ∃ wq, wq = wx ∧ MAt wq g b o N cap f X CB IB M out (.slice none 0 0) c adr tk ∧ Below w.heap.size w wq)
  case first =>
    refine wp_region_held_drew (S := fun (w' : World) => w'.cell? ⟨q, 0, none⟩ = some (.int .i64 (I 0 : Nat)) ∧ w'.cell? ⟨q, 2, none⟩ = some (.int .i64 (I 2 : Nat)) ∧ w'.cell? ⟨q, 3, none⟩ = some (.int .i64 (I 3 : Nat)) ∧ w'.cell? ⟨X, 0, none⟩ = some (.int .i64 (g.gr : Nat)) ∧ w'.cell? ⟨X, 1, none⟩ = some (.int .i64 (g.ino : Nat)) ∧ w'.cell? ⟨X, 2, none⟩ = some (.int .i64 (g.da : Nat)) ∧ w'.cell? ⟨X, 3, none⟩ = some (.slice (some ⟨b, o, none⟩) N cap)) (by kernel_rfl) ⟨y0, y2, y3, x0, x1, x2, x3⟩ (fun hHeld => ?_)
    by_cases hk : I 0 = 2
    · have t0 : (((I 0 : Nat) : Int) == 2) = true := by simp [hk]
      by_cases hs : I 2 < 1024
      · have t1 : decide ((1024 : Int) ≤ ((I 2 : Nat) : Int)) = false := by simp; omega
        have t1' : ¬ (1024 : Int) ≤ ((I 2 : Nat) : Int) := by omega
        clear hs
        refine tkA (i := 0) (oi := ⟨_, _, _, _, _, _⟩) ?_
        simp only [putA, List.set]
        refine tkA (i := 1) (oi := ⟨_, _, _, _, _, _⟩) ?_
        simp only [putA, List.set]
        refine tkA (i := 2) (oi := ⟨_, _, _, _, _, _⟩) ?_
        simp only [putA, List.set]
        refine tkA (i := 3) (oi := ⟨_, _, _, _, _, _⟩) ?_
        simp only [putA, List.set]
        refine tkA (i := 4) (oi := ⟨_, _, _, _, _, _⟩) ?_
        simp only [putA, List.set]
        refine tkA (i := 5) (oi := ⟨_, _, _, _, _, _⟩) ?_
        simp only [putA, List.set]
        refine tkA (i := 6) (oi := ⟨_, _, _, _, _, _⟩) ?_
        simp only [putA, List.set]
        refine tkA (i := 7) (oi := ⟨_, _, _, _, _, _⟩) ?_
        simp only [putA, List.set]
        refine tkA (i := 8) (oi := ⟨_, _, _, _, _, _⟩) ?_
        simp only [putA, List.set]
        refine wpAnyH_take (i := 9) (oi := ⟨_, _, _, _, _, _⟩) (v := undef) rfl (by kernel_rfl) (by kernel_rfl) (by kernel_rfl) (fun _ _ _ h => h) (Or.inr ⟨by kernel_rfl, rfl⟩) (by assumption) ?_
        simp only [Act.put, List.setIfInBounds_toArray, List.set_cons_zero, List.set_cons_succ]
        refine wpAnyH_take (i := 10) (oi := ⟨_, _, _, _, _, _⟩) (v := undef) rfl (by kernel_rfl) (by kernel_rfl) (by kernel_rfl) (fun _ _ _ h => h) (Or.inr ⟨by kernel_rfl, rfl⟩) (by assumption) ?_
        simp only [Act.put, List.setIfInBounds_toArray, List.set_cons_zero, List.set_cons_succ]
        refine wpAnyH_take (i := 11) (oi := ⟨_, _, _, _, _, _⟩) (v := undef) rfl (by kernel_rfl) (by kernel_rfl) (by kernel_rfl) (fun _ _ _ h => h) (Or.inr ⟨by kernel_rfl, rfl⟩) (by assumption) ?_
        simp only [Act.put, List.setIfInBounds_toArray, List.set_cons_zero, List.set_cons_succ]
        refine wpAnyH_take (i := 12) (oi := ⟨_, _, _, _, _, _⟩) (v := undef) rfl (by kernel_rfl) (by kernel_rfl) (by kernel_rfl) (fun _ _ _ h => h) (Or.inr ⟨by kernel_rfl, rfl⟩) (by assumption) ?_
        simp only [Act.put, List.setIfInBounds_toArray, List.set_cons_zero, List.set_cons_succ]
        refine wpAnyH_take (i := 13) (oi := ⟨_, _, _, _, _, _⟩) (v := undef) rfl (by kernel_rfl) (by kernel_rfl) (by kernel_rfl) (fun _ _ _ h => h) (Or.inr ⟨by kernel_rfl, rfl⟩) (by assumption) ?_
        simp only [Act.put, List.setIfInBounds_toArray, List.set_cons_zero, List.set_cons_succ]
        refine wpAnyH_take (i := 14) (oi := ⟨_, _, _, _, _, _⟩) (v := undef) rfl (by kernel_rfl) (by kernel_rfl) (by kernel_rfl) (fun _ _ _ h => h) (Or.inr ⟨by kernel_rfl, rfl⟩) (by assumption) ?_
        simp only [Act.put, List.setIfInBounds_toArray, List.set_cons_zero, List.set_cons_succ]
        refine wpAnyH_take (i := 15) (oi := ⟨_, _, _, _, _, _⟩) (v := undef) rfl (by kernel_rfl) (by kernel_rfl) (by kernel_rfl) (fun _ _ _ h => h) (Or.inr ⟨by kernel_rfl, rfl⟩) (by assumption) ?_
        simp only [Act.put, List.setIfInBounds_toArray, List.set_cons_zero, List.set_cons_succ]
        refine wpAnyH_take (i := 16) (oi := ⟨_, _, _, _, _, _⟩) (v := undef) rfl (by kernel_rfl) (by kernel_rfl) (by kernel_rfl) (fun _ _ _ h => h) (Or.inr ⟨by kernel_rfl, rfl⟩) (by assumption) ?_
        simp only [Act.put, List.setIfInBounds_toArray, List.set_cons_zero, List.set_cons_succ]
        refine tkA (i := 17) (oi := ⟨_, _, _, _, _, _⟩) ?_
        simp only [putA, List.set]
        refine wpAnyH_done (by kernel_rfl) ?_ _
        go_wp2_with fail
        go_meet
        exact ⟨rfl, _, rfl, H3.out.drew, HB3.out.drew⟩
      · have t1 : decide ((1024 : Int) ≤ ((I 2 : Nat) : Int)) = true := by simp; omega
        have t1' : (1024 : Int) ≤ ((I 2 : Nat) : Int) := by omega
        have hdk : g.dOk (I 3) = false := by
          rcases HBAD.out with e | e | e
          · exact absurd hk e
          · exact absurd e hs
          · exact e
        clear hs
        refine tkA (i := 0) (oi := ⟨_, _, _, _, _, _⟩) ?_
        simp only [putA, List.set]
        refine tkA (i := 1) (oi := ⟨_, _, _, _, _, _⟩) ?_
        simp only [putA, List.set]
        refine tkA (i := 2) (oi := ⟨_, _, _, _, _, _⟩) ?_
        simp only [putA, List.set]
        refine tkA (i := 3) (oi := ⟨_, _, _, _, _, _⟩) ?_
        simp only [putA, List.set]
        refine tkA (i := 4) (oi := ⟨_, _, _, _, _, _⟩) ?_
        simp only [putA, List.set]
        refine tkA (i := 5) (oi := ⟨_, _, _, _, _, _⟩) ?_
        simp only [putA, List.set]
        refine tkA (i := 6) (oi := ⟨_, _, _, _, _, _⟩) ?_
        simp only [putA, List.set]
        refine tkA (i := 7) (oi := ⟨_, _, _, _, _, _⟩) ?_
        simp only [putA, List.set]
        refine tkA (i := 8) (oi := ⟨_, _, _, _, _, _⟩) ?_
        simp only [putA, List.set]
        refine tkA (i := 9) (oi := ⟨_, _, _, _, _, _⟩) ?_
        simp only [putA, List.set]
        refine tkA (i := 10) (oi := ⟨_, _, _, _, _, _⟩) ?_
        simp only [putA, List.set]
        refine tkA (i := 11) (oi := ⟨_, _, _, _, _, _⟩) ?_
        simp only [putA, List.set]
        refine tkA (i := 12) (oi := ⟨_, _, _, _, _, _⟩) ?_
        simp only [putA, List.set]
        refine tkA (i := 13) (oi := ⟨_, _, _, _, _, _⟩) ?_
        simp only [putA, List.set]
        refine tkA (i := 14) (oi := ⟨_, _, _, _, _, _⟩) ?_
        simp only [putA, List.set]
        refine tkA (i := 15) (oi := ⟨_, _, _, _, _, _⟩) ?_
        simp only [putA, List.set]
        refine wpAnyH_ready (rs := [16]) (by kernel_rfl) (by simp) ?_
        refine AllReadyH.cons rfl (fun K hK => ?_) AllReadyH.nil
        go_simp
        go_wp2_with (go_at_call 78; refine (HID.out _).mono ?_; rintro e w4 ⟨rfl, hb4⟩)
        have h4 := H3.out.drew.below hb4
        refine hK.out _ _ ⟨(hb4.cell (p := ⟨q, 0, none⟩) (lt_of_cell y0)).trans y0, (hb4.cell (p := ⟨q, 2, none⟩) (lt_of_cell y0)).trans y2, (hb4.cell (p := ⟨q, 3, none⟩) (lt_of_cell y0)).trans y3, h4.men.cell 0, h4.men.cell 1, h4.men.cell 2, h4.men.cell 3⟩ (fun hHeld => ?_)
        clear hK K
        refine tkA (i := 17) (oi := ⟨_, _, _, _, _, _⟩) ?_
        simp only [putA, List.set]
        refine wpAnyH_done (by kernel_rfl) ?_ _
        go_wp2_with fail
        go_meet
        exact ⟨rfl, _, rfl, h4, HB3.out.drew.trans (hb4.mono HB3.out.size)⟩
    · have t0 : (((I 0 : Nat) : Int) == 2) = false := by simp; omega
      refine tkA (i := 0) (oi := ⟨_, _, _, _, _, _⟩) ?_
      simp only [putA, List.set]
      refine tkA (i := 1) (oi := ⟨_, _, _, _, _, _⟩) ?_
      simp only [putA, List.set]
      refine tkA (i := 2) (oi := ⟨_, _, _, _, _, _⟩) ?_
      simp only [putA, List.set]
      refine tkA (i := 3) (oi := ⟨_, _, _, _, _, _⟩) ?_
      simp only [putA, List.set]
      refine wpAnyH_take (i := 4) (oi := ⟨_, _, _, _, _, _⟩) (v := undef) rfl (by kernel_rfl) (by kernel_rfl) (by kernel_rfl) (fun _ _ _ h => h) (Or.inr ⟨by kernel_rfl, rfl⟩) (by assumption) ?_
      simp only [Act.put, List.setIfInBounds_toArray, List.set_cons_zero, List.set_cons_succ]
      refine wpAnyH_take (i := 5) (oi := ⟨_, _, _, _, _, _⟩) (v := undef) rfl (by kernel_rfl) (by kernel_rfl) (by kernel_rfl) (fun _ _ _ h => h) (Or.inr ⟨by kernel_rfl, rfl⟩) (by assumption) ?_
      simp only [Act.put, List.setIfInBounds_toArray, List.set_cons_zero, List.set_cons_succ]
      refine wpAnyH_take (i := 6) (oi := ⟨_, _, _, _, _, _⟩) (v := undef) rfl (by kernel_rfl) (by kernel_rfl) (by kernel_rfl) (fun _ _ _ h => h) (Or.inr ⟨by kernel_rfl, rfl⟩) (by assumption) ?_
      simp only [Act.put, List.setIfInBounds_toArray, List.set_cons_zero, List.set_cons_succ]
      refine tkA (i := 7) (oi := ⟨_, _, _, _, _, _⟩) ?_
      simp only [putA, List.set]
      refine tkA (i := 8) (oi := ⟨_, _, _, _, _, _⟩) ?_
      simp only [putA, List.set]
      refine wpAnyH_take (i := 9) (oi := ⟨_, _, _, _, _, _⟩) (v := undef) rfl (by kernel_rfl) (by kernel_rfl) (by kernel_rfl) (fun _ _ _ h => h) (Or.inr ⟨by kernel_rfl, rfl⟩) (by assumption) ?_
      simp only [Act.put, List.setIfInBounds_toArray, List.set_cons_zero, List.set_cons_succ]
      refine wpAnyH_take (i := 10) (oi := ⟨_, _, _, _, _, _⟩) (v := undef) rfl (by kernel_rfl) (by kernel_rfl) (by kernel_rfl) (fun _ _ _ h => h) (Or.inr ⟨by kernel_rfl, rfl⟩) (by assumption) ?_
      simp only [Act.put, List.setIfInBounds_toArray, List.set_cons_zero, List.set_cons_succ]
      refine wpAnyH_take (i := 11) (oi := ⟨_, _, _, _, _, _⟩) (v := undef) rfl (by kernel_rfl) (by kernel_rfl) (by kernel_rfl) (fun _ _ _ h => h) (Or.inr ⟨by kernel_rfl, rfl⟩) (by assumption) ?_
      simp only [Act.put, List.setIfInBounds_toArray, List.set_cons_zero, List.set_cons_succ]
      refine wpAnyH_take (i := 12) (oi := ⟨_, _, _, _, _, _⟩) (v := undef) rfl (by kernel_rfl) (by kernel_rfl) (by kernel_rfl) (fun _ _ _ h => h) (Or.inr ⟨by kernel_rfl, rfl⟩) (by assumption) ?_
      simp only [Act.put, List.setIfInBounds_toArray, List.set_cons_zero, List.set_cons_succ]
      refine wpAnyH_take (i := 13) (oi := ⟨_, _, _, _, _, _⟩) (v := undef) rfl (by kernel_rfl) (by kernel_rfl) (by kernel_rfl) (fun _ _ _ h => h) (Or.inr ⟨by kernel_rfl, rfl⟩) (by assumption) ?_
      simp only [Act.put, List.setIfInBounds_toArray, List.set_cons_zero, List.set_cons_succ]
      refine wpAnyH_take (i := 14) (oi := ⟨_, _, _, _, _, _⟩) (v := undef) rfl (by kernel_rfl) (by kernel_rfl) (by kernel_rfl) (fun _ _ _ h => h) (Or.inr ⟨by kernel_rfl, rfl⟩) (by assumption) ?_
      simp only [Act.put, List.setIfInBounds_toArray, List.set_cons_zero, List.set_cons_succ]
      refine wpAnyH_take (i := 15) (oi := ⟨_, _, _, _, _, _⟩) (v := undef) rfl (by kernel_rfl) (by kernel_rfl) (by kernel_rfl) (fun _ _ _ h => h) (Or.inr ⟨by kernel_rfl, rfl⟩) (by assumption) ?_
      simp only [Act.put, List.setIfInBounds_toArray, List.set_cons_zero, List.set_cons_succ]
      refine wpAnyH_take (i := 16) (oi := ⟨_, _, _, _, _, _⟩) (v := undef) rfl (by kernel_rfl) (by kernel_rfl) (by kernel_rfl) (fun _ _ _ h => h) (Or.inr ⟨by kernel_rfl, rfl⟩) (by assumption) ?_
      simp only [Act.put, List.setIfInBounds_toArray, List.set_cons_zero, List.set_cons_succ]
      refine tkA (i := 17) (oi := ⟨_, _, _, _, _, _⟩) ?_
      simp only [putA, List.set]
      refine wpAnyH_done (by kernel_rfl) ?_ _
      go_wp2_with fail
      go_meet
      exact ⟨rfl, _, rfl, H3.out.drew, HB3.out.drew⟩
  case rest =>
  obtain ⟨rfl, w4, rfl, h4, hB4⟩ := hcut
  have x0 := h4.men.cell 0; have x1 := h4.men.cell 1; have x2 := h4.men.cell 2; have x3 := h4.men.cell 3
  simp only [List.getElem?_cons_zero, List.getElem?_cons_succ] at x0 x1 x2 x3
  have lX4 := h4.men.lt
  have H4 := Lib.hid h4; have HB4 := Lib.hid hB4
  clear h4 hB4
  go_upto_region 5 with (first
    | (go_at_call 80; refine (HDT.out _).mono ?_; rintro e w5 ⟨rfl, hb5⟩; have hz5 := hb5.size; have h5 := H4.out.below hb5; have H5 := Lib.hid h5; have HB5 := Lib.hid hb5; clear h5 hb5)
    | (go_at_call 79; refine (HTD.out w5 H5.out).mono ?_; rintro e w6 ⟨rfl, B, v, hBl, hBs, h6, hown, hm6⟩))
  have hlk : (Instr.lookup 104 (.map (some IB)) (.int .i64 1) false).run Tryz.prog w6 = .ok (.pointer (some ⟨B, 0, none⟩)) w6 := in_look h6.im (y := 1) (by unfold natOk; omega)
  have x6 := h6.men.cell 6
  simp only [List.getElem?_cons_zero, List.getElem?_cons_succ] at x6
  obtain ⟨vt, hTB, hTo⟩ := (h6.tks 1 B (if_pos rfl)).1
  have u16 := hTB.cell 16
  have f16 := hTB.frozen 16
  unfold tkV at u16
  simp only [List.getElem?_cons_zero, List.getElem?_cons_succ] at u16
  have e : (fun y => if y = 1 then { (fun x => if x = 1 then (⟨1, newI d, L, 1, false, 0⟩ : Tk) else tk x) 1 with anew := true } else (fun x => if x = 1 then (⟨1, newI d, L, 1, false, 0⟩ : Tk) else tk x) y) = fun x => if x = 1 then (⟨1, newI d, L, 1, true, 0⟩ : Tk) else tk x := by
    funext y
    by_cases hy : y = 1
    · rw [if_pos hy, if_pos hy]; rfl
    · rw [if_neg hy, if_neg hy]; exact if_neg hy
  have hA := h6.anew (x := 1) (B := B) (if_pos rfl)
  rw [e] at hA
  have hms : Mods (fun i => i = B) w6 (w6.setCell ⟨B, 16, none⟩ (.bool true)) := (Mods.refl (fun i => i = B) w6).setCell ⟨B, 16, none⟩ (fun _ => rfl) _
  have hvB : ∀ k, v.ownBlock = some k → ¬ k = B := fun k hk e => by
    rcases hown.2 with ⟨h1, _⟩ | ⟨g', cap', cur, hv, _, hg, _⟩
    · rw [h1] at hk; cases hk
    · rw [hv] at hk
      have e2 : g' = k := Option.some.inj hk
      rw [e2, e, show w6.heap[B]? = _ from hTB] at hg
      exact absurd (tag_inj hg) (by decide)
  have hO := own_mods hown hms hvB
  have HA := Lib.hid hA; have HMS := Lib.hid hms; have HO := Lib.hid hO; have HM6 := Lib.hid hm6
  have lX6 := h6.men.lt
  clear hA hms hvB hO hm6 hown h6 hTB hTo x0 x1 x2 x3
  go_wp2_with fail
  go_end0
  have hz4 := HB4.out.size
  have a1 : Mods (fun k => k = CB ∨ k = IB ∨ k = X) w w5 := (Mods.of_below (HB4.out.trans (HB5.out.mono hz4))).mono (fun i hi e => by omega)
  refine ⟨rfl, B, by omega, by simpa using hBs, v, ?_, own_mono HO.out (by omega), (a1.trans HM6.out (fun i _ e => e)).trans HMS.out (fun i hi e => by have := a1.size; omega)⟩
  exact HA.out
end Go.Proofs.YtbbgahffcjbloaaGreat
end

section
/- mend.Repair of an image without a root: the root is made anew. -/
namespace Go.Proofs.YtbbgahffcjbloaaGreat
open Go.RowKit

def rootTN (d : Nat) : Tk := ⟨1, newI d, [⟨0, 0, 0, d⟩], 1, true, 0⟩
def repCN (g : Geo) (d : Nat) : Nat → Bool := (keepR g 1 (fun _ => false) (ptrsI (newI d))).2
def mkN (d : Nat) : Nat → Option Tk := fun x => if x = 1 then some (rootTN d) else none
def zeroE : Nat → Nat × ByteArray := fun _ => (0, ⟨#[]⟩)
def repDN (g : Geo) (f : Nat → Nat) (d : Nat) : DS := dirF g f 1 1 zeroE ⟨repCN g d, updT (mkN d) 1 { rootTN d with links := 2 }, fun _ => false, zeroE⟩ 32
structure NewOk (g : Geo) (f : Nat → Nat) (d : Nat) : Prop where
  ok : g.Ok
  one : g.gr = 1
  bad : inoAt g f 1 0 ≠ 2 ∨ inoAt g f 1 2 < 1024 ∨ g.dOk (inoAt g f 1 3) = false
  dat : d = g.data 0
  dd : g.dOk d = true
  z : g.dOk 0 = false
section
variable {g : Geo} {b o N cap d : Nat} {f : Nat → Nat} {w : World} {PB YB X CB IB G capo q5 : Nat}
theorem NewOk.keep (h : NewOk g f d) : keepR g 1 (fun _ => false) (ptrsI (newI d)) = ([⟨0, 0, 0, d⟩], fun x => false || decide (x = d)) := keep_first (g := g) (c := fun _ => false) (I := newI d) h.dd rfl
theorem NewOk.lt (h : NewOk g f d) : d < g.total ∧ d < 4294967296 := by
  have := (Geo.dOk_iff.1 h.dd).2.1
  have h2 := h.ok.total_le
  exact ⟨this, by omega⟩
theorem pass1n_c (hR : NewOk g f d) (L : Lo w b X CB IB G capo) (W : World) (hK : Kp g b o N cap w W PB YB X q5) (h0 : Pa0 g b o N cap f X CB IB G capo W) (ho : OwnG b N G capo f W) :
    Calls Tryz.prog 47 #[.pointer (some ⟨X, 0, none⟩)] W fun e w' => e = .returned (.tuple #[]) ∧ Kp g b o N cap w w' PB YB X q5 ∧ Pa1 g b o N cap (repCN g d) (mkN d) f X CB IB G capo w' ∧ OwnG b N G capo f w' := by
  refine (rootn_c g b o N cap f X CB IB 0 _ (fun _ => false) (fun _ => none) _ W h0 (by decide) (inoAt g f 1) rfl hR.bad rfl d hR.dat hR.lt.2 hR.z _ rfl (by rw [hR.keep]) (fun _ _ e => by cases e)).mono ?_
  rintro e w' ⟨rfl, B, v, hB1, hB2, hA, hv, hm⟩
  obtain ⟨gw, capw, rfl, hcw, hcell⟩ := own_one hv
  rw [show (keepR g 1 (fun _ => false) (ptrsI (newI d))).1 = [⟨0, 0, 0, d⟩] by rw [hR.keep]] at hA
  refine ⟨rfl, hK.mods hm fun k hk _ => ?_, ⟨B, gw, capw, hcw, ⟨_, _, hA, fun x => ?_, if_pos rfl⟩, hcell⟩, own_mods ho hm fun q hq e => ?_⟩
  · rcases hk with rfl | rfl | rfl
    · exact ⟨L.c, fun ys e fr hh => (not_map h0.cl hh).elim⟩
    · exact ⟨L.i, fun ys e fr hh => (not_map h0.im hh).elim⟩
    · refine ⟨L.x, fun ys e fr hh => ?_⟩
      rw [men_tag h0 hh]; decide
  · unfold mkN rootTN
    by_cases hx : x = 1 <;> simp [hx]
  · have hGq : G = q := Option.some.inj hq
    subst hGq
    rcases e with e | e | e
    · exact own_ne_map ho h0.cl e
    · exact own_ne_map ho h0.im e
    · exact own_ne_blk ho h0.men (by decide) e
theorem pass2n_c (hR : NewOk g f d) (hN : N = g.total * 1024) (L : Lo w b X CB IB G capo) (W : World) (hK : Kp g b o N cap w W PB YB X q5) (h1 : Pa1 g b o N cap (repCN g d) (mkN d) f X CB IB G capo W) (ho : OwnG b N G capo f W) :
    Calls Tryz.prog 48 #[.pointer (some ⟨YB, 0, none⟩)] W fun e w' => e = .returned (.tuple #[]) ∧ Kp g b o N cap w w' PB YB X q5 ∧ Pa2 g b o N cap (repDN g f d) f X CB IB G capo w' ∧ OwnG b N G capo (putF f (d * 1024) 1024 (pbF (repDN g f d).E 32)) w' := by
  obtain ⟨B, gw, capw, hcw, hM, hcell⟩ := h1
  have DC : ∀ W2 way', MS W2 g b o N cap f X CB IB 10 (.slice (some ⟨G, 0, none⟩) N capo) way' (repCN g d) (mkN d) 1 B → W2.ownsRow (b + 1) 5 1 (.slice (some ⟨G, 0, none⟩) N capo) N (bytesL f N) →
      Calls Tryz.prog 49 #[.pointer (some ⟨X, 0, none⟩), .pointer (some ⟨B, 0, none⟩)] W2 fun e w' => e = .returned (.tuple #[]) ∧ MS w' g b o N cap f X CB IB (10 + 320) (.slice (some ⟨G, 0, none⟩) N capo) way' (repDN g f d).c (repDN g f d).ins 1 B ∧ w'.ownsRow (b + 1) 5 1 (.slice (some ⟨G, 0, none⟩) N capo) N (bytesL (putF f (d * 1024) 1024 (pbF (repDN g f d).E 32)) N) ∧ Mods (fun i => DMods W2 X CB IB i ∨ i = G) W2 w' := fun W2 way' hM2 ho2 =>
    dir_c g b o N cap f X CB IB 10 way' (repCN g d) (mkN d) 1 B G capo d f (rootTN d) W2 hM2 (by decide) (if_pos rfl) rfl rfl rfl hR.lt.1 ⟨by decide, by decide⟩ ⟨Nat.one_pos, (by decide : (1 : Nat) < 4294967296)⟩ hN ho2 L.k zeroE rfl (fun j _ => ⟨by show (0 : Nat) < 4294967296; decide, by show (0 : Nat) ≤ 1000000; decide, rfl⟩) (fun j _ _ => .inr (plain_noIno (noIno_at rfl) hR.z)) (repDN g f d) rfl
  refine (rep1_c g b o N cap f X CB IB 10 gw capw (repCN g d) (mkN d) 1 B G capo d YB f (putF f (d * 1024) 1024 (pbF (repDN g f d).E 32)) (repDN g f d) W hM hK.yb hcell hcw ho DC).mono ?_
  rintro e w' ⟨rfl, A, k, hM2, ho2, hm⟩
  obtain ⟨adr, tk, hA, hi, ha⟩ := hM
  refine ⟨rfl, hK.mods hm fun q hq hql => ?_, ⟨B, A, k, hM2⟩, ho2⟩
  have hLx := L.x
  rcases hq with (rfl | rfl | ⟨⟨ys0, fr0, hh0⟩, hXi⟩ | hq) | rfl | rfl
  · exact ⟨L.c, fun ys e fr hh => (not_map hA.cl hh).elim⟩
  · exact ⟨L.i, fun ys e fr hh => (not_map hA.im hh).elim⟩
  · refine ⟨by omega, fun ys e fr hh => ?_⟩
    rw [cells_eq hh0 hh]; decide
  · omega
  · refine ⟨L.g, fun ys e fr hh => ?_⟩
    obtain ⟨ys1, fr1, ht⟩ := own_tag ho
    rw [cells_eq ht hh]; decide
  · refine ⟨L.x, fun ys e fr hh => ?_⟩
    rw [men_tag hA hh]; decide
/-- what is made: the root alone, without entries -/
def newE : Nat → Nat × ByteArray := fun j => if j = 0 then (1, ⟨#[46]⟩) else if j = 1 then (1, ⟨#[46, 46]⟩) else (0, ⟨#[]⟩)
theorem repDN_eq (g : Geo) (f : Nat → Nat) (d : Nat) : repDN g f d = ⟨repCN g d, updT (mkN d) 1 { rootTN d with links := 2 }, fun _ => false, newE⟩ := by
  have K : ∀ k, dirF g f 1 1 zeroE ⟨repCN g d, updT (mkN d) 1 { rootTN d with links := 2 }, fun _ => false, zeroE⟩ (k + 2) = ⟨repCN g d, updT (mkN d) 1 { rootTN d with links := 2 }, fun _ => false, newE⟩ := by
    intro k
    induction k with
    | zero =>
      show dirS g f 1 1 zeroE 1 (dirS g f 1 1 zeroE 0 ⟨repCN g d, updT (mkN d) 1 { rootTN d with links := 2 }, fun _ => false, zeroE⟩) = _
      have e : setE (setE zeroE 0 (1, ⟨#[46]⟩)) 1 (1, ⟨#[46, 46]⟩) = newE := by
        funext j
        unfold setE newE zeroE
        by_cases h0 : j = 0
        · rw [if_neg (by omega), if_pos h0, if_pos h0]
        · by_cases h1 : j = 1
          · rw [if_pos h1, if_neg h0, if_pos h1]
          · rw [if_neg h1, if_neg h0, if_neg h0, if_neg h1]
      rw [← e]
      rfl
    | succ k ih =>
      show dirS g f 1 1 zeroE (k + 2) (dirF g f 1 1 zeroE _ (k + 2)) = _
      rw [ih]
      unfold dirS
      rw [if_neg (by omega)]
      have e : ∀ c ins, stayF g f 1 c ins (fun _ => false) (zeroE (k + 2)).1 (zeroE (k + 2)).2 = none := fun c ins => rfl
      simp only [e]
      congr 1
      funext j
      unfold setE newE
      by_cases h0 : j = k + 2
      · rw [if_pos h0, if_neg (by omega), if_neg (by omega)]
      · rw [if_neg h0]
  exact K 30
theorem NewOk.ds (h : NewOk g f d) : DsOk g (repDN g f d) := by
  rw [repDN_eq]
  have hi : g.iOk 1 = true := by
    rw [Geo.iOk_iff]
    have := h.ok.i1; have := h.ok.g1
    refine ⟨Nat.le_refl _, ?_⟩
    unfold Geo.inodes
    exact Nat.mul_pos (Nat.mul_pos (by omega) (by omega)) (by decide)
  refine ⟨fun x t hx => ?_, fun p hp => ?_⟩
  · dsimp only [updT, mkN] at hx
    by_cases hx1 : x = 1
    · rw [if_pos hx1] at hx
      cases hx
      refine ⟨⟨by show (1 : Nat) ≤ 100000000; decide, fun p hp => ?_, ⟨by show (2 : Nat) ≤ 2; decide, by show (2 : Nat) ≠ 0; decide⟩, by show (2 : Nat) < 65536; decide, by show (1024 : Nat) < 4294967296; decide⟩, by rw [hx1]; exact hi⟩
      have hp2 : p = ⟨0, 0, 0, d⟩ := by simpa [rootTN] using hp
      subst hp2
      exact ⟨rfl, by show (0 : Nat) < 8; decide, h.lt.2⟩
    · rw [if_neg hx1, if_neg hx1] at hx; cases hx
  · have e : repCN g d p = (false || decide (p = d)) := by unfold repCN; rw [h.keep]
    dsimp only at hp
    rw [e] at hp
    have hpd : p = d := by simpa using hp
    rw [hpd]; exact h.dd
theorem newO_lt (f : Nat → Nat) (hf : ∀ k, f k < 256) : ∀ k, outD g f d (repDN g f d) k < 256 := by
  rw [repDN_eq]
  refine putF_lt (inosF_lt _ _ _ (putF_lt hf (pbF_byte _ (fun j _ => ?_))) _) (headP_lt _ _ _)
  show (newE j).2.size ≤ 27
  unfold newE
  split
  · show (1 : Nat) ≤ 27; decide
  · split
    · show (2 : Nat) ≤ 27; decide
    · show (0 : Nat) ≤ 27; decide
theorem frepn_c (hg : g = supG f) (hr : RdB w b o N f) (hf : ∀ k, f k < 256) (hN : N = g.total * 1024) (hcap : N ≤ cap) (hcb : cap ≤ 9223372036854775807) (hof : ofOk f N = true) (hR : NewOk g f d) :
    Calls Tryz.prog 11 #[.slice (some ⟨b, o, none⟩) N cap] w fun e w' => ∃ G capo v, e = .returned (.tuple #[.slice (some ⟨G, 0, none⟩) N capo, v, .bool true]) ∧
      w'.ownsRow w.heap.size 5 1 (.slice (some ⟨G, 0, none⟩) N capo) N (bytesL (outD g f d (repDN g f d)) N) ∧
      w'.ownsRow w.heap.size 3 1 v (unlike f (outD g f d (repDN g f d)) g.total).length ((unlike f (outD g f d (repDN g f d)) g.total).map fun n => .int .i64 (n : Nat)) ∧ Below w.heap.size w w' :=
  frep_of f _ _ b o N cap w (rep_g (repDN g f d) (repCN g d) (mkN d) g b o N cap d f w hg hr hf hN hcap hcb hof hR.ok hR.one hR.ds (newO_lt f hf) (fun _ _ _ _ _ _ _ _ hL W => pass1n_c hR hL W) (fun _ _ _ _ _ _ _ _ hL W => pass2n_c hR hN hL W))
end
end Go.Proofs.YtbbgahffcjbloaaGreat
end

section
/- The reference's inodes, packed. -/
namespace Go.Proofs.YtbbgahffcjbloaaGreat
open Go.RowKit

set_option maxRecDepth 100000 in
set_option maxHeartbeats 4000000 in
theorem rpino_z (i : InoN) (hr : InoR i) (hk2 : i 0 ≤ 2) (z : Bool) (d2 : (((i 0 : Nat) : Int) == 0) = z) (hCm : z = true → allZ i = true) (w : World) :
    Calls Tryz.prog 22 #[inoV i] w fun e w' => ∃ G cap, e = .returned (.tuple #[.slice (some ⟨G, 0, none⟩) 64 cap, .bool true]) ∧ w'.ownsRow w.heap.size 5 1 (.slice (some ⟨G, 0, none⟩) 64 cap) 64 (bytesL (inoF i) 64) ∧ Below w.heap.size w w' := by
  have hCmp := fun W => ino_cmp i W
  have gE : Tryz.prog.eqGuardType Tryz.prog.depth 56 = false := by kernel_rfl
  unfold inoV at hCmp
  have hC2 : z = true → ∀ W, (Op.equalIn 10000 56 (.agg #[.int .i64 (i 0 : Nat), .int .i64 (i 1 : Nat), .int .i64 (i 2 : Nat), .int .i64 (i 3 : Nat), .int .i64 (i 4 : Nat), .int .i64 (i 5 : Nat), .int .i64 (i 6 : Nat), .int .i64 (i 7 : Nat), .int .i64 (i 8 : Nat), .int .i64 (i 9 : Nat), .int .i64 (i 10 : Nat), .int .i64 (i 11 : Nat), .int .i64 (i 12 : Nat)]) (.agg #[.int .i64 0, .int .i64 0, .int .i64 0, .int .i64 0, .int .i64 0, .int .i64 0, .int .i64 0, .int .i64 0, .int .i64 0, .int .i64 0, .int .i64 0, .int .i64 0, .int .i64 0])).run Tryz.prog W = .ok true W := fun h W => by
    have := hCmp W; rwa [hCm h] at this
  clear hCmp hCm
  have l1 := hr.l; have l2 := hr.s
  have l11 := hr.p 11 (by omega) (by omega); have l12 := hr.p 12 (by omega) (by omega)
  have HR := Lib.hid hr
  have e02 : bytesL (catF 0 (fun _ => 0) (byteN (i 0))) (0 + 2) = bytesL (byteN (i 0)) 2 := bytesL_congr fun k _ => by simp [catF]
  have d0 : decide ((i 0 : Int) < 0) = false := by simp
  have d1 : decide ((2 : Int) < (i 0 : Int)) = false := by simp; omega
  have bx := inoL_new w i 56
  obtain ⟨c0, c1, c2, c3, c4, c5, c6, c7, c8, c9, c10, c11, c12⟩ := cells13 bx
  have F2 := rfits2_c (i 1) l1
  have F4a := rfits4_c (i 2) l2
  have F4b := rfits4_c (i 11) l11
  have F4c := rfits4_c (i 12) l12
  have HF2 := Lib.hid F2; have HFa := Lib.hid F4a; have HFb := Lib.hid F4b; have HFc := Lib.hid F4c; have HBX := Lib.hid bx
  unfold inoV
  clear hr F2 F4a F4b F4c bx
  cases z
  all_goals (try simp only [forall_const] at hC2)
  all_goals (
    go_enter Tryz.func22, Tryz.ntmps22
    go_wp2_with (go_at_call 41; first
      | (with_reducible refine (HF2.out _).mono ?_; rintro e w1 ⟨rfl, rfl⟩)
      | (with_reducible refine (HFa.out _).mono ?_; rintro e w1 ⟨rfl, rfl⟩)
      | (with_reducible refine (HFb.out _).mono ?_; rintro e w1 ⟨rfl, rfl⟩)
      | (with_reducible refine (HFc.out _).mono ?_; rintro e w1 ⟨rfl, rfl⟩))
    have hk0 := HBX.out.drew
    have hB0 : Below w.heap.size w (w.alloc (.cells #[.int .i64 (i 0 : Nat), .int .i64 (i 1 : Nat), .int .i64 (i 2 : Nat), .int .i64 (i 3 : Nat), .int .i64 (i 4 : Nat), .int .i64 (i 5 : Nat), .int .i64 (i 6 : Nat), .int .i64 (i 7 : Nat), .int .i64 (i 8 : Nat), .int .i64 (i 9 : Nat), .int .i64 (i 10 : Nat), .int .i64 (i 11 : Nat), .int .i64 (i 12 : Nat)] 56)).drew := ((Below.refl _ w).alloc (Nat.le_refl _) _).drew
    have hs0 : w.heap.size + 1 ≤ (w.alloc (.cells #[.int .i64 (i 0 : Nat), .int .i64 (i 1 : Nat), .int .i64 (i 2 : Nat), .int .i64 (i 3 : Nat), .int .i64 (i 4 : Nat), .int .i64 (i 5 : Nat), .int .i64 (i 6 : Nat), .int .i64 (i 7 : Nat), .int .i64 (i 8 : Nat), .int .i64 (i 9 : Nat), .int .i64 (i 10 : Nat), .int .i64 (i 11 : Nat), .int .i64 (i 12 : Nat)] 56)).drew.heap.size := by simp
    refine wp_region_held_drew (S := (fun w' => w'.cell? ⟨w.heap.size, 0, none⟩ = some (.int .i64 (i 0 : Nat)) ∧ w'.cell? ⟨w.heap.size, 1, none⟩ = some (.int .i64 (i 1 : Nat)) ∧ w'.cell? ⟨w.heap.size, 2, none⟩ = some (.int .i64 (i 2 : Nat)))) (by kernel_rfl) ⟨hk0.cell 0, hk0.cell 1, hk0.cell 2⟩ (fun hHeld => ?_)
    refine tkA (i := 0) (oi := ⟨_, _, _, _, _, _⟩) ?_
    simp only [putA, List.set]
    refine tkA (i := 1) (oi := ⟨_, _, _, _, _, _⟩) ?_
    simp only [putA, List.set]
    refine tkA (i := 3) (oi := ⟨_, _, _, _, _, _⟩) ?_
    simp only [putA, List.set]
    refine tkA (i := 4) (oi := ⟨_, _, _, _, _, _⟩) ?_
    simp only [putA, List.set]
    refine tkA (i := 6) (oi := ⟨_, _, _, _, _, _⟩) ?_
    simp only [putA, List.set]
    refine tkA (i := 7) (oi := ⟨_, _, _, _, _, _⟩) ?_
    simp only [putA, List.set]
    generalize (w.alloc (.cells #[.int .i64 (i 0 : Nat), .int .i64 (i 1 : Nat), .int .i64 (i 2 : Nat), .int .i64 (i 3 : Nat), .int .i64 (i 4 : Nat), .int .i64 (i 5 : Nat), .int .i64 (i 6 : Nat), .int .i64 (i 7 : Nat), .int .i64 (i 8 : Nat), .int .i64 (i 9 : Nat), .int .i64 (i 10 : Nat), .int .i64 (i 11 : Nat), .int .i64 (i 12 : Nat)] 56)).drew = W0 at hk0 hB0 hs0 hHeld ⊢
    refine wpAnyH_ready (rs := [2]) (by kernel_rfl) (by simp) ?_
    refine AllReadyH.cons rfl (fun K hK => ?_) AllReadyH.nil
    go_simp
    go_at_call 42
    refine (rput2_c (w.heap.size + 1) (0) (i 0) 2 _ (fun _ => 0) _ (by omega) (by omega) (by omega) (by omega) (by omega) (.inl (World.ownsRow_nil _ _ _ _))).mono ?_
    rintro e w2 ⟨v2, rfl, ho2, hs2, hm2⟩
    have hz2 := hm2.size
    have hB2 := Below.mods hB0 hm2 (fun i hi e => (by cases e)) (by omega)
    have hk2 := hk0.mods hm2 (fun e => (by cases e))
    rw [e02] at ho2
    go_simp
    refine hK.out _ _ ?_ (fun hHeld => ?_)
    · exact ⟨hk2.cell 0, hk2.cell 1, hk2.cell 2⟩
    clear hK K
    refine wpAnyH_ready (rs := [5]) (by kernel_rfl) (by simp) ?_
    refine AllReadyH.cons rfl (fun K hK => ?_) AllReadyH.nil
    go_simp
    go_at_call 42
    refine (rput2_c (w.heap.size + 1) (2) (i 1) 2 _ (byteN (i 0)) _ (by omega) (by omega) (by omega) (by omega) (by omega) (.inl ho2)).mono ?_
    rintro e w5 ⟨v5, rfl, ho5, hs5, hm5⟩
    have hz5 := hm5.size
    have hB5 := Below.mods hB2 hm5 (fun i hi e => (by have h0 := own_base ho2 _ e; omega)) (by omega)
    have hk5 := hk2.mods hm5 (fun e => (by have h0 := own_base ho2 _ e; omega))
    go_simp
    refine hK.out _ _ ?_ (fun hHeld => ?_)
    · exact ⟨hk5.cell 0, hk5.cell 1, hk5.cell 2⟩
    clear hK K
    refine wpAnyH_ready (rs := [8]) (by kernel_rfl) (by simp) ?_
    refine AllReadyH.cons rfl (fun K hK => ?_) AllReadyH.nil
    go_simp
    go_at_call 42
    refine (rput2_c (w.heap.size + 1) (4) (i 2) 4 _ (catF 2 (byteN (i 0)) (byteN (i 1))) _ (by omega) (by omega) (by omega) (by omega) (by omega) (.inl ho5)).mono ?_
    rintro e w8 ⟨v8, rfl, ho8, hs8, hm8⟩
    have hz8 := hm8.size
    have hB8 := Below.mods hB5 hm8 (fun i hi e => (by have h0 := own_base ho5 _ e; omega)) (by omega)
    have hk8 := hk5.mods hm8 (fun e => (by have h0 := own_base ho5 _ e; omega))
    go_simp
    refine hK.out _ _ ?_ (fun hHeld => ?_)
    · exact ⟨hk8.cell 0, hk8.cell 1, hk8.cell 2⟩
    clear hK K
    refine tkA (i := 9) (oi := ⟨_, _, _, _, _, _⟩) ?_
    simp only [putA, List.set]
    refine wpAnyH_done (by kernel_rfl) ?_ _
    have hzz : w.heap.size + 1 ≤ w8.heap.size := by omega
    replace ho8 : w8.ownsRow (w.heap.size + 1) 5 1 v8 8 (bytesL (inoK i 0) 8) := ho8
    have lk8 := hk8.lt
    clear hHeld hk0 hk2 hk5 hB0 hB2 hB5 hm2 hm5 hm8 hs2 hs5 hs8 ho2 ho5 hs0 hz2 hz5 hz8 c0 c1 c2 c3 c4 c5 c6 c7 c8 c9 c10 c11 c12 d0 d1 d2 hC2 gE
    obtain ⟨g8, cap8, rfl⟩ := own_has ho8 (by omega)
    go_wp2
    go_loopw [4, 5] (fun v j' wr => ∃ (j G cap : Nat), j ≤ 8 ∧ j' = .int .i64 j ∧ v = .slice (some ⟨G, 0, none⟩) (8 + 4 * j) cap ∧ wr.ownsRow (w.heap.size + 1) 5 1 (.slice (some ⟨G, 0, none⟩) (8 + 4 * j) cap) (8 + 4 * j) (bytesL (inoK i j) (8 + 4 * j)) ∧ Blk 56 wr w.heap.size (inoL i) ∧ Below w.heap.size w wr ∧ w.heap.size + 1 ≤ wr.heap.size) (fun _ j' _ => 8 - (intOf j').toNat)
    case atStart => exact ⟨0, _, _, by omega, rfl, rfl, ho8, hk8, hB8, hzz⟩
    case round =>
      obtain ⟨j, G, cap, hj, rfl, rfl, ho, hkb, hBw, hzw⟩ := hrel
      by_cases hlt : j < 8
      · have hc := hkb.cell (3 + j)
        rw [inoL_get _ _ (by omega)] at hc
        have lp := HR.out.p (3 + j) (by omega) (by omega)
        have F4 := rfits4_c (i (3 + j)) lp
        have RP := fun W hW hO => rput2_c (w.heap.size + 1) (8 + 4 * j) (i (3 + j)) 4 (.slice (some ⟨G, 0, none⟩) (8 + 4 * j) cap) (inoK i j) W (by omega) (by omega) lp (by omega) hW hO
        have HF4 := Lib.hid F4; have HRP := Lib.hid RP; have HO := Lib.hid ho; have HK := Lib.hid hkb; have HBW := Lib.hid hBw
        have lkb := hkb.lt
        clear F4 RP ho hkb hBw
        go_wp2_with (first
          | (go_at_call 41; refine (HF4.out _).mono ?_; rintro e w1 ⟨rfl, rfl⟩)
          | (go_at_call 42; refine (HRP.out _ hzw (.inl HO.out)).mono ?_; rintro e w3 ⟨v3, rfl, ho3, hs3, hm3⟩))
        go_roundw
        case rel =>
          obtain ⟨g3, cap3, rfl⟩ := own_has ho3 (by omega)
          have hz3 := hm3.size
          exact ⟨j + 1, g3, cap3, by omega, by go_num, rfl, ho3, HK.out.mods hm3 (fun e => by have h0 := own_base HO.out _ e; omega), Below.mods HBW.out hm3 (fun q hq e => by have h0 := own_base HO.out _ e; omega) (by omega), by omega⟩
        case measure => simp [intOf]; omega
      · obtain rfl : j = 8 := by omega
        have HO := Lib.hid ho; have HBW := Lib.hid hBw
        have e11 := hkb.cell 11; have e12 := hkb.cell 12
        rw [inoL_get _ _ (by omega)] at e11 e12
        have l9 := hkb.lt
        clear ho hlt
        go_wp2
        refine wp_region_held_drew (S := (fun w' => w'.cell? ⟨w.heap.size, 11, none⟩ = some (.int .i64 (i 11 : Nat)) ∧ w'.cell? ⟨w.heap.size, 12, none⟩ = some (.int .i64 (i 12 : Nat)))) (by kernel_rfl) ⟨e11, e12⟩ (fun hHeld => ?_)
        refine tkA (i := 0) (oi := ⟨_, _, _, _, _, _⟩) ?_
        simp only [putA, List.set]
        refine tkA (i := 1) (oi := ⟨_, _, _, _, _, _⟩) ?_
        simp only [putA, List.set]
        refine tkA (i := 2) (oi := ⟨_, _, _, _, _, _⟩) ?_
        simp only [putA, List.set]
        refine tkA (i := 4) (oi := ⟨_, _, _, _, _, _⟩) ?_
        simp only [putA, List.set]
        refine tkA (i := 5) (oi := ⟨_, _, _, _, _, _⟩) ?_
        simp only [putA, List.set]
        have hk0 := hkb.drew
        have hB0 := hBw.drew
        have HO2 := own_below HO.out (Below.refl _ wr).drew
        have hs0 : w.heap.size + 1 ≤ wr.drew.heap.size := hzw
        clear hkb hBw
        generalize wr.drew = W0 at hk0 hB0 hs0 HO2 hHeld ⊢
        refine wpAnyH_ready (rs := [3]) (by kernel_rfl) (by simp) ?_
        refine AllReadyH.cons rfl (fun K hK => ?_) AllReadyH.nil
        go_simp
        go_at_call 42
        refine (rput2_c (w.heap.size + 1) (40) (i 11) 4 _ (inoK i 8) _ (by omega) (by omega) (by omega) (by omega) (by omega) (.inl HO2)).mono ?_
        rintro e w3 ⟨v3, rfl, ho3, hs3, hm3⟩
        have hz3 := hm3.size
        have hB3 := Below.mods hB0 hm3 (fun i hi e => (by have h0 := own_base HO2 _ e; omega)) (by omega)
        have hk3 := hk0.mods hm3 (fun e => (by have h0 := own_base HO2 _ e; omega))
        go_simp
        refine hK.out _ _ ?_ (fun hHeld => ?_)
        · exact ⟨hk3.cell 11, hk3.cell 12⟩
        clear hK K
        refine wpAnyH_ready (rs := [6]) (by kernel_rfl) (by simp) ?_
        refine AllReadyH.cons rfl (fun K hK => ?_) AllReadyH.nil
        go_simp
        go_at_call 42
        refine (rput2_c (w.heap.size + 1) (44) (i 12) 4 _ (inoK i 9) _ (by omega) (by omega) (by omega) (by omega) (by omega) (.inl ho3)).mono ?_
        rintro e w6 ⟨v6, rfl, ho6, hs6, hm6⟩
        have hz6 := hm6.size
        have hB6 := Below.mods hB3 hm6 (fun i hi e => (by have h0 := own_base ho3 _ e; omega)) (by omega)
        have hk6 := hk3.mods hm6 (fun e => (by have h0 := own_base ho3 _ e; omega))
        go_simp
        refine hK.out _ _ ?_ (fun hHeld => ?_)
        · exact ⟨hk6.cell 11, hk6.cell 12⟩
        clear hK K
        refine wpAnyH_ready (rs := [7]) (by kernel_rfl) (by simp) ?_
        refine AllReadyH.cons rfl (fun K hK => ?_) AllReadyH.nil
        go_simp
        go_at_call 43
        refine (rfill_c (w.heap.size + 1) 48 64 _ (inoK i 10) _ (by omega) (by omega) (by omega) (by omega) ho6).mono ?_
        rintro e w7 ⟨v7, rfl, ho7, hs7, hm7⟩
        have hz7 := hm7.size
        have hB7 := Below.mods hB6 hm7 (fun q hq e => by have h0 := own_base ho6 _ e; omega) (by omega)
        have hk7 := hk6.mods hm7 (fun e => by have h0 := own_base ho6 _ e; omega)
        go_simp
        refine hK.out _ _ ?_ (fun hHeld => ?_)
        · exact ⟨hk7.cell 11, hk7.cell 12⟩
        clear hK K
        refine tkA (i := 8) (oi := ⟨_, _, _, _, _, _⟩) ?_
        simp only [putA, List.set]
        refine tkA (i := 9) (oi := ⟨_, _, _, _, _, _⟩) ?_
        simp only [putA, List.set]
        refine wpAnyH_done (by kernel_rfl) ?_ _
        obtain ⟨g7, cap7, rfl⟩ := own_has ho7 (by omega)
        have HO7 := Lib.hid ho7; have HB7 := Lib.hid hB7
        clear hHeld hk0 hk3 hk6 hk7 hB0 hB3 hB6 hB7 hm3 hm6 hm7 hs3 hs6 hs7 ho3 ho6 ho7 HO2
        go_wp2
        go_ret2
        exact ⟨_, _, rfl, own_mono HO7.out (by omega), HB7.out⟩)
set_option maxRecDepth 100000 in
set_option maxHeartbeats 1000000 in
theorem rpino_no (i : InoN) (ho : inoOk i = false) (w : World) :
    Calls Tryz.prog 22 #[inoV i] w fun e w' => e = .returned (.tuple #[.slice none 0 0, .bool false]) ∧ Below w.heap.size w w' := by
  have hCmp := fun W => ino_cmp i W
  have gE : Tryz.prog.eqGuardType Tryz.prog.depth 56 = false := by kernel_rfl
  unfold inoV at hCmp
  have d0 : decide ((i 0 : Int) < 0) = false := by simp
  have bx := inoL_new w i 56
  obtain ⟨c0, c1, c2, c3, c4, c5, c6, c7, c8, c9, c10, c11, c12⟩ := cells13 bx
  clear bx
  unfold inoV
  by_cases hk2 : 2 < i 0
  · have d1 : decide ((2 : Int) < (i 0 : Int)) = true := by simp; omega
    clear hCmp gE hk2 ho
    go_enter Tryz.func22, Tryz.ntmps22
    go_wp2
    go_ret2
    exact ⟨rfl, ((Below.refl _ _).alloc (Nat.le_refl _) _)⟩
  · have d1 : decide ((2 : Int) < (i 0 : Int)) = false := by simp; omega
    obtain ⟨d2, hz⟩ : (((i 0 : Nat) : Int) == 0) = true ∧ allZ i = false := by
      simp only [inoOk, Bool.and_eq_false_iff, Bool.or_eq_false_iff, decide_eq_false_iff_not] at ho
      rcases ho with h | ⟨h1, h2⟩
      · omega
      · exact ⟨by simp; omega, h2⟩
    rw [hz] at hCmp
    clear hz ho hk2
    go_enter Tryz.func22, Tryz.ntmps22
    go_wp2
    go_ret2
    exact ⟨rfl, ((Below.refl _ _).alloc (Nat.le_refl _) _)⟩
theorem rpino_g (i : InoN) (hr : InoR i) (ho : inoOk i = true) (w : World) :
    Calls Tryz.prog 22 #[inoV i] w fun e w' => ∃ G cap, e = .returned (.tuple #[.slice (some ⟨G, 0, none⟩) 64 cap, .bool true]) ∧ w'.ownsRow w.heap.size 5 1 (.slice (some ⟨G, 0, none⟩) 64 cap) 64 (bytesL (inoF i) 64) ∧ Below w.heap.size w w' := by
  simp only [inoOk, Bool.and_eq_true, Bool.or_eq_true, decide_eq_true_eq] at ho
  by_cases h0 : i 0 = 0
  · exact rpino_z i hr (by omega) true (by simp [h0]) (fun _ => ho.2.resolve_left (by omega)) w
  · exact rpino_z i hr ho.1 false (by simpa using h0) (fun h => by cases h) w
end Go.Proofs.YtbbgahffcjbloaaGreat
end

section
/- The reference's numbers out of bytes. -/
namespace Go.Proofs.YtbbgahffcjbloaaGreat
open Go.RowKit

/-- a higher byte's place below the digits that were read -/
theorem or_hi (n x : Nat) (hn : n < 281474976710656) (hx : x < 256) : bits .or .i64 ((n : Int) * 256) (x : Int) = ((x + n * 256 : Nat) : Int) := by
  have e : (n : Int) * 256 = ((n * 256 : Nat) : Int) := by simp
  rw [e, (bits_nat .i64 63 (by decide) (fun m h0 h1 => by rw [IntKind.wrap_i64]; omega) (n * 256) x (by omega) (by omega)).2]
  have h2 : (256 : Nat) = 2 ^ 8 := by decide
  rw [h2, Nat.mul_comm n, ← Nat.two_pow_add_eq_or_of_lt (by omega), Nat.add_comm]
theorem leN_cons (f : Nat → Nat) : ∀ n, leN f (n + 1) = f 0 + leN (fun k => f (k + 1)) n * 256
  | 0 => by simp [leN]
  | n + 1 => by
    rw [leN, leN_cons f n, leN, Nat.pow_succ, Nat.add_mul, Nat.add_assoc, Nat.mul_assoc]
set_option maxRecDepth 100000 in
set_option maxHeartbeats 1000000 in
theorem rnum_c (B o n cap at_ bytes : Nat) (f : Nat → Nat) (w : World) (hf : ∀ k, f k < 256) (h : RdB w B o n f) (hb : bytes ≤ 6) (ha : at_ + bytes ≤ n) (hn : n ≤ 1000000) :
    Calls Tryz.prog 96 #[.slice (some ⟨B, o, none⟩) n cap, .int .i64 at_, .int .i64 bytes] w fun e w' => e = .returned (.int .i64 (leN (fun k => f (at_ + k)) bytes : Nat)) ∧ w = w' := by
  go_enter Tryz.func96, Tryz.ntmps96
  go_wp2
  go_loop [7, 8] (fun v i => ∃ k : Nat, k ≤ bytes ∧ i = .int .i64 ((bytes : Int) - 1 - k) ∧ v = .int .i64 (leN (fun j => f (at_ + (bytes - k) + j)) k : Nat)) (fun _ i => (intOf i + 1).toNat)
  case atStart => exact ⟨0, Nat.zero_le _, by simp, rfl⟩
  case round =>
    obtain ⟨k, hk, rfl, rfl⟩ := hrel
    by_cases hlt : k < bytes
    · obtain ⟨q, hq⟩ : ∃ q, q + k + 1 = bytes := ⟨bytes - k - 1, by omega⟩
      have e1 : (bytes : Int) - 1 - k = (q : Int) := by omega
      have hc := h (at_ + q) (by omega)
      have hl := leN_lt (fun j => f (at_ + (bytes - k) + j)) (fun j => hf _) k
      have hl2 : (256 : Nat) ^ k ≤ 256 ^ 5 := Nat.pow_le_pow_right (by decide) (by omega)
      have h5 : (256 : Nat) ^ 5 = 1099511627776 := by decide
      have hx := hf (at_ + q)
      have hor := or_hi (leN (fun j => f (at_ + (bytes - k) + j)) k) (f (at_ + q)) (by omega) hx
      have t1 : decide ((0 : Int) ≤ (q : Int)) = true := by simp
      rw [e1]
      go_wp2
      go_round
      case rel => exact ⟨k + 1, by omega, by go_num, by
        have e2 : bytes - (k + 1) = q := by omega
        have e3 : bytes - k = q + 1 := by omega
        have e4 : (fun j => f (at_ + q + (j + 1))) = fun j => f (at_ + (q + 1) + j) := by funext j; congr 1; omega
        rw [leN_cons, e2, e3, e4]
        simp⟩
      case measure => simp [intOf] <;> omega
    · obtain rfl : k = bytes := by omega
      go_wp2
      go_ret
      exact ⟨by simp, rfl⟩
end Go.Proofs.YtbbgahffcjbloaaGreat
end
