/- Part of the road to RpCard: FRep, LawW, LawH, LawZ, Row0, RpIter, RpShelf, RpTold, RpWord, RpDirs, RpInode. -/
import Derived.Deep.RegionHeld3
import Derived.Test.YtbeabehebenocaaGreatDoorRows
import Derived.WalkKit
import Derived.ProofKit
import Derived.OpenShut
import Derived.Below
import Derived.ChangeSame
import Derived.Shelf.Small.Strs
import Derived.Shelf.LaysM
import Derived.Shelf.Strconv.Itoa3
import Derived.Test.YtbeabehebenocaaGreatDoorProg
import Derived.Sort.Grow
import Derived.Lib.ItoaLen
import Derived.Deep.DeepCutAuto
import Derived.Deep.CutBlock
import Derived.Deep.AppendLies
import Derived.Test.YtbeabehebenocaaGreatDoorRpo13
import Derived.Test.YtbeabehebenocaaGreatDoorRpo08
import Derived.Test.YtbeabehebenocaaGreatDoorRpo06
import Derived.Test.YtbeabehebenocaaGreatDoorRpo01
import Derived.Test.YtbeabehebenocaaGreatDoorRpo07
import Derived.Test.YtbeabehebenocaaGreatDoorRpo05
import Derived.Test.YtbeabehebenocaaGreatDoorRpo04
set_option linter.all false
set_option linter.unusedSimpArgs false
set_option linter.unusedVariables false
set_option linter.unusedSectionVars false
section
/- fsck.Repair. -/
namespace Go.Proofs.YtbeabehebenocaaGreatDoor
open Go.RowKit

end Go.Proofs.YtbeabehebenocaaGreatDoor
end

section
/- Repair at the statements' images; the example of the document. -/
namespace Go.Proofs.YtbeabehebenocaaGreatDoor
open Go.RowKit

/-! ### the example -/
def exF : Nat → Nat := fun q => if q = 2050 then 1 else mkF 8 q
theorem exF_like : Like 8 0 exF := by
  refine like_of (m := 8) (n := 0) (by decide) (fun k => ?_) (fun k hk => ?_) (fun _ => 1) (fun _ => by decide) (fun x hx k hk => ?_) (fun j h1 h2 => by omega) (fun j h1 h2 => ?_)
  · unfold exF; split
    · decide
    · exact mkF_lt 8 k
  · unfold exF; rw [if_neg (by omega)]; exact trF_sup 8 0 (by decide) k hk
  · obtain rfl : x = 0 := by omega
    unfold exF
    by_cases h2 : k = 2
    · subst h2; rw [if_pos rfl, (withL_2 _ _).1]
    · rw [if_neg (by omega)]
      have := trF_row 8 0 (by decide) 0 (by decide) k hk
      rw [if_pos (Nat.le_refl _)] at this
      rw [show mkF 8 (2048 + 64 * 0 + k) = trF 8 0 (2048 + 64 * 0 + k) from rfl, this]
      by_cases h3 : k = 3
      · subst h3; rw [(withL_2 _ _).2]; rfl
      · rw [withL_far _ _ _ h2 h3]
  · rw [rootE_no (m := 8) (n := 0) (by decide) h1 h2 (fun k hk => by unfold exF; rw [if_neg (by omega)]; rfl)]
    exact gone_zero 8 0 _
theorem exF_unlike : unlike exF (trF 8 0) 11 = [2] := by
  rw [unlike_of (fun k => decide (k = 2)) (fun k hk hp j hj => ?_) (fun k hk hp => ?_)]
  · rfl
  · have hk2 : k ≠ 2 := by simpa using hp
    unfold exF; rw [if_neg (by omega)]; rfl
  · have hk2 : k = 2 := by simpa using hp
    subst hk2
    refine ⟨2, by decide, ?_⟩
    have := trF_row 8 0 (by decide) 0 (by decide) 2 (by decide)
    rw [if_pos (Nat.le_refl _)] at this
    rw [show trF 8 0 (2 * 1024 + 2) = trF 8 0 (2048 + 64 * 0 + 2) from rfl, this]
    unfold exF
    rw [if_pos (by decide)]
    have h2 : inoF (treeI 0) 2 = 2 := rfl
    rw [h2]; decide
end Go.Proofs.YtbeabehebenocaaGreatDoor
end

section
/- FsckHeads: the pure side, and the walk. -/
namespace Go.Proofs.YtbeabehebenocaaGreatDoor
open Go.RowKit

end Go.Proofs.YtbeabehebenocaaGreatDoor
end

section
namespace Go.Proofs.YtbeabehebenocaaGreatDoor
open Go.RowKit

end Go.Proofs.YtbeabehebenocaaGreatDoor
end

section
/- The row's end for a statement that answers true and leaves what was there alone. -/
namespace Go.Proofs.YtbeabehebenocaaGreatDoor
open Go.ChangeShapes Go.WideShapes Go.ChangeAt Go.RowKit

theorem ownKnobNone : ownKnob Tryz.prog.godebug = none := by kernel_rfl
section
variable {H : Type} {enc : TypeId × Value → H} {P : Program}
/-- nothing that was there has changed, and the arguments read as they did: the post of a statement without variables -/
theorem still_post {f : Func} {s : ChangeSpec} {apart fresh handsOn again : Bool} {W W' : World} {args : Array Value} {v : Value} {ds gs : List (DataW H)} {pa : List MemPlace}
    (hW : DataW.Whole enc P f.params.toList s.vars apart W args.toList ds gs pa) (hb : Below W.heap.size W W')
    (hr : ∀ (b : Nat) (sp : Nat → Bool) (hd : Bool), DataW.TrodAll enc P W' b sp hd f.resultTypes.toList (v.resultList f.resultTypes.size) (s.fn H (ds ++ gs)).results [])
    (ha : ∀ sp : Nat → Bool, (∀ p ∈ pa, sp p.block = true) → DataW.TrodAll enc P W' 0 sp true f.params.toList args.toList (s.fn H (ds ++ gs)).args pa)
    (hv : ∀ sp : Nat → Bool, (∀ p ∈ pa, sp p.block = true) → DataW.TrodVars enc P W' sp s.vars (s.fn H (ds ++ gs)).vars [])
    (hk : ∀ (j : Nat) (t : TypeId) (r : Value), f.resultTypes[j]? = some t → (v.resultList f.resultTypes.size)[j]? = some r → Value.okWide P W' .any 0 t r) :
    s.post enc P f apart fresh handsOn again W args v W' := by
  have low : ∀ p ∈ pa, p.block < W.heap.size := fun p hp => hW.lt p hp
  have old : ∀ p ∈ pa, (fun b => decide (b < W.heap.size)) p.block = true := fun p hp => by simpa using low p hp
  refine ⟨ds, gs, pa, [], pa, [], hW, hr _ _ _, ha _ old, hv _ old, World.keptBut_mono (fun p hp => ⟨hp, .inr (.inl hp)⟩) (hb.frame (· ∈ pa)), fun _ => ?_⟩
  obtain ⟨_, _, _, _, _, hz, hn⟩ := hW
  refine ⟨hk, _, _, ([] ++ pa) ++ [], ⟨[] ++ pa, [], trodAll_append (ha _ (fun _ _ => rfl)) (hr _ _ _), hv _ (fun _ _ => rfl), rfl, fun b off hp => ?_, fun q => ?_⟩, fun p hp _ => ?_⟩
  · have hin : MemPlace.cell b off ∈ pa := by simpa using hp
    rw [hb.frozen (low _ hin)]
    exact hz b off hin
  · have := hn q
    simpa using this
  · simpa using hp
end
end Go.Proofs.YtbeabehebenocaaGreatDoor
end

section
/- The pointers of an inode, all of them gone into: the iterator, where the Single and the Double are no data blocks. -/
namespace Go.Proofs.YtbeabehebenocaaGreatDoor
open Go.RowKit Go.Shelf
attribute [local go_sem] Oper.semAt_some

theorem grown_below {w w' : World} (hb : Below w.heap.size w w') : w.grownBy w' none := ⟨hb.os, hb.tape, hb.output, hb.size, fun k hk _ => hb.block k hk⟩
theorem all_c (a b c d : Int) (W : World) : Calls Tryz.prog 70 #[.agg #[.int .i64 a, .int .i64 b, .int .i64 c, .int .i64 d]] W fun e w' => e = .returned (.bool true) ∧ ∃ o, w' = W.alloc o := by
  go_enter Tryz.func70, Tryz.ntmps70
  go_wp2
  go_ret
  exact ⟨rfl, _, rfl⟩
theorem below_no (G : Geo) (hG : G.Ok) (b o N cap p : Nat) (hd : G.dOk p = false) (fv : Value) (W : World) : Calls Tryz.prog 92 #[.agg #[.int .i64 G.gr, .int .i64 G.ino, .int .i64 G.da, .slice (some ⟨b, o, none⟩) N cap], .int .i64 p, fv] W fun e w' => e = .returned (.bool true) ∧ Below W.heap.size W w' := by
  have ID := fun W => idata_c G hG (.slice (some ⟨b, o, none⟩) N cap) p W
  simp only [hd] at ID
  go_enter Tryz.func92, Tryz.ntmps92
  go_wp2_with (go_at_call 49; refine (ID _).mono ?_; rintro e w2 ⟨rfl, hb2⟩)
  go_ret
  exact ⟨rfl, ((Below.refl _ W).alloc (Nat.le_refl _) _).trans (hb2.mono (by simp))⟩
set_option maxRecDepth 100000 in
set_option maxHeartbeats 4000000 in
theorem pointers_all (n : Nat) (hn : 3 ≤ n) (G : Geo) (hG : G.Ok) (b o_ N cap : Nat) (I : InoN) (hs1 : G.dOk (I 11) = false) (hs2 : G.dOk (I 12) = false) (hpb : ∀ k, I k < 4294967296) (mb ib nb : Nat) (w : World) (hi : Blk 40 w ib (inoL I)) (hnb : Blk 112 w nb [.func (.func 70) #[] #[]]) (hmb : Blk 49 w mb [.int .i64 (G.gr : Nat), .int .i64 (G.ino : Nat), .int .i64 (G.da : Nat), .slice (some ⟨b, o_, none⟩) N cap]) :
    SeqD Fence.wide n Tryz.prog 89 #[.pointer (some ⟨ib, 0, none⟩), .pointer (some ⟨nb, 0, none⟩), .pointer (some ⟨mb, 0, none⟩)] ptrE (fun k => k = ib ∨ k = nb ∨ k = mb)
      (fun _ _ => True) (fun xs => xs = ptrsI I) (fun p => p.tgt < 4294967296) 10 w := by
  intro l J Dm W hW hl1 hl2 hB hDlt hLink hY h0
  have mi : Mine Dm ib (inoL I) 40 W := ⟨(hW.block _ hi.lt).trans hi, fun hd => (hDlt _ _ _ h0 hd).2 (.inl rfl)⟩
  have mn : Mine Dm nb [.func (.func 70) #[] #[]] 112 W := ⟨(hW.block _ hnb.lt).trans hnb, fun hd => (hDlt _ _ _ h0 hd).2 (.inr (.inl rfl))⟩
  have mm : Mine Dm mb [.int .i64 (G.gr : Nat), .int .i64 (G.ino : Nat), .int .i64 (G.da : Nat), .slice (some ⟨b, o_, none⟩) N cap] 49 W := ⟨(hW.block _ hmb.lt).trans hmb, fun hd => (hDlt _ _ _ h0 hd).2 (.inr (.inr rfl))⟩
  refine callsIn_of_wp Tryz.func89 rfl trivial ?_ rfl
  simp only [Tryz.ntmps89, List.size_toArray, List.length_cons, List.length_nil, Nat.reduceAdd, Nat.reduceSub, Array.replicate_succ, Array.replicate_zero, List.push_toArray, List.append_toArray, List.nil_append, List.cons_append]
  have iL := mi.1.lt; have nL := mn.1.lt; have mL := mm.1.lt
  have L8 := idx8 I
  obtain ⟨y0, y1, y2, y3, y4, y5, y6, y7, y8, y9, y10, y11, y12⟩ := cells13 mi.1
  gi_wp2
  gi_loopw [6, 7, 16] (fun _ _ i wr => ∃ k : Nat, k ≤ 8 ∧ i = .int .i64 (k : Nat) ∧ J (leaves I k) wr ∧ Mine Dm ib (inoL I) 40 wr ∧ Mine Dm nb [.func (.func 70) #[] #[]] 112 wr ∧
      Mine Dm W.heap.size [.func (.yield l) #[] #[]] 112 wr ∧ Mine Dm (W.heap.size + 1) [.func (.func 90) #[] #[.pointer (some ⟨W.heap.size, 0, none⟩)]] 30 wr ∧ Mine Dm mb [.int .i64 (G.gr : Nat), .int .i64 (G.ino : Nat), .int .i64 (G.da : Nat), .slice (some ⟨b, o_, none⟩) N cap] 49 wr)
    (fun _ _ i _ => 8 - (intOf i).toNat)
  case atStart =>
    have hg : W.grownBy ((W.alloc (.cells #[.func (.yield l) #[] #[]] 112)).alloc (.cells #[.func (.func 90) #[] #[.pointer (some ⟨W.heap.size, 0, none⟩)]] 30)) none :=
      (World.grownBy_alloc W _ none).andThen (World.grownBy_alloc _ _ none) (fun j e => by cases e)
    obtain ⟨h1, h2⟩ := hB [] W _ none h0 hg (fun r e => by cases e)
    refine ⟨0, by omega, rfl, h1, mi.alloc hg h2, mn.alloc hg h2, ⟨Blk.fst _ _, fun hd => ?_⟩, ⟨Blk.snd _ _, fun hd => ?_⟩, mm.alloc hg h2⟩
    · have := (hDlt _ _ _ h0 (h2 _ hd)).1; omega
    · have := (hDlt _ _ _ h0 (h2 _ hd)).1; omega
  case round =>
    obtain ⟨k, hk, rfl, hJ, m1, m2, m3, m4, m5⟩ := hrel
    have c3 := m3.1.cell 0; have c4 := m4.1.cell 0
    simp only [List.getElem?_cons_zero] at c3 c4
    by_cases hlt : k < 8
    · have hx := L8 k hlt
      have hf := leaf_in (n - 1) (n - 1) l k (I (3 + k)) W.heap.size wr (fun W' => J (leaves I (k + 1)) W' ∧ Turn Dm l wr W') (by omega) c3 (by
        have := hY _ ⟨0, k, k, I (3 + k)⟩ wr hJ (hpb _) (by rw [leaves_length]; omega)
        rw [leaves_succ]; exact this)
      gi_wp2
      refine ⟨trivial, fun _ => (by omega), hf.mono ?_⟩
      rintro e W3 ⟨rfl, hJ3, ht3⟩
      gi_wp2
      go_roundw
      case rel => exact ⟨k + 1, by omega, by go_num, hJ3, m1.turn ht3 (by have := hi.lt; omega), m2.turn ht3 (by have := hnb.lt; omega), m3.turn ht3 (by omega), m4.turn ht3 (by omega), m5.turn ht3 (by have := hmb.lt; omega)⟩
      case measure => simp [intOf]; omega
    · obtain rfl : k = 8 := by omega
      obtain ⟨z0, z1, z2, z3, z4, z5, z6, z7, z8, z9, z10, z11, z12⟩ := cells13 m1.1
      have iL2 := m1.1.lt; have nL2 := m2.1.lt; have l3 := m3.1.lt; have l4 := m4.1.lt
      have hg9 : wr.grownBy ((wr.alloc (.cells #[.int .i64 8] 3)).alloc (.cells #[.int .i64 (-1), .int .i64 1, .int .i64 8, .int .i64 (I 11 : Nat)] 114)) none :=
        (World.grownBy_alloc wr _ none).andThen (World.grownBy_alloc _ _ none) (fun j e => by cases e)
      obtain ⟨J9, d9⟩ := hB _ wr _ none hJ hg9 (fun r e => by cases e)
      obtain ⟨fn, tmps, assign, body, hy, hR⟩ := hY (leaves I 8) ⟨-1, 1, 8, I 11⟩ _ J9 (hpb _) (by rw [leaves_length]; omega)
      replace hy : (Instr.yield l #[.agg #[.int .i64 (-1), .int .i64 1, .int .i64 8, .int .i64 (I 11 : Nat)]]).run Tryz.prog _ = _ := hy
      gi_wp2
      refine ⟨trivial, fun _ => (by omega), (callsIn_wide.2 (first1_c _)).mono ?_⟩
      rintro e w1 ⟨rfl, rfl⟩
      gi_wp2
      refine ⟨fun _ => (by omega), hR.mono ?_⟩
      rintro e W3 ⟨rfl, J3, t3⟩
      clear hR hy
      have m10 : Mine Dm (wr.heap.size + 1) [.int .i64 (-1), .int .i64 1, .int .i64 8, .int .i64 (I 11 : Nat)] 114 W3 := Mine.turn ⟨Blk.snd _ _, fun hd => by have := (hDlt _ _ _ hJ (d9 _ hd)).1; omega⟩ t3 (by omega)
      have n1 := (m1.alloc hg9 d9).turn t3 (by have := hi.lt; omega)
      have n2 := (m2.alloc hg9 d9).turn t3 (by have := hnb.lt; omega)
      have n3 := (m3.alloc hg9 d9).turn t3 (by omega)
      have n4 := (m4.alloc hg9 d9).turn t3 (by omega)
      have n5 := (m5.alloc hg9 d9).turn t3 (by have := hmb.lt; omega)
      have hsz := t3.size
      simp only [World.size_alloc] at hsz
      have q0 := m10.1.cell 0; have q1 := m10.1.cell 1; have q2 := m10.1.cell 2; have q3 := m10.1.cell 3; have q4 := n3.1.cell 0; have q5 := n2.1.cell 0
      have p0 := n5.1.cell 0; have p1 := n5.1.cell 1; have p2 := n5.1.cell 2; have p3 := n5.1.cell 3
      simp only [List.getElem?_cons_zero, List.getElem?_cons_succ] at q0 q1 q2 q3 q4 q5 p0 p1 p2 p3
      have iL3 := n1.1.lt; have nL3 := n2.1.lt; have l33 := n3.1.lt; have l10 := m10.1.lt; have l5 := n5.1.lt
      have F2 := fun W => first2_c 0 (by omega) W
      simp only [Nat.mul_zero, Nat.add_zero] at F2
      gi_wp2
      refine ⟨trivial, fun _ => (by omega), (callsIn_wide.2 (all_c (-1) 1 8 (I 11 : Nat) W3)).mono ?_⟩
      rintro e w4 ⟨rfl, o, rfl⟩
      gi_wp2
      refine ⟨trivial, fun _ => (by omega), (callsIn_wide.2 (below_no G hG b o_ N cap (I 11) hs1 _ _)).mono ?_⟩
      rintro e w5 ⟨rfl, hb5⟩
      have g35 : W3.grownBy w5 none := (World.grownBy_alloc W3 o none).andThen (grown_below hb5) (fun j e => by cases e)
      obtain ⟨J5, d5⟩ := hB _ W3 w5 none J3 g35 (fun r e => by cases e)
      have e1 := n1.alloc g35 d5; have e2 := n2.alloc g35 d5; have e3 := n3.alloc g35 d5; have e5 := n5.alloc g35 d5; have e10 := m10.alloc g35 d5
      have hz5 := g35.size
      clear q0 q1 q2 q3 q4 q5 p0 p1 p2 p3 iL3 nL3 l33 l10 l5
      obtain ⟨x0, x1, x2, x3, x4, x5, x6, x7, x8, x9, x10, x11, x12⟩ := cells13 e1.1
      have q0 := e10.1.cell 0; have q1 := e10.1.cell 1; have q2 := e10.1.cell 2; have q3 := e10.1.cell 3; have q4 := e3.1.cell 0; have q5 := e2.1.cell 0
      simp only [List.getElem?_cons_zero, List.getElem?_cons_succ] at q0 q1 q2 q3 q4 q5
      have fr : ∀ k, w5.frozen? ⟨wr.heap.size + 1, k, none⟩ = false := fun k => e10.1.frozen _
      have fr0 := fr 0; have fr1 := fr 1; have fr2 := fr 2; have fr3 := fr 3
      have iL3 := e1.1.lt; have nL3 := e2.1.lt; have l33 := e3.1.lt; have l10 := e10.1.lt
      gi_wp2_with (refine ⟨trivial, ?_⟩)
      refine ⟨fun _ => (by omega), (callsIn_wide.2 (F2 _)).mono ?_⟩
      rintro e w1 ⟨rfl, rfl⟩
      have g4 : w5.grownBy ((((w5.setCell ⟨wr.heap.size + 1, 0, none⟩ (.int .i64 (-1))).setCell ⟨wr.heap.size + 1, 1, none⟩ (.int .i64 2)).setCell ⟨wr.heap.size + 1, 2, none⟩ (.int .i64 264)).setCell ⟨wr.heap.size + 1, 3, none⟩ (.int .i64 (I 12 : Nat))) (some (wr.heap.size + 1)) :=
        (((grown_set _ _ _ _).andThen (grown_set _ _ _ _) (fun j e => .inr e)).andThen (grown_set _ _ _ _) (fun j e => .inr e)).andThen (grown_set _ _ _ _) (fun j e => .inr e)
      obtain ⟨J4, d4⟩ := hB _ w5 _ _ J5 g4 (fun r e => by cases e; exact ⟨by omega, e10.2⟩)
      have f2 := e2.grown g4 (fun e => by have := Option.some.inj e; omega) d4
      have f3 := e3.grown g4 (fun e => by have := Option.some.inj e; omega) d4
      have f5 := e5.grown g4 (fun e => by have := Option.some.inj e; omega) d4
      have f10 : Mine Dm (wr.heap.size + 1) [.int .i64 (-1), .int .i64 2, .int .i64 264, .int .i64 (I 12 : Nat)] 114 _ := ⟨(((e10.1.set 0 (.int .i64 (-1))).set 1 (.int .i64 2)).set 2 (.int .i64 264)).set 3 (.int .i64 (I 12 : Nat)), fun hd => e10.2 (d4 _ hd)⟩
      obtain ⟨fn, tmps, assign, body, hy, hR⟩ := hY _ ⟨-1, 2, 264, I 12⟩ _ J4 (hpb _) (by simp [leaves_length])
      replace hy : (Instr.yield l #[.agg #[.int .i64 (-1), .int .i64 2, .int .i64 264, .int .i64 (I 12 : Nat)]]).run Tryz.prog _ = _ := hy
      gi_wp2
      refine ⟨fun _ => (by omega), hR.mono ?_⟩
      rintro e W5 ⟨rfl, J6, t5⟩
      clear hR hy
      have s2 := f2.turn t5 (by have := hnb.lt; omega)
      have s5 := f5.turn t5 (by have := hmb.lt; omega)
      have s10 := f10.turn t5 (by omega)
      have v0 := s10.1.cell 0; have v1 := s10.1.cell 1; have v2 := s10.1.cell 2; have v3 := s10.1.cell 3; have v5 := s2.1.cell 0
      have p0 := s5.1.cell 0; have p1 := s5.1.cell 1; have p2 := s5.1.cell 2; have p3 := s5.1.cell 3
      simp only [List.getElem?_cons_zero, List.getElem?_cons_succ] at v0 v1 v2 v3 v5 p0 p1 p2 p3
      have a1 := s2.1.lt; have a2 := s5.1.lt; have a3 := s10.1.lt
      gi_wp2
      refine ⟨trivial, fun _ => (by omega), (callsIn_wide.2 (all_c (-1) 2 264 (I 12 : Nat) W5)).mono ?_⟩
      rintro e w6 ⟨rfl, o2, rfl⟩
      gi_wp2
      refine ⟨trivial, fun _ => (by omega), (callsIn_wide.2 (below_no G hG b o_ N cap (I 12) hs2 _ _)).mono ?_⟩
      rintro e w7 ⟨rfl, hb7⟩
      gi_wp2
      go_end0
      have g7 : W5.grownBy w7 none := (World.grownBy_alloc W5 o2 none).andThen (grown_below hb7) (fun j e => by cases e)
      have := (hB _ W5 w7 none J6 g7 (fun r e => by cases e)).1
      refine ⟨⟨_, rfl⟩, ptrsI I, rfl, ?_⟩
      rw [leaves_get]
      simpa using this
end Go.Proofs.YtbeabehebenocaaGreatDoor
end

section
/- The library's contract of strconv.Itoa, laid by the kit out of its shelf (lay-plain). -/
namespace Go.Proofs
open Go.Shelf
def Tryz.laysM171_ren : Go.Shelf.Ren := ⟨fun | 171 => 42 | 243 => 71 | 246 => 96 | 283 => 105 | 284 => 106 | 285 => 107 | 286 => 108 | 129 => 111 | 317 => 110 | 318 => 112 | 319 => 113 | 320 => 114 | 337 => 116 | 338 => 117 | n => n, fun | 3 => 3 | 9 => 9 | 2 => 2 | 4 => 4 | 171 => 141 | 0 => 0 | 53 => 142 | 37 => 25 | 5 => 5 | 173 => 145 | 212 => 149 | 51 => 150 | 20 => 20 | 213 => 151 | 46 => 44 | 232 => 154 | 233 => 155 | n => n, fun | 17 => 0 | 18 => 1 | 19 => 2 | n => n⟩
theorem Tryz.laysM171 : Go.Proofs.LaysM.n171 Tryz.prog Tryz.laysM171_ren := {
  mixed := by kernel_rfl
  f129 := Tryz.func111.trans (congrArg some (by kernel_rfl))
  f171 := Tryz.func42.trans (congrArg some (by kernel_rfl))
  f243 := Tryz.func71.trans (congrArg some (by kernel_rfl))
  f246 := Tryz.func96.trans (congrArg some (by kernel_rfl))
  f283 := Tryz.func105.trans (congrArg some (by kernel_rfl))
  f284 := Tryz.func106.trans (congrArg some (by kernel_rfl))
  f285 := Tryz.func107.trans (congrArg some (by kernel_rfl))
  f286 := Tryz.func108.trans (congrArg some (by kernel_rfl))
  f317 := Tryz.func110.trans (congrArg some (by kernel_rfl))
  f318 := Tryz.func112.trans (congrArg some (by kernel_rfl))
  f319 := Tryz.func113.trans (congrArg some (by kernel_rfl))
  f320 := Tryz.func114.trans (congrArg some (by kernel_rfl))
  f337 := Tryz.func116.trans (congrArg some (by kernel_rfl))
  f338 := Tryz.func117.trans (congrArg some (by kernel_rfl))
  t0 := Tryz.underlying0
  a0 := Tryz.isAgg0
  z0 := Tryz.sizeOf0
  v0 := Tryz.zeroValue0
  t2 := Tryz.underlying2
  a2 := Tryz.isAgg2
  z2 := Tryz.sizeOf2
  v2 := Tryz.zeroValue2
  t3 := Tryz.underlying3
  a3 := Tryz.isAgg3
  z3 := Tryz.sizeOf3
  v3 := Tryz.zeroValue3
  t4 := Tryz.underlying4
  a4 := Tryz.isAgg4
  z4 := Tryz.sizeOf4
  v4 := Tryz.zeroValue4
  t5 := Tryz.underlying5
  a5 := Tryz.isAgg5
  z5 := Tryz.sizeOf5
  v5 := Tryz.zeroValue5
  t9 := Tryz.underlying9
  a9 := Tryz.isAgg9
  z9 := Tryz.sizeOf9
  v9 := Tryz.zeroValue9
  t20 := Tryz.underlying20
  a20 := Tryz.isAgg20
  z20 := Tryz.sizeOf20
  v20 := Tryz.zeroValue20
  t37 := Tryz.underlying25
  a37 := Tryz.isAgg25
  z37 := Tryz.sizeOf25
  v37 := Tryz.zeroValue25
  t46 := Tryz.underlying44
  a46 := Tryz.isAgg44
  z46 := Tryz.sizeOf44
  v46 := Tryz.zeroValue44
  t51 := Tryz.underlying150
  a51 := Tryz.isAgg150
  z51 := Tryz.sizeOf150
  v51 := Tryz.zeroValue150
  t53 := Tryz.underlying142
  a53 := Tryz.isAgg142
  z53 := Tryz.sizeOf142
  v53 := Tryz.zeroValue142
  t171 := Tryz.underlying141
  a171 := Tryz.isAgg141
  z171 := Tryz.sizeOf141
  v171 := Tryz.zeroValue141
  t173 := Tryz.underlying145
  a173 := Tryz.isAgg145
  z173 := Tryz.sizeOf145
  v173 := Tryz.zeroValue145
  t212 := Tryz.underlying149
  a212 := Tryz.isAgg149
  z212 := Tryz.sizeOf149
  v212 := Tryz.zeroValue149
  t213 := Tryz.underlying151
  a213 := Tryz.isAgg151
  z213 := Tryz.sizeOf151
  t232 := Tryz.underlying154
  a232 := Tryz.isAgg154
  z232 := Tryz.sizeOf154
  v232 := Tryz.zeroValue154
  t233 := Tryz.underlying155
  a233 := Tryz.isAgg155
  z233 := Tryz.sizeOf155
  v233 := Tryz.zeroValue155
  g17 := by kernel_rfl
  g18 := by kernel_rfl
  g19 := by kernel_rfl
  i0 := by kernel_rfl
  i2 := by kernel_rfl
  i3 := by kernel_rfl
  i4 := by kernel_rfl
  i5 := by kernel_rfl
  i9 := by kernel_rfl
  i20 := by kernel_rfl
  i37 := by kernel_rfl
  i46 := by kernel_rfl
  i51 := by kernel_rfl
  i53 := by kernel_rfl
  i171 := by kernel_rfl
  i173 := by kernel_rfl
  i212 := by kernel_rfl
  i232 := by kernel_rfl
  i233 := by kernel_rfl
  m17 := by kernel_rfl
  m18 := by kernel_rfl
  m19 := by kernel_rfl }
open Go.RowKit Go.Sort Go.Lib in
/-- strconv.Itoa: "Itoa is equivalent to FormatInt(int64(i), 10).": i's DECIMAL NUMERAL ('Lib.itoa': a '-' where i is negative, then the digits), FOR EVERY int. The world behind the call: the world before it, new blocks behind the heap (the library's 'var a [24]byte'), draws. (LAID: no walk: one application.) -/
theorem Tryz.strconv_Itoa (n : Int) (h0 : -9223372036854775808 ≤ n) (h1 : n ≤ 9223372036854775807) (w : World) (htab : Lib.TabIs Tryz.prog w "internal/strconv.uint64pow10" .u64 Lib.pow10Tab) :
    Calls Tryz.prog 42 #[.int .i64 n] w fun e w' => e = .returned (.string ⟨(Lib.itoa n).toArray⟩) ∧ ∃ k os, w' = grow (w.drewN k) os := Any.strconv_Itoa Tryz.laysM171 n h0 h1 w htab
end Go.Proofs
end

section
/- report: a line of a word and numbers. -/
namespace Go.Proofs.YtbeabehebenocaaGreatDoor
open Go.RowKit

/-- the table that Itoa reads -/
def TabG (w : World) : Prop := Lib.TabIs Tryz.prog w "internal/strconv.uint64pow10" .u64 Lib.pow10Tab
theorem TabG.below {w w' : World} (h1 : TabG w) (hb : Below w.heap.size w w') : TabG w' := by
  unfold TabG Lib.TabIs World.var? at h1 ⊢
  cases hg : Tryz.prog.globalNamed "internal/strconv.uint64pow10" with
  | none => rw [hg] at h1; exact h1
  | some g =>
    rw [hg] at h1
    simp only [Option.bind_some] at h1 ⊢
    cases ho : w.heap[g]? with
    | none => rw [ho] at h1; cases h1
    | some o =>
      have hl := (Array.getElem?_eq_some_iff.1 ho).1
      rw [hb.block g hl]; exact h1
theorem below_grow {w : World} {k : Nat} {os : Array Obj} : Below w.heap.size w (Sort.grow (w.drewN k) os) :=
  ⟨rfl, rfl, rfl, by simp [Sort.grow, World.drewN], fun i hi => by simp [Sort.grow, World.drewN, Array.getElem?_append, hi]⟩
def itoaB (n : Nat) : ByteArray := ⟨(Lib.itoa (n : Int)).toArray⟩
theorem itoa_c (n : Nat) (h1 : n ≤ 9223372036854775807) (w : World) (h : TabG w) :
    Calls Tryz.prog 42 #[.int .i64 n] w fun e w' => e = .returned (.string (itoaB n)) ∧ Below w.heap.size w w' :=
  (Tryz.strconv_Itoa (n : Int) (by omega) (by omega) w h).mono fun e w' ⟨he, k, os, hw⟩ => ⟨he, by subst hw; exact below_grow⟩
/-- a word and numbers -/
def toldB (s : ByteArray) (L : List Nat) : ByteArray := L.foldl (fun s n => s ++ ((⟨#[32]⟩ : ByteArray) ++ itoaB n)) s
theorem toldB_snoc (s : ByteArray) (L : List Nat) (n : Nat) : toldB s (L ++ [n]) = toldB s L ++ ((⟨#[32]⟩ : ByteArray) ++ itoaB n) := by simp [toldB, List.foldl_append]
theorem itoaB_size (n : Nat) (h : n ≤ 9223372036854775807) : (itoaB n).size ≤ 21 := by
  show (Lib.itoa (n : Int)).toArray.size ≤ 21
  rw [List.size_toArray]
  exact Lib.itoa_length_le _ (by omega) (by omega)
theorem app_size (a b : ByteArray) : (a ++ b).size = a.size + b.size := ByteArray.size_append
theorem toldB_size (s : ByteArray) (L : List Nat) (hL : ∀ n ∈ L, n ≤ 9223372036854775807) : ∀ k, (toldB s (L.take k)).size ≤ s.size + 22 * k := by
  intro k
  induction k with
  | zero => simp [toldB]
  | succ k ih =>
    cases hn : L[k]? with
    | none =>
      have hlen : L.length ≤ k := List.getElem?_eq_none_iff.1 hn
      rw [List.take_of_length_le (by omega)]
      rw [List.take_of_length_le (by omega)] at ih
      omega
    | some n =>
      rw [List.take_add_one, hn]
      show (toldB s (L.take k ++ [n])).size ≤ _
      rw [toldB_snoc, app_size, app_size]
      have := itoaB_size n (hL n (List.mem_of_getElem? hn))
      have e : (⟨#[32]⟩ : ByteArray).size = 1 := rfl
      omega
set_option maxRecDepth 100000 in
set_option maxHeartbeats 4000000 in
theorem told_c (s : ByteArray) (L : List Nat) (G c : Nat) (w : World) (hT : TabG w) (hlen : L.length ≤ 1000) (hs : s.size ≤ 1000000) (hL : ∀ n ∈ L, n ≤ 9223372036854775807) (h : ∀ (k : Nat) (n : Nat), L[k]? = some n → w.cell? ⟨G, k, none⟩ = some (.int .i64 n)) :
    Calls Tryz.prog 16 #[.string s, .slice (some ⟨G, 0, none⟩) L.length c] w fun e w' => e = .returned (.string (toldB s L)) ∧ Below w.heap.size w w' := by
  have HL := Lib.hid hL; have HC := Lib.hid h; have HT := Lib.hid hT
  clear hL h hT
  go_enter Tryz.func16, Tryz.ntmps16
  go_wp2_with fail
  go_loopw [0, 9] (fun s' i' wr => ∃ k : Nat, k ≤ L.length ∧ i' = .int .i64 k ∧ s' = .string (toldB s (L.take k)) ∧ ∃ wq, wq = wr ∧ Below w.heap.size w wq) (fun _ i' _ => L.length - (intOf i').toNat)
  case atStart => exact ⟨0, Nat.zero_le _, rfl, rfl, _, rfl, Below.refl _ _⟩
  case round =>
    obtain ⟨k, hk, rfl, rfl, wx, rfl, hB⟩ := hrel
    by_cases hlt : k < L.length
    · obtain ⟨n, hn⟩ : ∃ n, L[k]? = some n := ⟨_, List.getElem?_eq_getElem hlt⟩
      have c0 := HC.out k n hn
      have lG := lt_of_cell c0
      have c1 := (hB.cell (p := ⟨G, k, none⟩) lG).trans c0
      have lG2 : G < wx.heap.size := Nat.lt_of_lt_of_le lG hB.size
      have IT := itoa_c n (HL.out n (List.mem_of_getElem? hn)) wx (HT.out.below hB)
      have HIT := Lib.hid IT; have HB := Lib.hid hB
      have hli : (k : Int) < (L.length : Int) := by omega
      have e : toldB s (L.take (k + 1)) = toldB s (L.take k) ++ ((⟨#[32]⟩ : ByteArray) ++ itoaB n) := by rw [List.take_add_one, hn]; exact toldB_snoc _ _ _
      have HE := Lib.hid e
      have z1 := toldB_size s L HL.out k
      have z2 := itoaB_size n (HL.out n (List.mem_of_getElem? hn))
      clear c0 IT hB hn e
      generalize toldB s (L.take k) = T at HE z1 ⊢
      generalize itoaB n = U at HIT HE z2
      have q1 : ¬ 9223372036854775807 < 1 + U.size := by omega
      have q2 : ¬ 9223372036854775807 < T.size + (1 + U.size) := by omega
      go_wp2_with (go_at_call 42; refine HIT.out.mono ?_; rintro e w2 ⟨rfl, hb2⟩; have HB2 := Lib.hid hb2; clear hb2)
      go_roundw
      case rel => exact ⟨k + 1, by omega, by go_num, by rw [HE.out], _, rfl, HB.out.trans (HB2.out.mono HB.out.size)⟩
      case measure => simp [intOf] <;> omega
    · obtain rfl : k = L.length := by omega
      have hln : ¬ ((L.length : Int) < (L.length : Int)) := by omega
      have HB := Lib.hid hB
      rw [List.take_length]
      clear hB hlt hk
      go_wp2_with fail
      go_ret
      exact ⟨rfl, HB.out⟩
end Go.Proofs.YtbeabehebenocaaGreatDoor
end

section
/- report: the word for a block. -/
namespace Go.Proofs.YtbeabehebenocaaGreatDoor
open Go.RowKit

def bDir : ByteArray := ⟨#[100, 105, 114, 101, 99, 116, 111, 114, 121]⟩
def bInd : ByteArray := ⟨#[105, 110, 100, 105, 114, 101, 99, 116]⟩
def bInos : ByteArray := ⟨#[105, 110, 111, 100, 101, 115]⟩
def bHead : ByteArray := ⟨#[104, 101, 97, 100]⟩
def wordB (g : Geo) (dc : Nat → Bool) (p : Nat) : ByteArray := if g.dOk p = true then (if dc p = true then bDir else bInd) else if 0 < (p - 1) % (1 + g.ino + g.da) then bInos else bHead
set_option maxRecDepth 100000 in
set_option maxHeartbeats 4000000 in
theorem word_c (g : Geo) (hg : g.Ok) (v : Value) (hv : v.oneCell' = true) (DB n : Nat) (dc : Nat → Bool) (p : Nat) (w : World) (hD : Claims w DB n dc) (hp1 : 1 ≤ p) (hp : p ≤ 1000000) :
    Calls Tryz.prog 39 #[.agg #[.int .i64 g.gr, .int .i64 g.ino, .int .i64 g.da, v], .map (some DB), .int .i64 p] w fun e w' => e = .returned (.string (wordB g dc p)) ∧ Below w.heap.size w w' := by
  have DO := fun W => dataOf_c g hg p W
  have i2 := hg.i2; have d2 := hg.d2
  have LK := fun W (hb : Below w.heap.size w W) => claim_look (MapG.below hD hb hD.lt) (y := p) (by unfold natOk; omega)
  obtain ⟨WB, hWB⟩ : ∃ W, W = wordB g dc p := ⟨_, rfl⟩
  rw [← hWB]
  unfold wordB at hWB
  by_cases hd : g.dOk p = true
  · rw [if_pos hd] at hWB
    simp only [hd] at DO
    by_cases hc : dc p = true
    · rw [if_pos hc] at hWB
      simp only [hc] at LK
      have HDO := Lib.hid DO; have HLK := Lib.hid LK; have HWB := Lib.hid hWB
      clear DO LK hWB hD hd hc
      go_enter Tryz.func39, Tryz.ntmps39
      go_upto_region 1 with fail
      obtain ⟨w1, hw1⟩ : ∃ W, W = w.alloc (.cells #[.int .i64 (g.gr : Nat), .int .i64 (g.ino : Nat), .int .i64 (g.da : Nat), v] 49) := ⟨_, rfl⟩
      have kA : Blk 49 w1 w.heap.size [.int .i64 (g.gr : Nat), .int .i64 (g.ino : Nat), .int .i64 (g.da : Nat), v] := by rw [hw1]; exact Blk.newL _
      have hB1 : Below w.heap.size w w1 := by rw [hw1]; exact (Below.refl _ w).alloc (Nat.le_refl _) _
      rw [← hw1]
      clear hw1
      have a0 := kA.cell 0; have a1 := kA.cell 1; have a2 := kA.cell 2
      simp only [List.getElem?_cons_zero, List.getElem?_cons_succ] at a0 a1 a2
      have lA := kA.lt
      go_upto_region 2 with (go_at_call 61; refine (HDO.out _).mono ?_; rintro e w2 ⟨rfl, hb2⟩)
      have k2 := kA.below hb2 lA
      have hB2 := hB1.trans (hb2.mono hB1.size)
      clear a0 a1 a2
      have a1 := k2.cell 1; have a2 := k2.cell 2
      simp only [List.getElem?_cons_zero, List.getElem?_cons_succ] at a1 a2
      have l2 := k2.lt
      have LK2 := HLK.out w2 hB2
      have HB2 := Lib.hid hB2
      clear hB2 hB1 k2 kA hb2
      go_wp2_with fail
      go_ret
      rw [HWB.out]
      exact ⟨rfl, HB2.out⟩
    · have hc' : dc p = false := by simpa using hc
      rw [if_neg hc] at hWB
      simp only [hc'] at LK
      have HDO := Lib.hid DO; have HLK := Lib.hid LK; have HWB := Lib.hid hWB
      clear DO LK hWB hD hd hc hc'
      go_enter Tryz.func39, Tryz.ntmps39
      go_upto_region 1 with fail
      obtain ⟨w1, hw1⟩ : ∃ W, W = w.alloc (.cells #[.int .i64 (g.gr : Nat), .int .i64 (g.ino : Nat), .int .i64 (g.da : Nat), v] 49) := ⟨_, rfl⟩
      have kA : Blk 49 w1 w.heap.size [.int .i64 (g.gr : Nat), .int .i64 (g.ino : Nat), .int .i64 (g.da : Nat), v] := by rw [hw1]; exact Blk.newL _
      have hB1 : Below w.heap.size w w1 := by rw [hw1]; exact (Below.refl _ w).alloc (Nat.le_refl _) _
      rw [← hw1]
      clear hw1
      have a0 := kA.cell 0; have a1 := kA.cell 1; have a2 := kA.cell 2
      simp only [List.getElem?_cons_zero, List.getElem?_cons_succ] at a0 a1 a2
      have lA := kA.lt
      go_upto_region 2 with (go_at_call 61; refine (HDO.out _).mono ?_; rintro e w2 ⟨rfl, hb2⟩)
      have k2 := kA.below hb2 lA
      have hB2 := hB1.trans (hb2.mono hB1.size)
      clear a0 a1 a2
      have a1 := k2.cell 1; have a2 := k2.cell 2
      simp only [List.getElem?_cons_zero, List.getElem?_cons_succ] at a1 a2
      have l2 := k2.lt
      have LK2 := HLK.out w2 hB2
      have HB2 := Lib.hid hB2
      clear hB2 hB1 k2 kA hb2
      go_wp2_with fail
      go_ret
      rw [HWB.out]
      exact ⟨rfl, HB2.out⟩
  · have hd' : g.dOk p = false := by simpa using hd
    rw [if_neg hd] at hWB
    simp only [hd'] at DO
    obtain ⟨p', rfl⟩ : ∃ k, p = k + 1 := ⟨p - 1, by omega⟩
    have HDO := Lib.hid DO; have HLK := Lib.hid LK; have HWB := Lib.hid hWB
    clear DO LK hWB hD hd hd'
    go_enter Tryz.func39, Tryz.ntmps39
    go_upto_region 1 with fail
    obtain ⟨w1, hw1⟩ : ∃ W, W = w.alloc (.cells #[.int .i64 (g.gr : Nat), .int .i64 (g.ino : Nat), .int .i64 (g.da : Nat), v] 49) := ⟨_, rfl⟩
    have kA : Blk 49 w1 w.heap.size [.int .i64 (g.gr : Nat), .int .i64 (g.ino : Nat), .int .i64 (g.da : Nat), v] := by rw [hw1]; exact Blk.newL _
    have hB1 : Below w.heap.size w w1 := by rw [hw1]; exact (Below.refl _ w).alloc (Nat.le_refl _) _
    rw [← hw1]
    clear hw1
    have a0 := kA.cell 0; have a1 := kA.cell 1; have a2 := kA.cell 2
    simp only [List.getElem?_cons_zero, List.getElem?_cons_succ] at a0 a1 a2
    have lA := kA.lt
    go_upto_region 2 with (go_at_call 61; refine (HDO.out _).mono ?_; rintro e w2 ⟨rfl, hb2⟩)
    have k2 := kA.below hb2 lA
    have hB2 := hB1.trans (hb2.mono hB1.size)
    clear a0 a1 a2
    have a1 := k2.cell 1; have a2 := k2.cell 2
    simp only [List.getElem?_cons_zero, List.getElem?_cons_succ] at a1 a2
    have l2 := k2.lt
    have LK2 := HLK.out w2 hB2
    have HB2 := Lib.hid hB2
    clear hB2 hB1 k2 kA hb2
    clear LK2
    by_cases hm : 0 < (p' + 1 - 1) % (1 + g.ino + g.da)
    · have t0 : decide ((0 : Int) < (p' : Int) % (1 + (g.ino : Int) + (g.da : Int))) = true := by
        rw [Nat.add_sub_cancel] at hm
        rw [decide_eq_true_iff]
        have : (((p' % (1 + g.ino + g.da) : Nat)) : Int) = (p' : Int) % (1 + (g.ino : Int) + (g.da : Int)) := by push_cast; rfl
        omega
      have e := HWB.out
      rw [if_pos hm] at e
      have HE := Lib.hid e
      clear e hm HWB
      go_wp2_with fail
      go_ret
      rw [HE.out]
      exact ⟨rfl, HB2.out⟩
    · have t0 : decide ((0 : Int) < (p' : Int) % (1 + (g.ino : Int) + (g.da : Int))) = false := by
        rw [Nat.add_sub_cancel] at hm
        rw [decide_eq_false_iff_not]
        have : (((p' % (1 + g.ino + g.da) : Nat)) : Int) = (p' : Int) % (1 + (g.ino : Int) + (g.da : Int)) := by push_cast; rfl
        omega
      have e := HWB.out
      rw [if_neg hm] at e
      have HE := Lib.hid e
      clear e hm HWB
      go_wp2_with fail
      go_ret
      rw [HE.out]
      exact ⟨rfl, HB2.out⟩
end Go.Proofs.YtbeabehebenocaaGreatDoor
end

section
/- report: the blocks of all directories. -/
namespace Go.Proofs.YtbeabehebenocaaGreatDoor
open Go.RowKit Go.Shelf
attribute [local go_sem] Oper.semAt_some

def dirP (most : Nat) (c : Nat → Bool) (x : Ptr) : Nat → Bool := if x.lv = 0 ∧ x.n < most then fun p => c p || decide (p = x.tgt) else c
def dirPs (most : Nat) (c : Nat → Bool) (xs : List Ptr) : Nat → Bool := xs.foldl (dirP most) c
theorem dirPs_snoc (most : Nat) (c : Nat → Bool) (xs : List Ptr) (x : Ptr) : dirPs most c (xs ++ [x]) = dirP most (dirPs most c xs) x := by simp [dirPs, List.foldl_append]
/-- the blocks of the directories among the first k inodes -/
def dirsC (g : Geo) (h : Nat → Nat) : Nat → (Nat → Bool)
  | 0 => fun _ => false
  | k + 1 => if inoAt g h (k + 1) 0 = 2 then dirPs (countN (inoAt g h (k + 1) 2)) (dirsC g h k) (ptrsI (inoAt g h (k + 1))) else dirsC g h k
/-- between the rounds -/
structure DJ (most : Nat) (c : Nat → Bool) (w1 : World) (MB n0 : Nat) (pre : List Ptr) (W : World) : Prop where
  cl : Claims W MB (n0 + pre.length) (dirPs most c pre)
  mods : Mods (fun k => k = MB) w1 W
theorem DJ.bears (most : Nat) (c : Nat → Bool) (w1 : World) (MB n0 : Nat) (hMB : MB < w1.heap.size) : Bears w1.heap.size (fun _ k => k = MB) (DJ most c w1 MB n0) := by
  intro pre A C row h hg hr
  have hne : row ≠ some MB := fun e => by have := (hr _ e).1; omega
  exact ⟨⟨h.cl.grown hg hne, h.mods.grown hg (fun k e hk => by have := (hr k e).1; omega)⟩, fun k hk => hk⟩
theorem mods_of_b {w w' : World} (h : Below w.heap.size w w') : Mods (fun _ => False) w w' := ⟨h.os, h.tape, h.output, h.size, fun k hk _ => h.block k hk⟩
theorem pointers_m (gr ino da b o N cap : Nat) (I : InoN) (fv : Value) (fn : Fn) (fi ca : Array Value) (hfv : fv = .func fn fi ca) (w : World) :
    Calls Tryz.prog 69 #[.agg #[.int .i64 gr, .int .i64 ino, .int .i64 da, .slice (some ⟨b, o, none⟩) N cap], inoV I, fv] w fun e w' => e = .returned (.func (.func 89) #[] #[.pointer (some ⟨w.heap.size + 1, 0, none⟩), .pointer (some ⟨w.heap.size + 2, 0, none⟩), .pointer (some ⟨w.heap.size, 0, none⟩)]) ∧
      Blk 49 w' w.heap.size [.int .i64 gr, .int .i64 ino, .int .i64 da, .slice (some ⟨b, o, none⟩) N cap] ∧ Blk 40 w' (w.heap.size + 1) (inoL I) ∧ Blk 112 w' (w.heap.size + 2) [fv] ∧ Below w.heap.size w w' ∧ w'.heap.size = w.heap.size + 3 := by
  subst hfv
  unfold inoV
  go_enter Tryz.func69, Tryz.ntmps69
  go_wp2
  go_ret
  refine ⟨rfl, ((Blk.newL [.int .i64 gr, .int .i64 ino, .int .i64 da, .slice (some ⟨b, o, none⟩) N cap]).alloc _).alloc _, ?_, ?_, ((((Below.refl _ w).alloc (Nat.le_refl _) _).alloc (by simp) _).alloc (by simp; omega) _), by simp⟩
  · exact (Blk.snd _ (inoL I)).alloc _
  · have := Blk.newL (e := 112) (w := (w.alloc (.cells #[.int .i64 gr, .int .i64 ino, .int .i64 da, .slice (some ⟨b, o, none⟩) N cap] 49)).alloc (.cells (inoL I).toArray 40)) [.func fn fi ca]
    rw [World.size_alloc, World.size_alloc, Nat.add_assoc] at this
    exact this

set_option maxRecDepth 1000000 in
set_option maxHeartbeats 8000000 in
theorem dirs_c (g : Geo) (hg : g.Ok) (b o N cap : Nat) (h : Nat → Nat) (w : World) (hI : ImgOk g b o N cap h w) (hs : g.dOk (inoAt g h 1 11) = false ∧ g.dOk (inoAt g h 1 12) = false) (hd : inoAt g h 1 0 = 2) (hno : ∀ x, 2 ≤ x → x ≤ g.inodes → inoAt g h x 0 ≠ 2) :
    Calls Tryz.prog 38 #[.agg #[.int .i64 g.gr, .int .i64 g.ino, .int .i64 g.da, .slice (some ⟨b, o, none⟩) N cap]] w fun e w' => ∃ MB n, e = .returned (.map (some MB)) ∧ w.heap.size ≤ MB ∧ Claims w' MB n (dirsC g h g.inodes) ∧ Below w.heap.size w w' := by
  have IN := fun W (hb : Below w.heap.size w W) x => iinode_c g b o N cap x h W (hI.below hb hI.lt)
  have hIb := fun x k => inoAt_lt hI x k
  have NI := fun W => inodes_c g hg W
  have hmm := @run_makeMap Tryz.prog
  have hil := hg.inodes_le
  refine (callsIn_wide (n := 9)).1 ?_
  refine callsIn_of_wp_marks Tryz.func38 rfl trivial ?_ rfl
  simp only [Tryz.ntmps38, List.size_toArray, List.length_cons, List.length_nil, Nat.reduceAdd, Nat.reduceSub, Array.replicate_succ, Array.replicate_zero, List.push_toArray, List.append_toArray, List.nil_append, List.cons_append]
  gi_wp2
  obtain ⟨s0, hs0⟩ : ∃ s0, s0 = w.heap.size := ⟨_, rfl⟩
  obtain ⟨w1, hw1⟩ : ∃ W, W = ((w.alloc (.cells #[.int .i64 (g.gr : Nat), .int .i64 (g.ino : Nat), .int .i64 (g.da : Nat), .slice (some ⟨b, o, none⟩) N cap] 49)).alloc (.map #[] 0)).alloc (.cells #[.map (some (w.heap.size + 1))] 65) := ⟨_, rfl⟩
  have hB1 : Below w.heap.size w w1 := by rw [hw1]; exact (((Below.refl _ w).alloc (Nat.le_refl _) _).alloc (by simp) _).alloc (by simp; omega) _
  have z1 : w1.heap.size = s0 + 3 := by rw [hw1, hs0]; simp
  have kA : Blk 49 w1 s0 [.int .i64 (g.gr : Nat), .int .i64 (g.ino : Nat), .int .i64 (g.da : Nat), .slice (some ⟨b, o, none⟩) N cap] := by rw [hw1, hs0]; exact ((Blk.newL _).alloc _).alloc _
  have kV : Blk 65 w1 (s0 + 2) [.map (some (s0 + 1))] := by rw [hw1, hs0]; exact Blk.newAt [.map (some (w.heap.size + 1))] (by simp)
  have kC : Claims w1 (s0 + 1) 0 (fun _ => false) := by
    have h1 : Claims ((w.alloc (.cells #[.int .i64 (g.gr : Nat), .int .i64 (g.ino : Nat), .int .i64 (g.da : Nat), .slice (some ⟨b, o, none⟩) N cap] 49)).alloc (.map #[] 0)) (w.alloc (.cells #[.int .i64 (g.gr : Nat), .int .i64 (g.ino : Nat), .int .i64 (g.da : Nat), .slice (some ⟨b, o, none⟩) N cap] 49)).heap.size 0 (fun _ => false) := MapG.made _
    rw [World.size_alloc, ← hs0] at h1
    rw [hw1]
    exact MapG.below h1 ((Below.refl _ _).alloc (Nat.le_refl _) _) h1.lt
  rw [← hw1]
  simp only [← hs0, Nat.add_assoc, Nat.reduceAdd]
  clear hw1
  have HI := Lib.hid hI; have HS0 := Lib.hid hs0
  clear hI hmm hs0
  -- LOOP
  obtain ⟨Rel, hRel⟩ : ∃ Rel : Nat → List Deferred → World → Prop, Rel = fun k ds wq => (k = 0 ∧ ds = [] ∨ 1 ≤ k ∧ ∃ D, ds = [{ target := .collected D, args := #[] }] ∧ s0 + 3 ≤ D ∧ wq.heap[D]? = some (.deferred (some []))) ∧ k ≤ g.inodes ∧ Mods (fun k => k = s0 + 1) w1 wq ∧ Claims wq (s0 + 1) (10 * k) (dirsC g h k) := ⟨_, rfl⟩
  have HRel := Lib.hid hRel
  refine wpIn_loop (fun a wr => ∃ (k : Nat) (ds : List Deferred) (wq : World) (u5 u6 u7 u8 u9 u10 u11 u12 u13 u14 u15 u16 u17 u18 u19 u20 u21 u22 u23 u24 u25 u26 u27 u28 u29 u30 u31 u32 u33 u34 u35 u36 u37 u38 u39 u40 u41 u42 u43 u44 u45 : Value), wq = wr ∧ Rel k ds wq ∧ a = { tmps := #[.agg #[.int .i64 (g.gr : Nat), .int .i64 (g.ino : Nat), .int .i64 (g.da : Nat), .slice (some ⟨b, o, none⟩) N cap], .pointer (some ⟨s0, 0, none⟩), .map none, .pointer (some ⟨s0 + 2, 0, none⟩), .int .i64 ((k : Int) + 1), u5, u6, u7, u8, u9, u10, u11, u12, u13, u14, u15, u16, u17, u18, u19, u20, u21, u22, u23, u24, u25, u26, u27, u28, u29, u30, u31, u32, u33, u34, u35, u36, u37, u38, u39, u40, u41, u42, u43, u44, u45], defers := ds }) (fun a _ => g.inodes + 1 - (intOf (a.tmps.getD 4 undef)).toNat) ?_ ?_
  · iterate 44 apply Exists.intro
    refine ⟨rfl, ?_, rfl⟩
    rw [HRel.out]
    exact ⟨.inl ⟨rfl, rfl⟩, Nat.zero_le _, Mods.refl _ _, kC⟩
  · rintro a wr ⟨k, ds, wx, u5, u6, u7, u8, u9, u10, u11, u12, u13, u14, u15, u16, u17, u18, u19, u20, u21, u22, u23, u24, u25, u26, u27, u28, u29, u30, u31, u32, u33, u34, u35, u36, u37, u38, u39, u40, u41, u42, u43, u44, u45, rfl, hr, rfl⟩
    rw [HRel.out] at hr
    obtain ⟨hds, hk, hm, hc⟩ := hr
    have hzx := hm.size
    have A := kA.mods hm (by omega)
    have V := kV.mods hm (by omega)
    have hBx : Below w.heap.size w wx := Below.mods hB1 hm (fun i hi e => by have := HS0.out; omega) hB1.size
    have a0 := A.cell 0; have a1 := A.cell 1; have a2 := A.cell 2; have a3 := A.cell 3; have v0 := V.cell 0
    simp only [List.getElem?_cons_zero, List.getElem?_cons_succ] at a0 a1 a2 a3 v0
    have lA := A.lt; have lV := V.lt
    by_cases hlt : k < g.inodes
    · have hli : (k : Int) + 1 ≤ (g.inodes : Int) := by omega
      obtain ⟨I, hI⟩ : ∃ I, I = inoAt g h (k + 1) := ⟨_, rfl⟩
      have hIb2 : ∀ j, I j < 4294967296 := fun j => by rw [hI]; exact hIb _ _
      have IK : ∀ W, Below w.heap.size w W → Calls Tryz.prog 68 #[.agg #[.int .i64 g.gr, .int .i64 g.ino, .int .i64 g.da, .slice (some ⟨b, o, none⟩) N cap], .int .i64 ((k : Int) + 1)] W fun e w' => e = .returned (.tuple #[inoV I, .bool (inoGood g h (k + 1))]) ∧ Below W.heap.size W w' := fun W hb => by
        have := IN W hb (k + 1)
        rw [← hI] at this
        exact this
      unfold inoV at IK
      by_cases hk0 : k = 0
      · subst hk0
        have hk2 : I 0 = 2 := by rw [hI]; exact hd
        have t0 : (((I 0 : Nat) : Int) != 2) = false := by simp [hk2]
        have hI1 := Lib.hid hI
        have sz := hIb2 2
        have CNT := fun W => count_c (I 2) (by omega) W
        have PC := fun W => pointers_m g.gr g.ino g.da b o N cap I (.func (.func 70) #[] #[]) _ _ _ rfl W
        unfold inoV at PC
        have HDS := Lib.hid hds
        have HK2 := Lib.hid hk2
        clear hI hds hk2
        gi_wp2_with (first
          | (refine ⟨trivial, ?_⟩; gi_at_call 40; refine (callsIn_wide.2 (NI _)).mono ?_; rintro e w2 ⟨rfl, hb2⟩; have A2 := A.below hb2 lA; have q0 := A2.cell 0; have q1 := A2.cell 1; have q2 := A2.cell 2; have q3 := A2.cell 3; have v2 := (V.below hb2 lV).cell 0; simp only [List.getElem?_cons_zero, List.getElem?_cons_succ] at q0 q1 q2 q3 v2; have lA2 := A2.lt; have lV2 := (V.below hb2 lV).lt)
          | (refine ⟨trivial, ?_⟩; gi_at_call 53; refine (callsIn_wide.2 (CNT _)).mono ?_; rintro e w' ⟨rfl, rfl⟩)
          | (refine ⟨trivial, ?_⟩; gi_at_call 69; refine (callsIn_wide.2 (PC _)).mono ?_; rintro e w5 ⟨rfl, kM, kI, kF, hB5, z5⟩)
          | (refine ⟨trivial, ?_⟩; gi_at_call 68; refine (callsIn_wide.2 (IK _ (hBx.trans (hb2.mono hBx.size)))).mono ?_; rintro e w3 ⟨rfl, hb3⟩; have y3 := hb3.size; have A3 := A2.below hb3 lA2; have V3 := ((V.below hb2 lV).below hb3 lV2); have lA3 := A3.lt; have p0 := A3.cell 0; have p1 := A3.cell 1; have p2 := A3.cell 2; have p3 := A3.cell 3; simp only [List.getElem?_cons_zero, List.getElem?_cons_succ] at p0 p1 p2 p3))
        obtain ⟨s3, hs3⟩ : ∃ s3, s3 = w3.heap.size := ⟨_, rfl⟩
        obtain ⟨w4, hw4⟩ : ∃ W, W = (w3.alloc (.cells #[.int .i64 (I 0 : Nat), .int .i64 (I 1 : Nat), .int .i64 (I 2 : Nat), .int .i64 (I 3 : Nat), .int .i64 (I 4 : Nat), .int .i64 (I 5 : Nat), .int .i64 (I 6 : Nat), .int .i64 (I 7 : Nat), .int .i64 (I 8 : Nat), .int .i64 (I 9 : Nat), .int .i64 (I 10 : Nat), .int .i64 (I 11 : Nat), .int .i64 (I 12 : Nat)] 40)).alloc (.cells #[.int .i64 (countN (I 2) : Nat)] 3) := ⟨_, rfl⟩
        rw [← hw4] at kM kI kF hB5 z5
        have z4 : w4.heap.size = s3 + 2 := by rw [hw4, hs3]; simp
        have k7 : Blk 3 w4 (s3 + 1) [.int .i64 (countN (I 2) : Nat)] := by rw [hw4, hs3]; exact Blk.newAt [.int .i64 (countN (I 2) : Nat)] (by simp)
        have hB4 : Below w3.heap.size w3 w4 := by rw [hw4]; exact ((Below.refl _ w3).alloc (Nat.le_refl _) _).alloc (by simp) _
        simp only [z4, Nat.add_assoc, Nat.reduceAdd] at kM kI kF hB5 z5
        have hds0 : ds = [] := by
          rcases HDS.out with ⟨_, q⟩ | ⟨q, _⟩
          · exact q
          · omega
        subst hds0
        simp only [← hs3, Nat.add_assoc, Nat.reduceAdd]
        have s3w : s0 + 3 ≤ s3 := by omega
        have y2 := hb2.size
        have hW5 : Below wx.heap.size wx w5 := ((hb2.trans (hb3.mono hb2.size)).trans (hB4.mono (by omega))).trans (hB5.mono (by omega))
        have V5 : Blk 65 w5 (s0 + 2) [.map (some (s0 + 1))] := V.below hW5 lV
        have k75 : Blk 3 w5 (s3 + 1) [.int .i64 (countN (I 2) : Nat)] := k7.below hB5 (by omega)
        have C5 : Claims w5 (s0 + 1) 0 (dirsC g h 0) := MapG.below hc hW5 hc.lt
        have hs1 : g.dOk (I 11) = false := by rw [hI1.out]; exact hs.1
        have hs2 : g.dOk (I 12) = false := by rw [hI1.out]; exact hs.2
        have HS3 := Lib.hid hs3; have HW4 := Lib.hid hw4; have HW5 := Lib.hid hW5
        clear hs3 hw4 hW5 hs hd hB4 k7 z4
        refine rangeFunc_dm (F := Fence.wide) rfl (by decide) (gf := 89) (lb := #[.pointer (some ⟨s3 + 3, 0, none⟩), .pointer (some ⟨s3 + 4, 0, none⟩), .pointer (some ⟨s3 + 2, 0, none⟩)]) rfl trivial (enters_of Tryz.func89 (by kernel_rfl) rfl)
          (pointers_all 8 (by omega) g hg b o N cap I hs1 hs2 hIb2 (s3 + 2) (s3 + 3) (s3 + 4) w5 kI kF kM) (Below.refl _ _) (fun _ => rfl)
          (DJ (countN (I 2)) (dirsC g h 0) w5 (s0 + 1) 0) (fun _ k => k = s0 + 1) (DJ.bears _ _ w5 (s0 + 1) 0 (by omega)) (fun pre A k hA hk => ⟨by rw [hk]; exact hA.cl.lt, by rw [hk]; omega, .inl (by omega)⟩) (fun _ _ _ => trivial) ⟨C5, Mods.refl _ _⟩
          (fun x a' W => ∃ B, a' = { tmps := #[.agg #[.int .i64 (g.gr : Nat), .int .i64 (g.ino : Nat), .int .i64 (g.da : Nat), .slice (some ⟨b, o, none⟩) N cap], .pointer (some ⟨s0, 0, none⟩), .map none, .pointer (some ⟨s0 + 2, 0, none⟩), .int .i64 1, .pointer (some ⟨s3, 0, none⟩), .bool (inoGood g h 1), .pointer (some ⟨s3 + 1, 0, none⟩), .pointer (some ⟨B, 0, none⟩), u9, .int .i64 1, .pointer (some ⟨s0, 0, none⟩), .agg #[.int .i64 (g.gr : Nat), .int .i64 (g.ino : Nat), .int .i64 (g.da : Nat)], .int .i64 (g.inodes : Nat), .bool true, u15, u16, .tuple #[.agg #[.int .i64 (I 0 : Nat), .int .i64 (I 1 : Nat), .int .i64 (I 2 : Nat), .int .i64 (I 3 : Nat), .int .i64 (I 4 : Nat), .int .i64 (I 5 : Nat), .int .i64 (I 6 : Nat), .int .i64 (I 7 : Nat), .int .i64 (I 8 : Nat), .int .i64 (I 9 : Nat), .int .i64 (I 10 : Nat), .int .i64 (I 11 : Nat), .int .i64 (I 12 : Nat)], .bool (inoGood g h 1)], .agg #[.int .i64 (g.gr : Nat), .int .i64 (g.ino : Nat), .int .i64 (g.da : Nat), .slice (some ⟨b, o, none⟩) N cap], .int .i64 1, .tuple #[.agg #[.int .i64 (I 0 : Nat), .int .i64 (I 1 : Nat), .int .i64 (I 2 : Nat), .int .i64 (I 3 : Nat), .int .i64 (I 4 : Nat), .int .i64 (I 5 : Nat), .int .i64 (I 6 : Nat), .int .i64 (I 7 : Nat), .int .i64 (I 8 : Nat), .int .i64 (I 9 : Nat), .int .i64 (I 10 : Nat), .int .i64 (I 11 : Nat), .int .i64 (I 12 : Nat)], .bool (inoGood g h 1)], .agg #[.int .i64 (I 0 : Nat), .int .i64 (I 1 : Nat), .int .i64 (I 2 : Nat), .int .i64 (I 3 : Nat), .int .i64 (I 4 : Nat), .int .i64 (I 5 : Nat), .int .i64 (I 6 : Nat), .int .i64 (I 7 : Nat), .int .i64 (I 8 : Nat), .int .i64 (I 9 : Nat), .int .i64 (I 10 : Nat), .int .i64 (I 11 : Nat), .int .i64 (I 12 : Nat)], .bool (inoGood g h 1), .pointer (some ⟨s3, 0, none⟩), .int .i64 (I 0 : Nat), .bool false, .pointer (some ⟨s3, 2, none⟩), .int .i64 (I 2 : Nat), .int .i64 (countN (I 2) : Nat), .agg #[.int .i64 (g.gr : Nat), .int .i64 (g.ino : Nat), .int .i64 (g.da : Nat), .slice (some ⟨b, o, none⟩) N cap], .agg #[.int .i64 (I 0 : Nat), .int .i64 (I 1 : Nat), .int .i64 (I 2 : Nat), .int .i64 (I 3 : Nat), .int .i64 (I 4 : Nat), .int .i64 (I 5 : Nat), .int .i64 (I 6 : Nat), .int .i64 (I 7 : Nat), .int .i64 (I 8 : Nat), .int .i64 (I 9 : Nat), .int .i64 (I 10 : Nat), .int .i64 (I 11 : Nat), .int .i64 (I 12 : Nat)], .func (.func 89) #[] #[.pointer (some ⟨s3 + 3, 0, none⟩), .pointer (some ⟨s3 + 4, 0, none⟩), .pointer (some ⟨s3 + 2, 0, none⟩)], .agg #[.int .i64 x.lv, .int .i64 (x.n : Nat), .int .i64 (x.first : Nat), .int .i64 (x.tgt : Nat)], u33, u34, u35, u36, u37, u38, u39, u40, u41, u42, u43, u44, u45], defers := [] } ∧ Blk 114 W B (ptrV x) ∧ w5.heap.size ≤ B ∧ w5.heap.size ≤ W.heap.size) ?hAx ?assign ?body ?done
        case hAx =>
          intro x a' u W W' row hh hgr hr
          obtain ⟨B, h1, h2, h3, h4⟩ := hh
          have hneB : row ≠ some B := fun e => by
            obtain ⟨_, o, ho, hc⟩ := hr _ e
            rw [show W.heap[B]? = _ from h2] at ho
            cases ho; cases hc
          exact ⟨B, h1, (hgr.block _ h2.lt (fun e => hneB e.symm)).trans h2, h3, Nat.le_trans h4 hgr.size⟩
        case assign =>
          intro l pre x W K hI hK
          unfold ptrE ptrV
          gi_wp2
          have hsz := hI.mods.size
          exact hK _ _ (World.grownBy_alloc W _ none) ⟨W.heap.size, rfl, Blk.newL (ptrV x), hsz, by simp; omega⟩
        case body =>
          rintro l pre x a' W hI ⟨B, rfl, hB, hlB, hsW⟩ hgx hlen
          obtain ⟨hcl, hm5⟩ := id hI
          have X3 := V5.mods hm5 (by omega); have X7 := k75.mods hm5 (by omega)
          have c3 := X3.cell 0; have c7 := X7.cell 0; have B0 := hB.cell 0; have B1 := hB.cell 1; have B3 := hB.cell 3
          unfold ptrV at B0 B1 B3
          simp only [List.getElem?_cons_zero, List.getElem?_cons_succ] at c3 c7 B0 B1 B3
          have l3 := X3.lt; have l7 := X7.lt; have lB := hB.lt
          obtain ⟨W', hst, hcl2, hm2, hz2⟩ := claim_store hcl (by omega) (y := x.tgt) (by unfold natOk; omega)
          have same : ¬ (x.lv = 0 ∧ x.n < countN (I 2)) → DJ (countN (I 2)) (dirsC g h 0) w5 (s0 + 1) 0 (pre ++ [x]) W := fun e => by
            refine ⟨?_, hm5⟩
            rw [dirPs_snoc]
            unfold dirP
            rw [if_neg e]
            exact hcl.mono (by simp)
          by_cases h1 : x.lv = 0
          · have e1 : (x.lv == 0) = true := by simp [h1]
            by_cases h2 : x.n < countN (I 2)
            · have e2 : decide ((x.n : Int) < (countN (I 2) : Nat)) = true := by simp; omega
              gi_wp2
              refine ⟨?_, hm5.trans hm2 (fun i _ e => e)⟩
              rw [dirPs_snoc]
              unfold dirP
              rw [if_pos ⟨h1, h2⟩]
              exact hcl2.mono (by simp)
            · have e2 : decide ((x.n : Int) < (countN (I 2) : Nat)) = false := by simp; omega
              gi_wp2
              first | exact Mods.refl _ _ | exact ⟨Mods.refl _ _, same (fun q => h2 q.2)⟩
          · have e1 : (x.lv == 0) = false := by simp [h1]
            gi_wp2
            first | exact Mods.refl _ _ | exact ⟨Mods.refl _ _, same (fun q => h1 q.1)⟩
        case done =>
          rintro D xs W hD rfl hI hK
          obtain ⟨hcl, hm5⟩ := id hI
          have hx5 := HW5.out
          gi_wp2
          refine ⟨?_, ?measure⟩
          · refine ⟨1, ⟨⟨by omega, by omega⟩, (show 0 + 1 ≤ g.inodes from hlt), (hm.trans (mods_of_b hx5) (fun i _ e => e.elim)).trans hm5 (fun i _ e => e), ?_⟩, by simp⟩
            have e1 : dirsC g h (0 + 1) = dirPs (countN (I 2)) (dirsC g h 0) (ptrsI I) := by
              show (if inoAt g h (0 + 1) 0 = 2 then _ else _) = _
              rw [← hI1.out, if_pos HK2.out]
            have := hcl.mono (n' := 10 * (0 + 1)) (by simp [ptrsI])
            rw [← e1] at this
            exact this
          case measure => simp [intOf] <;> omega
      · have hk2 : I 0 ≠ 2 := by rw [hI]; exact hno (k + 1) (by omega) (by omega)
        have t0 : (((I 0 : Nat) : Int) != 2) = true := by simp; omega
        have e1 : dirsC g h (k + 1) = dirsC g h k := by
          show (if inoAt g h (k + 1) 0 = 2 then _ else _) = _
          rw [if_neg (by rw [← hI]; exact hk2)]
        have HE1 := Lib.hid e1
        have HDS := Lib.hid hds
        clear e1 hI hds hk2
        gi_wp2_with (first
          | (refine ⟨trivial, ?_⟩; gi_at_call 40; refine (callsIn_wide.2 (NI _)).mono ?_; rintro e w2 ⟨rfl, hb2⟩; have A2 := A.below hb2 lA; have q0 := A2.cell 0; have q1 := A2.cell 1; have q2 := A2.cell 2; have q3 := A2.cell 3; have v2 := (V.below hb2 lV).cell 0; simp only [List.getElem?_cons_zero, List.getElem?_cons_succ] at q0 q1 q2 q3 v2; have lA2 := A2.lt; have lV2 := (V.below hb2 lV).lt)
          | (refine ⟨trivial, ?_⟩; gi_at_call 68; refine (callsIn_wide.2 (IK _ (hBx.trans (hb2.mono hBx.size)))).mono ?_; rintro e w3 ⟨rfl, hb3⟩))
        have hb23 : Below wx.heap.size wx (w3.alloc (.cells #[.int .i64 (I 0 : Nat), .int .i64 (I 1 : Nat), .int .i64 (I 2 : Nat), .int .i64 (I 3 : Nat), .int .i64 (I 4 : Nat), .int .i64 (I 5 : Nat), .int .i64 (I 6 : Nat), .int .i64 (I 7 : Nat), .int .i64 (I 8 : Nat), .int .i64 (I 9 : Nat), .int .i64 (I 10 : Nat), .int .i64 (I 11 : Nat), .int .i64 (I 12 : Nat)] 40)) := (hb2.trans (hb3.mono hb2.size)).alloc (Nat.le_trans hb2.size hb3.size) _
        refine ⟨?_, ?measure⟩
        · iterate 44 apply Exists.intro
          refine ⟨rfl, ?_, rfl⟩
          rw [HRel.out]
          refine ⟨.inr ⟨by omega, ?_⟩, (show k + 1 ≤ g.inodes from hlt), hm.trans (mods_of_b hb23) (fun i _ e => e.elim), ?_⟩
          · rcases HDS.out with ⟨q, _⟩ | ⟨_, D, q1, q2, q3⟩
            · exact absurd q hk0
            · exact ⟨D, q1, q2, (hb23.block D (Array.getElem?_eq_some_iff.1 q3).1).trans q3⟩
          · rw [HE1.out]
            exact (MapG.below hc hb23 hc.lt).mono (by omega)
        case measure => simp [intOf] <;> omega
    · obtain rfl : k = g.inodes := by omega
      have hln : ¬ ((g.inodes : Int) + 1 ≤ (g.inodes : Int)) := by omega
      have HDS := Lib.hid hds
      clear hds
      gi_wp2_with (first
        | (refine ⟨trivial, ?_⟩; gi_at_call 40; refine (callsIn_wide.2 (NI _)).mono ?_; rintro e w2 ⟨rfl, hb2⟩; have A2 := A.below hb2 lA; have q0 := A2.cell 0; have q1 := A2.cell 1; have q2 := A2.cell 2; have q3 := A2.cell 3; have v2 := (V.below hb2 lV).cell 0; simp only [List.getElem?_cons_zero, List.getElem?_cons_succ] at q0 q1 q2 q3 v2; have lA2 := A2.lt; have lV2 := (V.below hb2 lV).lt))
      rcases HDS.out with ⟨q, _⟩ | ⟨_, D, q1, q2, q3⟩
      · have := hg.i1; have := hg.g1
        have : 0 < g.inodes := by unfold Geo.inodes; exact Nat.mul_pos (Nat.mul_pos (by omega) (by omega)) (by decide)
        omega
      · have q4 : w2.heap[D]? = some (.deferred (some [])) := (hb2.block D (Array.getElem?_eq_some_iff.1 q3).1).trans q3
        have hC2 := MapG.below hc hb2 hc.lt
        have hbw := hBx.trans (hb2.mono hBx.size)
        subst q1
        refine ⟨by simp, .inl ⟨_, _, rfl, run_takeDeferred q4, ?_⟩⟩
        have hgp := grownBy_putObj' w2 D
        refine ⟨_, results_tmp rfl _ _ _, s0 + 1, _, rfl, (by have := HS0.out; omega), MapG.grown hC2 (hgp _) (fun e => by have := Option.some.inj e; omega), ?_⟩
        have := HS0.out
        exact ⟨hbw.os, hbw.tape, hbw.output, by have h1 := (hgp (.deferred none)).size; have := hbw.size; simp at h1 ⊢; omega, fun k hk => by rw [World.putObj_heap_other (by omega)]; exact hbw.block k hk⟩
end Go.Proofs.YtbeabehebenocaaGreatDoor
end

section
/- report: what is wrong with an inode. -/
namespace Go.Proofs.YtbeabehebenocaaGreatDoor
open Go.RowKit

theorem infoStr : (Tryz.prog.info? 9).map (fun i => (i.zero, i.size, i.bytes)) = some (some (.string ⟨#[]⟩), 1, 16) := by kernel_rfl
def intsV (l : List Nat) : List Value := l.map fun n => Value.int .i64 (n : Nat)
/-- the numbers stand in a row that was just made -/
theorem told_new (s : ByteArray) (L : List Nat) (W : World) (hT : TabG W) (hlen : L.length ≤ 1000) (hs : s.size ≤ 1000000) (hL : ∀ n ∈ L, n ≤ 9223372036854775807) (q n : Nat) (hq : q = W.heap.size) (hn : n = L.length) :
    Calls Tryz.prog 16 #[.string s, .slice (some ⟨q, 0, none⟩) n n] (W.alloc (.cells (intsV L).toArray 3)) fun e w' => e = .returned (.string (toldB s L)) ∧ Below W.heap.size W w' := by
  subst hq hn
  have hb : Below W.heap.size W (W.alloc (.cells (intsV L).toArray 3)) := (Below.refl _ W).alloc (Nat.le_refl _) _
  refine (told_c s L W.heap.size L.length _ (hT.below hb) hlen hs hL (fun k n hk => ?_)).mono fun e w' ⟨he, hb2⟩ => ⟨he, hb.trans (hb2.mono (by simp))⟩
  have := (Blk.newL (e := 3) (w := W) (intsV L)).cell k
  rw [this]
  unfold intsV
  rw [List.getElem?_map, hk]; rfl
def bBad : ByteArray := ⟨#[98, 97, 100]⟩
def bLost : ByteArray := ⟨#[108, 111, 115, 116]⟩
def bLinks : ByteArray := ⟨#[108, 105, 110, 107, 115]⟩
def bSize : ByteArray := ⟨#[115, 105, 122, 101]⟩
/-- the lines of an inode: I as it was (good: it can be), J as it is to be -/
def inoLs (good : Bool) (I J : InoN) (x : Nat) : List ByteArray :=
  if good = false then [toldB bBad [x]] else if I 0 = 0 then [] else if J 0 = 0 then [toldB bLost [x]]
  else (if I 1 ≠ J 1 then [toldB bLinks [x, I 1, J 1]] else []) ++ (if I 2 ≠ J 2 then [toldB bSize [x, I 2, J 2]] else [])
theorem app_own3 {P : Program} {ops : Array Oper} {rest : List Oper} {o : Oper} {a : Act} {wr : World} {Q : Exit → Act → World → Prop} (us : List Value) (hgd : o.guard = none) (s x : Operand) (t : TypeId)
    (ho : o.op = .call { callee := .builtin .append, args := #[s, x], argTypes := #[t, t] })
    (base : Nat) (e : TypeId) (i : TypeInfo) (z : Value) (size bytes : Nat) (ht : P.underlying t = some (.slice e)) (hi : P.info? e = some i) (hz : i.zero = some z)
    (hsize : i.size = size) (hby : i.bytes = bytes) (hzs : z.cells.size = size) (hsz : 0 < size)
    (v : Value) (n : Nat) (xs : List Value) (hs : a.eval s = v) (hown : Src wr base e size v n xs) (B0 : Nat)
    (hx : a.eval x = .slice (some ⟨B0, 0, none⟩) 1 1) (hB0 : B0 = wr.heap.size) (hl : us.length = size) (h1 : ∀ u ∈ us, u.oneCell' = true)
    (h63 : n + 1 ≤ maxLen) (hbytes : (n + 1) * bytes ≤ 140737488355328) (hbase : base ≤ wr.heap.size)
    (h : ∀ g cap w', w'.ownsRow base e size (.slice (some ⟨g, 0, none⟩) (n + 1) cap) (n + 1) (xs ++ us) → wr.grownBy w' v.ownBlock → (v.ownBlock = some g ∨ wr.heap.size ≤ g) → g < w'.heap.size → wpList P ops Q rest (a.put o.dst (.slice (some ⟨g, 0, none⟩) (n + 1) cap)) w') :
    wpList P ops Q (o :: rest) a (wr.alloc (.cells us.toArray e)) := by
  subst hB0
  exact app_own us hgd s x t ho base e i z size bytes ht hi hz hsize hby hzs hsz v n xs hs hown hx hl h1 h63 hbytes hbase h
theorem own_form2 {w : World} {base e size n : Nat} {v : Value} {xs : List Value} (h : w.ownsRow base e size v n xs) : ∃ A c, v = .slice A n c := by
  rcases h.2 with ⟨h1, h2⟩ | ⟨g, cap, cur, h1, _⟩
  · exact ⟨none, 0, by rw [h1, h2]⟩
  · exact ⟨_, _, h1⟩
set_option maxRecDepth 1000000 in
set_option maxHeartbeats 8000000 in
theorem rpinode_c (g : Geo) (b o N cap b2 o2 cap2 x : Nat) (f h : Nat → Nat) (w : World) (hI : ImgOk g b o N cap f w) (hJ : ImgOk g b2 o2 N cap2 h w) (hT : TabG w) (hx : x ≤ 1000000) (hIb : ∀ k, inoAt g f x k < 4294967296) (hJb : ∀ k, inoAt g h x k < 4294967296) :
    Calls Tryz.prog 41 #[.agg #[.int .i64 g.gr, .int .i64 g.ino, .int .i64 g.da, .slice (some ⟨b, o, none⟩) N cap], .agg #[.int .i64 g.gr, .int .i64 g.ino, .int .i64 g.da, .slice (some ⟨b2, o2, none⟩) N cap2], .int .i64 x] w fun e w' => ∃ v, e = .returned v ∧
      w'.ownsRow w.heap.size 9 1 v (inoLs (inoGood g f x) (inoAt g f x) (inoAt g h x) x).length ((inoLs (inoGood g f x) (inoAt g f x) (inoAt g h x) x).map Value.string) ∧ Below w.heap.size w w' := by
  obtain ⟨j0, hj0, hy0, hy1, hy2⟩ := info_parts infoStr
  have IA := fun W (hb : Below w.heap.size w W) => iinode_c g b o N cap x f W (hI.below hb hI.lt)
  have JA := fun W (hb : Below w.heap.size w W) => iinode_c g b2 o2 N cap2 x h W (hJ.below hb hJ.lt)
  generalize inoAt g f x = I at IA hIb ⊢
  generalize inoAt g h x = J at JA hJb ⊢
  generalize inoGood g f x = gd at IA ⊢
  generalize inoGood g h x = gd2 at JA
  obtain ⟨LS, hLS⟩ : ∃ L, L = inoLs gd I J x := ⟨_, rfl⟩
  rw [← hLS]
  have HLS := Lib.hid hLS
  clear hLS
  unfold inoV at IA JA
  have z0 := hI.lt
  have z1 := hJ.lt
  have HIA := Lib.hid IA; have HJA := Lib.hid JA; have HT := Lib.hid hT
  have i1 := hIb 1; have i2 := hIb 2; have j1 := hJb 1; have j2 := hJb 2
  have i0 := hIb 0
  obtain ⟨I0, hI0⟩ : ∃ n, n = I 0 := ⟨_, rfl⟩
  obtain ⟨I1, hI1⟩ : ∃ n, n = I 1 := ⟨_, rfl⟩
  obtain ⟨I2, hI2⟩ : ∃ n, n = I 2 := ⟨_, rfl⟩
  obtain ⟨J0, hJ0⟩ : ∃ n, n = J 0 := ⟨_, rfl⟩
  obtain ⟨J1, hJ1⟩ : ∃ n, n = J 1 := ⟨_, rfl⟩
  obtain ⟨J2, hJ2⟩ : ∃ n, n = J 2 := ⟨_, rfl⟩
  clear IA JA hT hI hJ hIb hJb
  go_enter Tryz.func41, Tryz.ntmps41
  go_upto_region 1 with fail
  obtain ⟨w1, hw1⟩ : ∃ W, W = (w.alloc (.cells #[.int .i64 (g.gr : Nat), .int .i64 (g.ino : Nat), .int .i64 (g.da : Nat), .slice (some ⟨b, o, none⟩) N cap] 49)).alloc (.cells #[.int .i64 (g.gr : Nat), .int .i64 (g.ino : Nat), .int .i64 (g.da : Nat), .slice (some ⟨b2, o2, none⟩) N cap2] 49) := ⟨_, rfl⟩
  have kA : Blk 49 w1 w.heap.size [.int .i64 (g.gr : Nat), .int .i64 (g.ino : Nat), .int .i64 (g.da : Nat), .slice (some ⟨b, o, none⟩) N cap] := by rw [hw1]; exact Blk.fst _ _
  have kB : Blk 49 w1 (w.heap.size + 1) [.int .i64 (g.gr : Nat), .int .i64 (g.ino : Nat), .int .i64 (g.da : Nat), .slice (some ⟨b2, o2, none⟩) N cap2] := by rw [hw1]; exact Blk.snd _ _
  have hB1 : Below w.heap.size w w1 := by rw [hw1]; exact ((Below.refl _ w).alloc (Nat.le_refl _) _).alloc (by simp) _
  rw [← hw1]
  clear hw1
  have a0 := kA.cell 0; have a1 := kA.cell 1; have a2 := kA.cell 2; have a3 := kA.cell 3
  simp only [List.getElem?_cons_zero, List.getElem?_cons_succ] at a0 a1 a2 a3
  have lA := kA.lt
  go_upto_region 2 with (go_at_call 68; refine (HIA.out w1 hB1).mono ?_; rintro e w2 ⟨rfl, hb2⟩)
  obtain ⟨q, hq⟩ : ∃ q, q = w2.heap.size := ⟨_, rfl⟩
  obtain ⟨w3, hw3⟩ : ∃ W, W = w2.alloc (.cells #[.int .i64 (I 0 : Nat), .int .i64 (I 1 : Nat), .int .i64 (I 2 : Nat), .int .i64 (I 3 : Nat), .int .i64 (I 4 : Nat), .int .i64 (I 5 : Nat), .int .i64 (I 6 : Nat), .int .i64 (I 7 : Nat), .int .i64 (I 8 : Nat), .int .i64 (I 9 : Nat), .int .i64 (I 10 : Nat), .int .i64 (I 11 : Nat), .int .i64 (I 12 : Nat)] 40) := ⟨_, rfl⟩
  have kI : Blk 40 w3 q [.int .i64 (I 0 : Nat), .int .i64 (I 1 : Nat), .int .i64 (I 2 : Nat), .int .i64 (I 3 : Nat), .int .i64 (I 4 : Nat), .int .i64 (I 5 : Nat), .int .i64 (I 6 : Nat), .int .i64 (I 7 : Nat), .int .i64 (I 8 : Nat), .int .i64 (I 9 : Nat), .int .i64 (I 10 : Nat), .int .i64 (I 11 : Nat), .int .i64 (I 12 : Nat)] := by rw [hw3, hq]; exact Blk.newL [.int .i64 (I 0 : Nat), .int .i64 (I 1 : Nat), .int .i64 (I 2 : Nat), .int .i64 (I 3 : Nat), .int .i64 (I 4 : Nat), .int .i64 (I 5 : Nat), .int .i64 (I 6 : Nat), .int .i64 (I 7 : Nat), .int .i64 (I 8 : Nat), .int .i64 (I 9 : Nat), .int .i64 (I 10 : Nat), .int .i64 (I 11 : Nat), .int .i64 (I 12 : Nat)]
  have hB3 : Below w1.heap.size w1 w3 := by rw [hw3]; exact hb2.trans (((Below.refl _ w2).alloc (Nat.le_refl _) _).mono hb2.size)
  have hqz : w1.heap.size ≤ q := by rw [hq]; exact hb2.size
  rw [← hw3]
  simp only [← hq]
  have kB3 := kB.below hB3 kB.lt
  clear hw3 hq hb2 a0 a1 a2 a3
  have b0 := kB3.cell 0; have b1 := kB3.cell 1; have b2' := kB3.cell 2; have b3 := kB3.cell 3
  simp only [List.getElem?_cons_zero, List.getElem?_cons_succ] at b0 b1 b2' b3
  have lB := kB3.lt
  have hB13 := hB1.trans (hB3.mono hB1.size)
  go_upto_region 3 with (go_at_call 68; refine (HJA.out w3 hB13).mono ?_; rintro e w4 ⟨rfl, hb4⟩)
  obtain ⟨r, hr⟩ : ∃ r, r = w4.heap.size := ⟨_, rfl⟩
  obtain ⟨w5, hw5⟩ : ∃ W, W = w4.alloc (.cells #[.int .i64 (J 0 : Nat), .int .i64 (J 1 : Nat), .int .i64 (J 2 : Nat), .int .i64 (J 3 : Nat), .int .i64 (J 4 : Nat), .int .i64 (J 5 : Nat), .int .i64 (J 6 : Nat), .int .i64 (J 7 : Nat), .int .i64 (J 8 : Nat), .int .i64 (J 9 : Nat), .int .i64 (J 10 : Nat), .int .i64 (J 11 : Nat), .int .i64 (J 12 : Nat)] 40) := ⟨_, rfl⟩
  have kJ : Blk 40 w5 r [.int .i64 (J 0 : Nat), .int .i64 (J 1 : Nat), .int .i64 (J 2 : Nat), .int .i64 (J 3 : Nat), .int .i64 (J 4 : Nat), .int .i64 (J 5 : Nat), .int .i64 (J 6 : Nat), .int .i64 (J 7 : Nat), .int .i64 (J 8 : Nat), .int .i64 (J 9 : Nat), .int .i64 (J 10 : Nat), .int .i64 (J 11 : Nat), .int .i64 (J 12 : Nat)] := by rw [hw5, hr]; exact Blk.newL [.int .i64 (J 0 : Nat), .int .i64 (J 1 : Nat), .int .i64 (J 2 : Nat), .int .i64 (J 3 : Nat), .int .i64 (J 4 : Nat), .int .i64 (J 5 : Nat), .int .i64 (J 6 : Nat), .int .i64 (J 7 : Nat), .int .i64 (J 8 : Nat), .int .i64 (J 9 : Nat), .int .i64 (J 10 : Nat), .int .i64 (J 11 : Nat), .int .i64 (J 12 : Nat)]
  have hB5 : Below w3.heap.size w3 w5 := by rw [hw5]; exact hb4.trans (((Below.refl _ w4).alloc (Nat.le_refl _) _).mono hb4.size)
  rw [← hw5]
  simp only [← hr]
  have kI5 := kI.below hB5 kI.lt
  clear hw5 hr hb4 b0 b1 b2' b3
  have x0 := kI5.cell 0; have x1 := kI5.cell 1; have x2 := kI5.cell 2
  have y0 := kJ.cell 0; have y1 := kJ.cell 1; have y2 := kJ.cell 2
  simp only [List.getElem?_cons_zero, List.getElem?_cons_succ] at x0 x1 x2 y0 y1 y2
  have lI := kI5.lt; have lJ := kJ.lt
  have hB15 := hB13.trans (hB5.mono hB13.size)
  have HT5 := Lib.hid (HT.out.below hB15)
  have HB := Lib.hid hB15
  have hz5 := hB15.size
  clear kA kB kI kB3 kI5 kJ hB1 hB3 hB5 hB13 hB15
  by_cases hg : gd = false
  · subst hg
    have e : LS = [toldB bBad [x]] := by rw [HLS.out]; unfold inoLs; rw [if_pos rfl]
    have HE := Lib.hid e
    clear e
    go_wp2_with (go_at_call 16; refine (told_new bBad [x] w5 HT5.out (by show (1 : Nat) ≤ 1000; decide) (by decide) (fun n hn => by simp at hn; omega) _ _ rfl rfl).mono ?_; rintro e w6 ⟨rfl, hb6⟩; have hz6 := hb6.size; have HB6 := Lib.hid hb6; clear hb6)
    go_ret
    rw [HE.out]
    exact ⟨_, rfl, (Blk.newL (e := 9) (w := w6) [.string (toldB bBad [x])]).own (by omega) rfl (by decide), ((HB.out.trans (HB6.out.mono hz5)).alloc (by omega) _)⟩
  · have hg' : gd = true := by simpa using hg
    subst hg'
    by_cases h0 : I 0 = 0
    · have e : LS = [] := by rw [HLS.out]; unfold inoLs; rw [if_neg (by decide), if_pos h0]
      have HE := Lib.hid e
      clear e
      have t0 : (((I 0 : Nat) : Int) == 0) = true := by simp [h0]
      go_wp2_with fail
      go_ret
      rw [HE.out]
      exact ⟨_, rfl, World.ownsRow_nil _ _ _ _, HB.out⟩
    · have t0 : (((I 0 : Nat) : Int) == 0) = false := by simp; omega
      by_cases h1 : J 0 = 0
      · have e : LS = [toldB bLost [x]] := by rw [HLS.out]; unfold inoLs; rw [if_neg (by decide), if_neg h0, if_pos h1]
        have HE := Lib.hid e
        clear e
        have t1 : (((J 0 : Nat) : Int) == 0) = true := by simp [h1]
        go_wp2_with (go_at_call 16; refine (told_new bLost [x] w5 HT5.out (by show (1 : Nat) ≤ 1000; decide) (by decide) (fun n hn => by simp at hn; omega) _ _ rfl rfl).mono ?_; rintro e w6 ⟨rfl, hb6⟩; have hz6 := hb6.size; have HB6 := Lib.hid hb6; clear hb6)
        go_ret
        rw [HE.out]
        exact ⟨_, rfl, (Blk.newL (e := 9) (w := w6) [.string (toldB bLost [x])]).own (by omega) rfl (by decide), ((HB.out.trans (HB6.out.mono hz5)).alloc (by omega) _)⟩
      · have t1 : (((J 0 : Nat) : Int) == 0) = false := by simp; omega
        have e : LS = (if I 1 ≠ J 1 then [toldB bLinks [x, I 1, J 1]] else []) ++ (if I 2 ≠ J 2 then [toldB bSize [x, I 2, J 2]] else []) := by rw [HLS.out]; unfold inoLs; rw [if_neg (by decide), if_neg h0, if_neg h1]
        have HE := Lib.hid e
        clear e
        have a1 : (((I 1 : Nat) : Int) != ((J 1 : Nat) : Int)) = decide (I 1 ≠ J 1) := by
          by_cases q : I 1 = J 1 <;> simp [q] <;> omega
        have a2 : (((I 2 : Nat) : Int) != ((J 2 : Nat) : Int)) = decide (I 2 ≠ J 2) := by
          by_cases q : I 2 = J 2 <;> simp [q] <;> omega
        have HA1 := Lib.hid a1; have HA2 := Lib.hid a2
        clear a1 a2
        obtain ⟨L1, hL1⟩ : ∃ L, L = if I 1 ≠ J 1 then [toldB bLinks [x, I 1, J 1]] else [] := ⟨_, rfl⟩
        obtain ⟨L2, hL2⟩ : ∃ L, L = if I 2 ≠ J 2 then [toldB bSize [x, I 2, J 2]] else [] := ⟨_, rfl⟩
        have he := HE.out
        rw [← hL1, ← hL2] at he
        have HEE := Lib.hid he; have HL1 := Lib.hid hL1; have HL2 := Lib.hid hL2
        have hl1 : L1.length ≤ 1 := by rw [hL1]; split <;> simp
        clear he hL1 hL2 HE
        go_upto_if 28 with fail
        go_cut [11] (fun s11 wx => ∃ wq, wq = wx ∧ ∃ v, s11 = v ∧ wq.ownsRow w.heap.size 9 1 v L1.length (L1.map Value.string) ∧ Below w5.heap.size w5 wq)
        case first =>
          by_cases q : I 1 = J 1
          · have b1 : (((I 1 : Nat) : Int) != ((J 1 : Nat) : Int)) = false := by rw [HA1.out]; simp [q]
            have e1 : L1 = [] := by rw [HL1.out, if_neg (by simpa using q)]
            have HE1 := Lib.hid e1
            clear e1 q
            go_wp2_with fail
            go_meet
            rw [HE1.out]
            exact ⟨_, rfl, _, rfl, World.ownsRow_nil _ _ _ _, Below.refl _ _⟩
          · have b1 : (((I 1 : Nat) : Int) != ((J 1 : Nat) : Int)) = true := by rw [HA1.out]; simpa using q
            have e1 : L1 = [toldB bLinks [x, I 1, J 1]] := by rw [HL1.out, if_pos q]
            have HE1 := Lib.hid e1
            clear e1 q
            go_wp2_with (first
              | (go_at_call 16; refine (told_new bLinks [x, I 1, J 1] w5 HT5.out (by show (3 : Nat) ≤ 1000; decide) (by decide) (fun n hn => by simp at hn; omega) _ _ rfl rfl).mono ?_; rintro e w6 ⟨rfl, hb6⟩; have hz6 := hb6.size; have HB6 := Lib.hid hb6; have HN6 := Lib.hid (World.ownsRow_nil w6 w.heap.size 9 1); clear hb6)
              | (at_builtin; refine app_own3 [_] rfl _ _ 27 rfl w.heap.size 9 j0 (.string ⟨#[]⟩) 1 16 Tryz.underlying27 hj0 hy0 hy1 hy2 rfl (by decide) _ 0 [] rfl (by exact .inl HN6.out) _ rfl (by simp) rfl (by simp [Value.oneCell']) (by unfold maxLen; omega) (by omega) (by omega) ?_; intro G7 cap7 w7 ho7 hg7 ha7 hl7; have HO7 := Lib.hid ho7; have HG7 := Lib.hid hg7; have HA7 := Lib.hid ha7; clear ho7 hg7 ha7))
            go_meet
            have hg7 : w6.grownBy w7 none := HG7.out
            have hm7 : Mods (fun _ => False) w6 w7 := (Mods.refl (fun _ => False) w6).grown hg7 (fun _ e _ => by cases e)
            rw [HE1.out]
            exact ⟨_, rfl, _, rfl, HO7.out, HB6.out.trans ((Below.mods (Below.refl _ w6) hm7 (fun _ _ e => e) (Nat.le_refl _)).mono hz6)⟩
        case rest =>
        obtain ⟨w8, rfl, v8, rfl, ho8, hb8⟩ := hcut
        obtain ⟨A8, c8, rfl⟩ := own_form2 ho8
        have x2' := (hb8.cell (p := ⟨q, 2, none⟩) lI).trans x2
        have y2' := (hb8.cell (p := ⟨r, 2, none⟩) lJ).trans y2
        have hz8 := hb8.size
        have lI8 : q < w8.heap.size := by omega
        have lJ8 : r < w8.heap.size := by omega
        have HO8 := Lib.hid ho8; have HB8 := Lib.hid hb8; have HT8 := Lib.hid (HT5.out.below hb8)
        clear ho8 hb8 x0 x1 x2 y0 y1 y2
        by_cases q' : I 2 = J 2
        · have b1 : (((I 2 : Nat) : Int) != ((J 2 : Nat) : Int)) = false := by rw [HA2.out]; simp [q']
          have e1 : L2 = [] := by rw [HL2.out, if_neg (by simpa using q')]
          have HE1 := Lib.hid e1
          clear e1 q'
          go_wp2_with fail
          go_ret
          rw [HEE.out, HE1.out, List.append_nil]
          exact ⟨_, rfl, HO8.out, HB.out.trans (HB8.out.mono hz5)⟩
        · have b1 : (((I 2 : Nat) : Int) != ((J 2 : Nat) : Int)) = true := by rw [HA2.out]; simpa using q'
          have e1 : L2 = [toldB bSize [x, I 2, J 2]] := by rw [HL2.out, if_pos q']
          have HE1 := Lib.hid e1
          clear e1 q'
          go_wp2_with (first
            | (go_at_call 16; refine (told_new bSize [x, I 2, J 2] w8 HT8.out (by show (3 : Nat) ≤ 1000; decide) (by decide) (fun n hn => by simp at hn; omega) _ _ rfl rfl).mono ?_; rintro e w6 ⟨rfl, hb6⟩; have hz6 := hb6.size; have HB6 := Lib.hid hb6; have HO9 := Lib.hid (own_below HO8.out hb6); clear hb6)
            | (at_builtin; refine app_own3 [_] rfl _ _ 27 rfl w.heap.size 9 j0 (.string ⟨#[]⟩) 1 16 Tryz.underlying27 hj0 hy0 hy1 hy2 rfl (by decide) _ L1.length (L1.map Value.string) rfl (by exact .inl HO9.out) _ rfl (by simp) rfl (by simp [Value.oneCell']) (by unfold maxLen; omega) (by omega) (by omega) ?_; intro G7 cap7 w7 ho7 hg7 ha7 hl7; have HO7 := Lib.hid ho7; have HG7 := Lib.hid hg7; have HA7 := Lib.hid ha7; clear ho7 hg7 ha7))
          go_ret
          have hm7 : Mods (fun k => w.heap.size ≤ k) w6 w7 := (Mods.refl _ w6).grown HG7.out (fun k e _ => own_base HO9.out k e)
          rw [HEE.out, HE1.out]
          refine ⟨_, rfl, by rw [List.length_append, List.map_append]; exact HO7.out, ?_⟩
          have hbw : Below w.heap.size w w6 := HB.out.trans (((HB8.out.trans (HB6.out.mono hz8))).mono hz5)
          exact Below.mods hbw hm7 (fun i hi e => by omega) (by omega)
end Go.Proofs.YtbeabehebenocaaGreatDoor
end
