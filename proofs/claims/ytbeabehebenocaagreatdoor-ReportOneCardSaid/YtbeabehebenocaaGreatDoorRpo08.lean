/- Part of the road to RpCard: Inode, Inodes, DirI, EntsOk, RepP, TreeP, TreeL, TreeO, TreeR, LawP. -/
import Derived.Deep.RegionHeld3
import Derived.Maps.RangeWalk
import Derived.Test.YtbeabehebenocaaGreatDoorRpo07
import Derived.Test.YtbeabehebenocaaGreatDoorRpo03
import Derived.Test.YtbeabehebenocaaGreatDoorRpo05
import Derived.Test.YtbeabehebenocaaGreatDoorRpo01
import Derived.Test.YtbeabehebenocaaGreatDoorRpo06
set_option linter.all false
set_option linter.unusedSimpArgs false
set_option linter.unusedVariables false
set_option linter.unusedSectionVars false
section
/- mend: an inode that was taken in, written (its pointers are all of the first level). -/
namespace Go.Proofs.YtbeabehebenocaaGreatDoor
open Go.RowKit

/-- the inode that is written -/
def outI (t : Tk) : InoN := fun j => if j = 0 then t.i 0 else if j = 1 then t.links else if j = 2 then t.i 2 else if j < 11 then (atF t.L (j - 3)).getD 0 else 0
theorem own_empty {w : World} {kt : TypeId} {R : Value → Option (DU × List MemPlace)} {b c : Nat} (h : w.heap[b]? = some (.map #[] c)) : w.ownsMap Tryz.prog kt R b 0 (.map []) :=
  ⟨#[], c, h, ⟨by simp, MapKept.stamped_empty c, by simp⟩, Nat.le_refl _, rfl⟩
theorem atF_mem {L : List Ptr} {k x : Nat} (h : atF L k = some x) : ∃ p ∈ L, p.tgt = x := by
  have gen : ∀ (L : List Ptr) (m : Nat → Option Nat), L.foldl atS m k = some x → m k = some x ∨ ∃ p ∈ L, p.tgt = x := by
    intro L
    induction L with
    | nil => intro m h; exact .inl h
    | cons p r ih =>
      intro m h
      rcases ih _ h with h1 | ⟨q, hq, e⟩
      · unfold atS at h1
        split at h1
        · dsimp only at h1
          split at h1
          · exact .inr ⟨p, by simp, by cases h1; rfl⟩
          · exact .inl h1
        · exact .inl h1
      · exact .inr ⟨q, by simp [hq], e⟩
  rcases gen L _ h with h1 | h1
  · cases h1
  · exact h1
theorem outI_r (t : Tk) (hp : ∀ p ∈ t.L, p.tgt < 4294967296) (hk : t.i 0 ≤ 2) (hl : t.links < 65536) (hs : t.i 2 < 4294967296) : InoR (outI t) := by
  refine ⟨by simp [outI]; omega, by simpa [outI] using hl, by simpa [outI] using hs, fun k h3 h13 => ?_⟩
  unfold outI
  rw [if_neg (by omega), if_neg (by omega), if_neg (by omega)]
  split
  · cases e : atF t.L (k - 3) with
    | none => simp
    | some x => obtain ⟨p, hpm, rfl⟩ := atF_mem e; exact hp p hpm
  · omega
theorem outI_ok (t : Tk) (h : t.i 0 ≤ 2 ∧ t.i 0 ≠ 0) : inoOk (outI t) = true := by simp [inoOk, outI, h.1, h.2]
set_option maxRecDepth 100000 in
set_option maxHeartbeats 4000000 in
theorem inode_c (X TB : Nat) (t : Tk) (w : World) (h : TkAt w TB t) (hL : t.L.length ≤ 100000000) (hp : ∀ p ∈ t.L, p.lv = 0 ∧ p.n < 8 ∧ p.tgt < 4294967296) (hk : t.i 0 ≤ 2 ∧ t.i 0 ≠ 0) (hl : t.links < 65536) (hs : t.i 2 < 4294967296) :
    Calls Tryz.prog 58 #[.pointer (some ⟨X, 0, none⟩), .pointer (some ⟨TB, 0, none⟩)] w fun e w' => ∃ B cap, e = .returned (.slice (some ⟨B, 0, none⟩) 64 cap) ∧ w'.ownsRow w.heap.size 5 1 (.slice (some ⟨B, 0, none⟩) 64 cap) 64 (bytesL (inoF (outI t)) 64) ∧ Below w.heap.size w w' := by
  obtain ⟨v, hB, ho⟩ := h
  obtain ⟨A, cap, rfl, hr⟩ := own_rdp ho
  have c1 := hB.cell 1; have c3 := hB.cell 3; have c14 := hB.cell 14; have c17 := hB.cell 17
  unfold tkV at c1 c3 c14 c17
  simp only [List.getElem?_cons_zero, List.getElem?_cons_succ] at c1 c3 c14 c17
  have lB := hB.lt
  have al : ∀ (ob : Obj) (k q : Nat), k < w.heap.size → (w.alloc ob).cell? ⟨k, q, none⟩ = w.cell? ⟨k, q, none⟩ := fun ob k q hk => World.cell?_of_block (w := w) (Below.heap_alloc _ _ _ hk)
  have hmm := @run_makeMap Tryz.prog
  go_enter Tryz.func58, Tryz.ntmps58
  go_wp2
  refine wp_region_held_drew (S := (fun w' => w'.cell? ⟨TB, 1, none⟩ = some (.int .i64 (t.i 0 : Nat)) ∧ w'.cell? ⟨TB, 17, none⟩ = some (.int .i64 (t.links : Nat)) ∧ w'.cell? ⟨TB, 3, none⟩ = some (.int .i64 (t.i 2 : Nat)))) (by kernel_rfl) ⟨c1, c17, c3⟩ (fun hHeld => ?_)
  refine tkA (i := 0) (oi := ⟨_, _, _, _, _, _⟩) ?_
  simp only [putA, List.set]
  refine tkA (i := 1) (oi := ⟨_, _, _, _, _, _⟩) ?_
  simp only [putA, List.set]
  refine tkA (i := 2) (oi := ⟨_, _, _, _, _, _⟩) ?_
  simp only [putA, List.set]
  refine tkA (i := 3) (oi := ⟨_, _, _, _, _, _⟩) ?_
  simp only [putA, List.set]
  refine tkA (i := 4) (oi := ⟨_, _, _, _, _, _⟩) ?_
  simp only [putA, List.set]
  refine tkA (i := 5) (oi := ⟨_, _, _, _, _, _⟩) ?_
  simp only [putA, List.set]
  refine tkA (i := 6) (oi := ⟨_, _, _, _, _, _⟩) ?_
  simp only [putA, List.set]
  refine tkA (i := 7) (oi := ⟨_, _, _, _, _, _⟩) ?_
  simp only [putA, List.set]
  refine tkA (i := 8) (oi := ⟨_, _, _, _, _, _⟩) ?_
  simp only [putA, List.set]
  refine tkA (i := 9) (oi := ⟨_, _, _, _, _, _⟩) ?_
  simp only [putA, List.set]
  refine tkA (i := 10) (oi := ⟨_, _, _, _, _, _⟩) ?_
  simp only [putA, List.set]
  refine tkA (i := 11) (oi := ⟨_, _, _, _, _, _⟩) ?_
  simp only [putA, List.set]
  refine tkA (i := 12) (oi := ⟨_, _, _, _, _, _⟩) ?_
  simp only [putA, List.set]
  refine tkA (i := 13) (oi := ⟨_, _, _, _, _, _⟩) ?_
  simp only [putA, List.set]
  refine tkA (i := 14) (oi := ⟨_, _, _, _, _, _⟩) ?_
  simp only [putA, List.set]
  refine wpAnyH_ready (rs := [15]) (by kernel_rfl) (by simp) ?_
  refine AllReadyH.cons rfl (fun K hK => ?_) AllReadyH.nil
  go_simp
  refine hK.out _ _ ?_ (fun hHeld => ?_)
  · exact ⟨(al _ _ _ lB).trans c1, (al _ _ _ lB).trans c17, (al _ _ _ lB).trans c3⟩
  clear hK K
  refine wpAnyH_ready (rs := [16]) (by kernel_rfl) (by simp) ?_
  refine AllReadyH.cons rfl (fun K hK => ?_) AllReadyH.nil
  go_simp
  refine hK.out _ _ ?_ (fun hHeld => ?_)
  · exact ⟨(al _ _ _ lB).trans c1, (al _ _ _ lB).trans c17, (al _ _ _ lB).trans c3⟩
  clear hK K
  refine wpAnyH_done (by kernel_rfl) ?_ _
  have e14 : ∀ (o1 o2 o3 o4 : Obj), ((((w.alloc o1).alloc o2).alloc o3).alloc o4).cell? ⟨TB, 14, none⟩ = some (.slice A t.L.length cap) := fun o1 o2 o3 o4 => (World.cell?_of_block (w := w) ((Below.heap_alloc _ _ _ (by simp; omega)).trans ((Below.heap_alloc _ _ _ (by simp; omega)).trans ((Below.heap_alloc _ _ _ (by simp; omega)).trans (Below.heap_alloc _ _ _ lB))))).trans c14
  have C14 := Lib.hid c14
  clear hHeld c1 c17 c3 c14 al
  go_wp2
  obtain ⟨s0, hs0⟩ : ∃ s0, s0 = w.heap.size := ⟨_, rfl⟩
  obtain ⟨w4, hw4⟩ : ∃ W, W = ((((w.alloc (.cells #[.int .i64 (t.i 0 : Nat), .int .i64 (t.links : Nat), .int .i64 (t.i 2 : Nat), .int .i64 0, .int .i64 0, .int .i64 0, .int .i64 0, .int .i64 0, .int .i64 0, .int .i64 0, .int .i64 0, .int .i64 0, .int .i64 0] 40)).alloc (.map #[] 0)).alloc (.cells #[.map (some (w.heap.size + 1))] 124)).alloc (.map #[] 0)).drew := ⟨_, rfl⟩
  have hB4 : Below s0 w w4 := by rw [hw4, hs0]; exact (((((Below.refl _ w).alloc (Nat.le_refl _) _).alloc (by simp) _).alloc (by simp; omega) _).alloc (by simp; omega) _).drew
  have z4 : w4.heap.size = s0 + 4 := by rw [hw4, hs0]; simp [World.drew]
  have k5 : Blk 40 w4 s0 (inoL (outI { t with L := [] })) := by rw [hw4, hs0]; exact (((Blk.newL (inoL (outI { t with L := [] }))).alloc _).alloc _).alloc _
  have kM : Blk 124 w4 (s0 + 2) [.map (some (s0 + 1))] := by rw [hw4, hs0]; exact (Blk.newAt [.map (some (w.heap.size + 1))] (by simp)).alloc _
  have hMap : w4.heap[s0 + 1]? = some (.map #[] 0) := by
    rw [hw4, hs0]
    have e := (MapKept.heap_alloc (w.alloc (.cells #[.int .i64 (t.i 0 : Nat), .int .i64 (t.links : Nat), .int .i64 (t.i 2 : Nat), .int .i64 0, .int .i64 0, .int .i64 0, .int .i64 0, .int .i64 0, .int .i64 0, .int .i64 0, .int .i64 0, .int .i64 0, .int .i64 0] 40)) (.map #[] 0)).1
    rw [World.size_alloc] at e
    exact (Below.heap_alloc _ _ _ (by simp)).trans ((Below.heap_alloc _ _ _ (by simp)).trans e)
  rw [← hw4]
  simp only [← hs0]
  obtain ⟨n, hn⟩ : ∃ n, n = t.L.length := ⟨_, rfl⟩
  simp only [← hn]
  have c14 := (hB4.cell (p := ⟨TB, 14, none⟩) (by rw [hs0]; exact lB)).trans ((show w.cell? ⟨TB, 14, none⟩ = _ from C14.out))
  rw [← hn] at c14
  have lB4 : TB < w4.heap.size := by omega
  have hLn : n ≤ 100000000 := by omega
  have HS0 := Lib.hid hs0; have HN := Lib.hid hn; have HR := Lib.hid hr
  have HB := Lib.hid hB4
  have HOK := Lib.hid hk; have HLK := Lib.hid hl; have HSZ := Lib.hid hs
  clear hw4 hs0 hn hr ho hB e14 hk hl hs
  go_loopw [46] (fun i' wr => ∃ k : Nat, k ≤ n ∧ i' = .int .i64 k ∧ Below w4.heap.size w4 wr) (fun i' _ => n - (intOf i').toNat)
  case atStart => exact ⟨0, by omega, rfl, Below.refl _ _⟩
  case round =>
    obtain ⟨k, hk, rfl, hB⟩ := hrel
    have hs := hB.size
    by_cases hlt : k < n
    · obtain ⟨p, hpk⟩ : ∃ p, t.L[k]? = some p := ⟨t.L[k]'(by rw [← HN.out]; exact hlt), List.getElem?_eq_getElem _⟩
      obtain ⟨b, rfl, hbl, c0, c1, c2, c3⟩ := HR.out k p hpk
      obtain ⟨p0, p1, p2⟩ := hp p (List.mem_of_getElem? hpk)
      have hc := fun q => (hB.cell (p := ⟨b, q, none⟩) (by show b < w4.heap.size; have := hB4.size; omega)).trans (hB4.cell (p := ⟨b, q, none⟩) (by rw [HS0.out]; exact hbl))
      have d0 := (hc _).trans c0; have d1 := (hc _).trans c1; have d2 := (hc _).trans c2; have d3 := (hc _).trans c3
      rw [p0] at d0
      have hbl2 : b < wr.heap.size := by have := hB4.size; omega
      clear c0 c1 c2 c3 hc hpk p0
      go_wp2
      go_roundw
      case rel => exact ⟨k + 1, by omega, by go_num, hB.alloc hs _⟩
      case measure => simp [intOf]; omega
    · obtain rfl : k = n := by omega
      have c14' := (hB.cell (p := ⟨TB, 14, none⟩) lB4).trans c14
      have lB5 : TB < wr.heap.size := by omega
      have k5' := k5.below hB (by omega)
      have mB : Mods (fun q => q = s0 ∨ w4.heap.size ≤ q) w4 wr := (Mods.of_below hB).mono (fun i _ e => .inr e)
      obtain ⟨wo, hwo⟩ : ∃ wo, wo = wr := ⟨_, rfl⟩
      clear hlt hk
      go_wp2
      go_loopw [93] (fun i' wr2 => ∃ j : Nat, j ≤ k ∧ i' = .int .i64 j ∧ Blk 40 wr2 s0 (inoL (outI { t with L := t.L.take j })) ∧ Mods (fun q => q = s0 ∨ w4.heap.size ≤ q) w4 wr2) (fun i' _ => k - (intOf i').toNat)
      case atStart => exact ⟨0, by omega, rfl, by simpa using k5', mB⟩
      case round =>
        obtain ⟨j, hj, rfl, hkI, hmI⟩ := hrel
        have hs2 := hmI.size
        by_cases hlt : j < k
        · obtain ⟨p, hpk⟩ : ∃ p, t.L[j]? = some p := ⟨t.L[j]'(by rw [← HN.out]; exact hlt), List.getElem?_eq_getElem _⟩
          obtain ⟨b, rfl, hbl, c0, c1, c2, c3⟩ := HR.out j p hpk
          obtain ⟨p0, p1, p2⟩ := hp p (List.mem_of_getElem? hpk)
          have hbs : b < s0 := by rw [HS0.out]; exact hbl
          have hc := fun q => (hmI.cell (g := b) (o := q) (by omega) (by omega)).trans (hB4.cell (p := ⟨b, q, none⟩) hbs)
          have d0 := (hc _).trans c0; have d1 := (hc _).trans c1; have d2 := (hc _).trans c2; have d3 := (hc _).trans c3
          rw [p0] at d0
          have PL := fun W => place_c p.n (by omega) W
          have q1 : plL p.n = 0 := by unfold plL; rw [if_pos p1]
          have q2 : plA p.n = p.n := by unfold plA; rw [if_pos p1]
          simp only [q1, q2] at PL
          have ls := hkI.lt
          have hnx : inoL (fun q => if q = 3 + p.n then p.tgt else outI { t with L := t.L.take j } q) = inoL (outI { t with L := t.L.take (j + 1) }) := inoL_congr (fun q hq => by
            unfold outI
            simp only [atF_take t.L j p hpk, atS, p0, if_true]
            by_cases e : q = 3 + p.n
            · subst e
              rw [if_pos rfl, if_neg (by omega), if_neg (by omega), if_neg (by omega), if_pos (by omega), if_pos (by omega)]; rfl
            · rw [if_neg e]
              by_cases h2 : 3 ≤ q ∧ q < 11
              · have e2 : q - 3 ≠ p.n := by omega
                simp only [if_neg e2]
              · by_cases h3 : q < 3
                · match q, h3 with
                  | 0, _ | 1, _ | 2, _ => rfl
                · rw [if_neg (by omega), if_neg (by omega), if_neg (by omega), if_neg (by omega), if_neg (by omega), if_neg (by omega), if_neg (by omega), if_neg (by omega)])
          have fr := hkI.frozen (3 + p.n)
          have cc : wr.cell? ⟨s0, 3 + p.n, none⟩ = some (.int .i64 ((outI { t with L := t.L.take j } (3 + p.n) : Nat) : Int)) := by rw [hkI.cell, inoL_get _ _ (by omega)]
          have HNX := Lib.hid hnx
          clear c0 c1 c2 c3 hc hpk p0 hnx q1 q2
          go_wp2_with (go_at_call 81; refine (PL _).mono ?_; rintro e w9 ⟨rfl, rfl⟩)
          go_roundw
          case rel =>
            have hk2 := hkI.set (3 + p.n) (.int .i64 (p.tgt : Nat))
            rw [inoL_set _ _ _ (by omega), HNX.out] at hk2
            refine ⟨j + 1, by omega, by go_num, ?_, ?_⟩
            · exact hk2.alloc _
            · exact (hmI.setCell ⟨s0, 3 + p.n, none⟩ (fun _ => .inl rfl) _).alloc _
          case measure => simp [intOf]; omega
        · obtain rfl : j = k := by omega
          have kM2 := kM.mods hmI (by omega)
          have hmap : wr.heap[s0 + 1]? = some (.map #[] 0) := (hmI.block _ (by omega) (by omega)).trans hMap
          have hown : wr.ownsMap Tryz.prog 3 (fun _ => (none : Option (DU × List MemPlace))) (s0 + 1) 0 (.map []) := own_empty hmap
          have cM := kM2.cell 0
          simp only [List.getElem?_cons_zero] at cM
          have eL : t.L.take j = t.L := List.take_of_length_le (by have := HN.out; omega)
          rw [eL] at hkI
          have hk5 : Blk 40 wr s0 (inoL (outI t)) := hkI
          clear hkI kM kM2 hmap c14 c14' k5 k5' HR hlt
          go_wp2_with (first | (at_range; refine wpList_range_own _ rfl _ 124 rfl 3 45 intKeyed Tryz.underlying124 _ (s0 + 1) 0 _ rfl hown ?_; intro w0 hrg0 hg0 hs0) | go_in)
          go_frame
          generalize hW5 : wr = w5 at *
          clear hW5
          have hbW := HB.out
          have hgb : ∀ wr2 : World, w5.grownBy wr2 none → Blk 40 wr2 s0 (inoL (outI t)) := fun wr2 hg => (hg.block s0 hk5.lt (by simp)).trans hk5
          go_loopw [141] (fun _ wr2 => ∃ (left : Lit → Bool) (cnt : Nat), wr2.ranges Tryz.prog 3 (fun _ => (none : Option (DU × List MemPlace))) (s0 + 1) w5.heap.size 0 (.map []) left cnt ∧ w5.grownBy wr2 none)
            (fun _ wr2 => wr2.rangeLeft (s0 + 1) w5.heap.size)
          case atStart => exact ⟨_, _, hrg0, hg0⟩
          case round =>
            obtain ⟨left, cnt, hrg, hgw⟩ := hrel
            go_wp2_with (first
              | (at_next; refine wpList_next_ranges _ rfl _ rfl 3 intKeyed (fun _ => (none : Option (DU × List MemPlace))) id id (fun key _ _ => ⟨key, rfl⟩) (fun v _ _ => ⟨v, rfl⟩) (s0 + 1) _ 0 _ _ _ rfl hrg ?_ ?_)
              | go_in)
            · intro _ hl0
              have hk6 := hgb _ hgw
              have HP := ipack_c (outI t) (outI_r t (fun p h => (hp p h).2.2) HOK.out.1 HLK.out HSZ.out)
              have cs := fun k hk => (hk6.cell k).trans (inoL_get (outI t) k hk)
              have d0 := cs 0 (by omega); have d1 := cs 1 (by omega); have d2 := cs 2 (by omega); have d3 := cs 3 (by omega); have d4 := cs 4 (by omega); have d5 := cs 5 (by omega); have d6 := cs 6 (by omega); have d7 := cs 7 (by omega); have d8 := cs 8 (by omega); have d9 := cs 9 (by omega); have d10 := cs 10 (by omega); have d11 := cs 11 (by omega); have d12 := cs 12 (by omega)
              have hB9 : Below w.heap.size w wr := by
                have h1 := HB.out.trans ((hmI.below (B := s0) (fun k hk => by omega) (by omega)).trans ⟨hgw.os, hgw.tape, hgw.output, hgw.size, fun k hk => hgw.block k (by omega) (by simp)⟩)
                rwa [HS0.out] at h1
              have HB9 := Lib.hid hB9
              have hokI : inoOk (outI t) = true := outI_ok t HOK.out
              unfold inoV at HP
              clear hk6 cs hgb hgw hrg hrg0 hg0 hmI hB9 hk5
              go_wp2_with (go_at_call 83; refine (HP _).mono ?_; rintro e w9 ⟨hb9, hy, _⟩; obtain ⟨B, cap9, rfl, ho9⟩ := hy hokI)
              have h9 := HB9.out
              have hs9 := h9.size
              go_ret
              exact ⟨B, cap9, rfl, own_mono ho9 hs9, h9.trans (hb9.mono hs9)⟩
end Go.Proofs.YtbeabehebenocaaGreatDoor
end

section
/- mend: all inodes written. -/
namespace Go.Proofs.YtbeabehebenocaaGreatDoor
open Go.RowKit

/-- what may be written of an inode that was taken in -/
structure TkOk (t : Tk) : Prop where
  len : t.L.length ≤ 100000000
  ps : ∀ p ∈ t.L, p.lv = 0 ∧ p.n < 8 ∧ p.tgt < 4294967296
  k : t.i 0 ≤ 2 ∧ t.i 0 ≠ 0
  l : t.links < 65536
  s : t.i 2 < 4294967296
def inoRow (ins : Nat → Option Tk) (x : Nat) : Nat → Nat := match ins x with | some t => inoF (outI t) | none => fun _ => 0
def inosF (g : Geo) (ins : Nat → Option Tk) (fo : Nat → Nat) : Nat → Nat → Nat
  | 0 => fo
  | k + 1 => putF (inosF g ins fo k) (g.iBlk (k + 1) * 1024 + g.iOff (k + 1)) 64 (inoRow ins (k + 1))
theorem own_tag2 {w : World} {base e size n g cap : Nat} {xs : List Value} (h : w.ownsRow base e size (.slice (some ⟨g, 0, none⟩) n cap) n xs) : base ≤ g ∧ g < w.heap.size ∧ ∃ ys fr, w.heap[g]? = some (.cells ys e fr) := by
  obtain ⟨hl, h⟩ := h
  rcases h with ⟨hv, _⟩ | ⟨g', cap', cur, hv, hb, hg, _⟩
  · cases hv
  · cases hv
    exact ⟨hb, (Array.getElem?_eq_some_iff.1 hg).1, _, _, hg⟩
/-- the image that is made may change: the mender stays -/
theorem MAt.outmods {w w' : World} {g : Geo} {b o N cap : Nat} {f : Nat → Nat} {X CB IB M G capo n : Nat} {xs : List Value} {way : Value} {c : Nat → Bool} {adr : Nat → Option Nat} {tk : Nat → Tk} (h : MAt w g b o N cap f X CB IB M (.slice (some ⟨G, 0, none⟩) N capo) way c adr tk)
    (ho : w.ownsRow (b + 1) 5 1 (.slice (some ⟨G, 0, none⟩) n capo) n xs) (hm : Mods (fun k => k = G) w w') : MAt w' g b o N cap f X CB IB M (.slice (some ⟨G, 0, none⟩) N capo) way c adr tk := by
  obtain ⟨h1, h2, ys, fr, h3⟩ := own_tag2 ho
  refine h.keep hm (by omega) (fun e => ?_) (fun e => ?_) (fun e => ?_) (fun k hk _ ⟨ys2, fr2, hh⟩ => ?_)
  · rw [← e, show w.heap[X]? = _ from h.men] at h3
    exact absurd (tag_inj h3) (by decide)
  · subst e; exact not_map h.cl h3
  · subst e; exact not_map h.im h3
  · subst hk
    rw [h3] at hh
    rcases hh with hh | hh <;> exact absurd (tag_inj hh) (by decide)

set_option maxRecDepth 100000 in
set_option maxHeartbeats 4000000 in
theorem xinodes_c (g : Geo) (b o N cap : Nat) (f : Nat → Nat) (X CB IB M G capo : Nat) (way : Value) (c : Nat → Bool) (adr : Nat → Option Nat) (tk : Nat → Tk) (ins : Nat → Option Tk) (fo : Nat → Nat) (w : World)
    (h : MAt w g b o N cap f X CB IB M (.slice (some ⟨G, 0, none⟩) N capo) way c adr tk) (hi : ∀ x, ins x = (adr x).map fun _ => tk x) (hN : N = g.total * 1024) (hcapo : capo ≤ 9223372036854775807)
    (ho : w.ownsRow (b + 1) 5 1 (.slice (some ⟨G, 0, none⟩) N capo) N (bytesL fo N)) (hok : ∀ x t, ins x = some t → TkOk t) :
    Calls Tryz.prog 31 #[.pointer (some ⟨X, 0, none⟩)] w fun e w' => e = .returned (.tuple #[]) ∧ w'.ownsRow (b + 1) 5 1 (.slice (some ⟨G, 0, none⟩) N capo) N (bytesL (inosF g ins fo g.inodes) N) ∧ Mods (fun k => k = G) w w' := by
  have hg := h.img.ok
  have lX := h.men.lt
  have hNb : N ≤ 9000000 := by have := hg.total_le; omega
  have hN0 : 0 < N := by have := hg.total_pos; omega
  have hcN : N ≤ capo := by
    obtain ⟨_, h⟩ := ho
    rcases h with ⟨h, _⟩ | ⟨_, _, _, h, _, _, h2, _⟩
    · cases h
    · cases h; exact h2
  obtain ⟨n, hn⟩ : ∃ n, n = g.inodes := ⟨_, rfl⟩
  have hn1 : n ≤ 512 := by rw [hn]; exact hg.inodes_le
  have IC := fun W => inodes_c g hg W
  rw [← hn] at IC ⊢
  have HA := Lib.hid h; have HO := Lib.hid ho; have HN := Lib.hid hN; have Hn := Lib.hid hn; have HOK := Lib.hid hok; have HI := Lib.hid hi; have HIC := Lib.hid IC
  obtain ⟨hGb, lG, _⟩ := own_tag2 ho
  have kX : ∀ W, Mods (fun k => k = G) w W → MAt W g b o N cap f X CB IB M (.slice (some ⟨G, 0, none⟩) N capo) way c adr tk := fun W hW => h.outmods ho hW
  have HK := Lib.hid kX
  obtain ⟨j0, hj0, hy0, hy1, hy2⟩ := info_parts info8
  clear kX h ho hN hn hok hi IC
  go_enter Tryz.func31, Tryz.ntmps31
  go_wp2
  go_loopw [2] (fun i' wr => ∃ k : Nat, k ≤ n ∧ i' = .int .i64 ((k + 1 : Nat) : Int) ∧ wr.ownsRow (b + 1) 5 1 (.slice (some ⟨G, 0, none⟩) N capo) N (bytesL (inosF g ins fo k) N) ∧ Mods (fun k => k = G) w wr) (fun i' _ => n + 1 - (intOf i').toNat)
  case atStart => exact ⟨0, by omega, rfl, HO.out, Mods.refl _ _⟩
  case round =>
    obtain ⟨k, hk, rfl, hoI, hmI⟩ := hrel
    have hs := hmI.size
    have hAk := HK.out _ hmI
    have x0 := hAk.men.cell 0; have x1 := hAk.men.cell 1; have x2 := hAk.men.cell 2; have x4 := hAk.men.cell 4; have x6 := hAk.men.cell 6
    simp only [List.getElem?_cons_zero, List.getElem?_cons_succ] at x0 x1 x2 x4 x6
    have lXr : X < wr.heap.size := by omega
    have HAk := Lib.hid hAk; have HoI := Lib.hid hoI; have HmI := Lib.hid hmI
    clear hAk hoI hmI
    by_cases hlt : k < n
    · have hb1 : g.iOk (k + 1) = true := by rw [Geo.iOk_iff, ← Hn.out]; omega
      obtain ⟨hb2, hb3, hb4⟩ := Geo.iBlk_lt hg hb1
      obtain ⟨p, hp⟩ : ∃ p, p = g.iBlk (k + 1) := ⟨_, rfl⟩
      obtain ⟨q, hq⟩ : ∃ q, q = g.iOff (k + 1) := ⟨_, rfl⟩
      have IA := fun W => iat_c g hg (k + 1) W
      rw [← hp, ← hq] at IA
      have hfit : p * 1024 + q + 64 ≤ N := by rw [HN.out, hp, hq]; have := hg.d1; omega
      have hHp := Lib.hid hp; have hHq := Lib.hid hq; have HIA := Lib.hid IA
      clear hb1 hb2 hb3 hb4 hp hq IA
      cases he : adr (k + 1) with
      | none =>
        have hins : inoRow ins (k + 1) = fun _ => 0 := by unfold inoRow; rw [HI.out, he]; rfl
        have HE := Lib.hid he; have HINS := Lib.hid hins
        have heq : inosF g ins fo (k + 1) = putF (inosF g ins fo k) (p * 1024 + q) 64 (fun _ => 0) := by rw [hHp.out, hHq.out, ← hins]; rfl
        have HEQ := Lib.hid heq
        clear he hins heq
        go_wp2_with (first
          | (go_at_call 40; refine (HIC.out _).mono ?_; rintro e w2 ⟨rfl, hb2⟩; obtain ⟨hc, hf⟩ := bcell hb2; have hz2 := hb2.size; have lX2 : X < w2.heap.size := by omega)
          | (at_make; refine mk_one _ rfl _ _ 25 rfl 5 j0 (.int .u8 0) 1 Tryz.underlying25 hj0 hy0 hy1 hy2 rfl _ _ _ _ 64 rfl rfl rfl rfl (by omega) (by unfold maxLen; omega) ?_; intro w3 hblk hgr; rw [zeros_bytes] at hblk; have HB := Lib.hid hblk; clear hblk; have hB3 := (Below.refl _ _).grown hgr (Nat.le_refl _) (fun k e => by cases e); have hlk := in_look_ok ((HAk.out.below hb2).below hB3).im (show natOk (k + 1) by unfold natOk; omega); rw [HE.out, show (((k + 1 : Nat) : Int)) = (k : Int) + 1 by omega] at hlk; simp only [ptrTo, Option.isSome] at hlk; obtain ⟨hc3, hf3⟩ := bcell hB3; have hz3 := hB3.size; have lX3 : X < w3.heap.size := by omega)
          | (go_at_call 59; refine (HIA.out _).mono ?_; rintro e w4 ⟨rfl, hb4⟩; obtain ⟨hc4, hf4⟩ := bcell hb4; have hz4 := hb4.size; have lX4 : X < w4.heap.size := by omega)
          | (refine copy_own rfl _ _ 25 25 rfl 5 Tryz.underlying25 (by kernel_rfl) G (p * 1024 + q) _ _ w2.heap.size 0 64 64 rfl rfl (b + 1) 5 N capo (inosF g ins fo k) (fun _ => 0) (own_below (own_below (own_below HoI.out hb2) hB3) hb4) (by omega) 64 (by show 64 = min 64 (N - (p * 1024 + q)); omega) (RdB.below (fun j hj => by rw [Nat.zero_add, HB.out.cell, bytesL_get _ _ _ hj]) hb4) (by omega) ?_; intro w5 ho5 hm5))
        go_roundw
        case rel => exact ⟨k + 1, by omega, by go_num, by rw [HEQ.out]; exact ho5, (((HmI.out.trans_below hb2 hs).trans_below hB3 (by omega)).trans_below hb4 (by omega)).trans hm5 (fun i _ e => e)⟩
        case measure => simp [intOf]; omega
      | some B =>
        have hins : ins (k + 1) = some (tk (k + 1)) := by rw [HI.out, he]; rfl
        have hrow : inoRow ins (k + 1) = inoF (outI (tk (k + 1))) := by unfold inoRow; rw [hins]
        have heq : inosF g ins fo (k + 1) = putF (inosF g ins fo k) (p * 1024 + q) 64 (inoF (outI (tk (k + 1)))) := by rw [hHp.out, hHq.out, ← hrow]; rfl
        obtain ⟨o1, o2, o3, o4, o5⟩ := HOK.out _ _ hins
        have IN := fun W (hW : TkAt W B (tk (k + 1))) => inode_c X B (tk (k + 1)) W hW o1 o2 o3 o4 o5
        have T := fun W (hW : Mods (fun k => k = G) w W) => ((HK.out W hW).tks _ _ he).1
        have HE := Lib.hid he; have HEQ := Lib.hid heq; have HIN := Lib.hid IN; have HT := Lib.hid T
        clear he hins hrow heq IN T o1 o2 o3 o4 o5
        go_wp2_with (first
          | (go_at_call 40; refine (HIC.out _).mono ?_; rintro e w2 ⟨rfl, hb2⟩; obtain ⟨hc, hf⟩ := bcell hb2; have hz2 := hb2.size; have lX2 : X < w2.heap.size := by omega)
          | (at_make; refine mk_one _ rfl _ _ 25 rfl 5 j0 (.int .u8 0) 1 Tryz.underlying25 hj0 hy0 hy1 hy2 rfl _ _ _ _ 64 rfl rfl rfl rfl (by omega) (by unfold maxLen; omega) ?_; intro w3 hblk hgr; rw [zeros_bytes] at hblk; have HB := Lib.hid hblk; clear hblk; have hB3 := (Below.refl _ _).grown hgr (Nat.le_refl _) (fun k e => by cases e); have hlk := in_look_ok ((HAk.out.below hb2).below hB3).im (show natOk (k + 1) by unfold natOk; omega); rw [HE.out, show (((k + 1 : Nat) : Int)) = (k : Int) + 1 by omega] at hlk; simp only [ptrTo, Option.isSome] at hlk; obtain ⟨hc3, hf3⟩ := bcell hB3; have hz3 := hB3.size; have lX3 : X < w3.heap.size := by omega)
          | (go_at_call 59; refine (HIA.out _).mono ?_; rintro e w4 ⟨rfl, hb4⟩; obtain ⟨hc4, hf4⟩ := bcell hb4; have hz4 := hb4.size; have lX4 : X < w4.heap.size := by omega)
          | (go_at_call 58; refine (HIN.out _ (((HT.out _ (HmI.out)).below hb2).below hB3)).mono ?_; rintro e w6 ⟨D, cap6, rfl, ho6, hb6⟩; obtain ⟨hc6, hf6⟩ := bcell hb6; have hz6 := hb6.size; have lX6 : X < w6.heap.size := by omega)
          | (refine copy_own rfl _ _ 25 25 rfl 5 Tryz.underlying25 (by kernel_rfl) G (p * 1024 + q) _ _ D 0 64 cap6 rfl rfl (b + 1) 5 N capo (inosF g ins fo k) (inoF (outI (tk (k + 1)))) (own_below (own_below (own_below (own_below HoI.out hb2) hB3) hb6) hb4) (by omega) 64 (by show 64 = min 64 (N - (p * 1024 + q)); omega) (RdB.below (by obtain ⟨g9, c9, e9, _, _, _, r9⟩ := own_rd ho6 (by omega); cases e9; exact r9) hb4) (by omega) ?_; intro w5 ho5 hm5))
        go_roundw
        case rel => exact ⟨k + 1, by omega, by go_num, by rw [HEQ.out]; exact ho5, ((((HmI.out.trans_below hb2 hs).trans_below hB3 (by omega)).trans_below hb6 (by omega)).trans_below hb4 (by omega)).trans hm5 (fun i _ e => e)⟩
        case measure => simp [intOf]; omega
    · obtain rfl : k = n := by omega
      go_wp2_with (go_at_call 40; refine (HIC.out _).mono ?_; rintro e w2 ⟨rfl, hb2⟩; obtain ⟨hc, hf⟩ := bcell hb2; have hz2 := hb2.size)
      go_end0
      exact ⟨rfl, own_below HoI.out hb2, HmI.out.trans (Mods.of_below hb2) (fun i hi e => by omega)⟩
end Go.Proofs.YtbeabehebenocaaGreatDoor
end

section
/- mend: what holds between the rounds of a directory's loop. -/
namespace Go.Proofs.YtbeabehebenocaaGreatDoor
open Go.RowKit

theorem stayF_par {g : Geo} {f : Nat → Nat} {ti : Nat} {c : Nat → Bool} {ins : Nat → Option Tk} {nm : ByteArray → Bool} {x : Nat} {s : ByteArray} {r : (Nat → Bool) × (Nat → Option Tk)} {t : Tk} (ht : ins ti = some t) (h : stayF g f ti c ins nm x s = some r) : ∃ t', r.2 ti = some t' ∧ t'.parent = t.parent := by
  unfold stayF at h
  split at h
  · cases h
  · cases hx : ins x with
    | some u =>
      rw [hx] at h
      simp only at h
      split at h
      · cases h
      · cases h
        by_cases e : ti = x
        · subst e; rw [ht] at hx; cases hx
          exact ⟨{ t with links := t.links + 1 }, by simp [updT], rfl⟩
        · exact ⟨t, by simp [updT, e, ht], rfl⟩
    | none =>
      rw [hx] at h
      simp only at h
      split at h
      · cases h
      · cases h
        have e : ti ≠ x := fun e => by subst e; rw [ht] at hx; cases hx
        exact ⟨t, by simp [updT, e, ht], rfl⟩
theorem dirF_par (g : Geo) (f : Nat → Nat) (ti par : Nat) (E0 : Nat → Nat × ByteArray) (D : DS) {t0 : Tk} (h0 : D.ins ti = some t0) : ∀ k t, (dirF g f ti par E0 D k).ins ti = some t → t.parent = t0.parent
  | 0, t, h => by
    have h : D.ins ti = some t := h
    rw [h0] at h; cases h; rfl
  | k + 1, t, h => by
    have ih := dirF_par g f ti par E0 D h0 k
    have hsome : ∃ u, (dirF g f ti par E0 D k).ins ti = some u := dirF_some g f ti par E0 D h0 k
    obtain ⟨u, hu⟩ := hsome
    unfold dirF dirS at h
    split at h
    · exact ih t h
    · split at h
      · exact ih t h
      · rename_i r hr
        obtain ⟨t', h1, h2⟩ := stayF_par hu hr
        have h : r.2 ti = some t := h
        rw [h1] at h; cases h
        rw [h2]; exact ih u hu
where
  dirF_some (g : Geo) (f : Nat → Nat) (ti par : Nat) (E0 : Nat → Nat × ByteArray) (D : DS) {t0 : Tk} (h0 : D.ins ti = some t0) : ∀ k, ∃ u, (dirF g f ti par E0 D k).ins ti = some u
  | 0 => ⟨t0, h0⟩
  | k + 1 => by
    obtain ⟨u, hu⟩ := dirF_some g f ti par E0 D h0 k
    unfold dirF dirS
    split
    · exact ⟨u, hu⟩
    · split
      · exact ⟨u, hu⟩
      · rename_i r hr
        obtain ⟨t', h1, _⟩ := stayF_par hu hr
        exact ⟨t', h1⟩
def okE (e : Nat × ByteArray) : Prop := e.1 < 4294967296 ∧ e.2.size ≤ 1000000 ∧ entOk e.1 e.2 = true
theorem dirF_ok (g : Geo) (f : Nat → Nat) (ti par : Nat) (E0 : Nat → Nat × ByteArray) (D : DS) (ht : 0 < ti ∧ ti < 4294967296) (hp : 0 < par ∧ par < 4294967296) (h0 : ∀ j, j < 32 → okE (D.E j)) : ∀ k j, j < 32 → okE ((dirF g f ti par E0 D k).E j)
  | 0, j, hj => h0 j hj
  | k + 1, j, hj => by
    have ih := dirF_ok g f ti par E0 D ht hp h0 k j hj
    have hdot : okE (ti, ⟨#[46]⟩) := ⟨ht.2, (by decide : (1 : Nat) ≤ 1000000), by
      have : nameOk ⟨#[46]⟩ = true := by decide
      simp [entOk, this]; omega⟩
    have hdd : okE (par, ⟨#[46, 46]⟩) := ⟨hp.2, (by decide : (2 : Nat) ≤ 1000000), by
      have : nameOk ⟨#[46, 46]⟩ = true := by decide
      simp [entOk, this]; omega⟩
    have hz : okE (0, ⟨#[]⟩) := ⟨by decide, by decide, by decide⟩
    unfold dirF dirS
    split
    · show okE (setE _ k _ j)
      unfold setE
      split
      · split
        · exact hdot
        · exact hdd
      · exact ih
    · split
      · show okE (setE _ k _ j)
        unfold setE
        split
        · exact hz
        · exact ih
      · exact ih
/-- what a directory's loop may change -/
def DMods (w : World) (X CB IB : Nat) (k : Nat) : Prop := k = CB ∨ k = IB ∨ (TkB w k ∧ X < k) ∨ w.heap.size ≤ k
structure DI (w : World) (g : Geo) (b o N cap : Nat) (f : Nat → Nat) (X CB IB M : Nat) (way : Value) (ti TB G capo : Nat) (fo : Nat → Nat) (NB AB lb nA : Nat) (at' : Nat → Option Nat) (D : DS) (kn k : Nat) (wr : World) : Prop where
  ms : MS wr g b o N cap f X CB IB (M + 10 * k) (.slice (some ⟨G, 0, none⟩) N capo) way D.c D.ins ti TB
  nm : NameM wr NB kn D.nm
  am : IntM wr AB nA at'
  ro : RowE wr lb D.E
  ow : wr.ownsRow (b + 1) 5 1 (.slice (some ⟨G, 0, none⟩) N capo) N (bytesL fo N)
  md : Mods (DMods w X CB IB) w wr
/-- the blocks lie apart -/
structure DA (w : World) (b X CB IB NB AB lb : Nat) : Prop where
  b : b < w.heap.size
  x : X < w.heap.size
  c : CB < w.heap.size
  i : IB < w.heap.size
  n : w.heap.size ≤ NB
  a : w.heap.size ≤ AB
  l : w.heap.size ≤ lb
  na : NB ≠ AB

section
variable {w : World} {g : Geo} {b o N cap : Nat} {f : Nat → Nat} {X CB IB M : Nat} {way : Value} {ti TB G capo : Nat} {fo : Nat → Nat} {NB AB lb nA : Nat} {at' : Nat → Option Nat} {D : DS} {kn k : Nat} {wr : World}
theorem own_tag {w : World} {base e size n g cap : Nat} {xs : List Value} (h : w.ownsRow base e size (.slice (some ⟨g, 0, none⟩) n cap) n xs) : ∃ ys fr, w.heap[g]? = some (.cells ys e fr) := by
  rcases h.2 with ⟨h, _⟩ | ⟨g', cap', cur, h, _, hg, _⟩
  · cases h
  · cases h; exact ⟨_, _, hg⟩
theorem DI.lt (h : DI w g b o N cap f X CB IB M way ti TB G capo fo NB AB lb nA at' D kn k wr) : w.heap.size ≤ wr.heap.size := h.md.size
/-- the maps of the mender, and what was taken in, may change -/
theorem DI.step (h : DI w g b o N cap f X CB IB M way ti TB G capo fo NB AB lb nA at' D kn k wr) (a : DA w b X CB IB NB AB lb) {w2 : World} {s : Nat → Prop} (hm : Mods s wr w2) (hs : ∀ i, s i → i < wr.heap.size → i = CB ∨ i = IB ∨ (TkB wr i ∧ X < i)) {k2 : Nat} {c2 : Nat → Bool} {i2 : Nat → Option Tk}
    (hms : MS w2 g b o N cap f X CB IB (M + 10 * k2) (.slice (some ⟨G, 0, none⟩) N capo) way c2 i2 ti TB) : DI w g b o N cap f X CB IB M way ti TB G capo fo NB AB lb nA at' { D with c := c2, ins := i2 } kn k2 w2 := by
  obtain ⟨ms, nm, am, ro, ow, md⟩ := h
  have hno : ∀ j, j < wr.heap.size → w.heap.size ≤ j → ¬ TkB wr j → ¬ s j := fun j hj h1 h2 h3 => by
    rcases hs j h3 hj with e | e | e
    · have := a.c; omega
    · have := a.i; omega
    · exact h2 e.1
  refine ⟨hms, (nm.mods hm (hno NB nm.lt a.n (fun ⟨ys, fr, e⟩ => not_map nm e))), am.mods hm (hno AB am.lt a.a (fun ⟨ys, fr, e⟩ => not_map am e)), ro.mods hm (hno lb ro.lt a.l (fun ⟨ys, fr, e⟩ => by
    obtain ⟨xs, hb, _⟩ := ro
    rw [show wr.heap[lb]? = _ from hb] at e
    exact absurd (tag_inj e) (by decide))), own_mods ow hm (fun q hq hsq => ?_), md.trans hm (fun i hi hsi => ?_)⟩
  · have hq2 : G = q := Option.some.inj hq
    subst hq2
    obtain ⟨ys, fr, ht⟩ := own_tag ow
    rcases hs G hsq (Array.getElem?_eq_some_iff.1 ht).1 with e | e | ⟨⟨ys2, fr2, e⟩, _⟩
    · obtain ⟨adr, tk, hA, _⟩ := ms
      subst e; exact not_map hA.cl ht
    · obtain ⟨adr, tk, hA, _⟩ := ms
      subst e; exact not_map hA.im ht
    · rw [ht] at e; exact absurd (tag_inj e) (by decide)
  · rcases hs i hsi (Nat.lt_of_lt_of_le hi md.size) with e | e | ⟨⟨ys, fr, e⟩, hXi⟩
    · exact .inl e
    · exact .inr (.inl e)
    · by_cases hd : DMods w X CB IB i
      · exact hd
      · rw [md.block i hi hd] at e
        exact .inr (.inr (.inl ⟨⟨ys, fr, e⟩, hXi⟩))
theorem DI.below (h : DI w g b o N cap f X CB IB M way ti TB G capo fo NB AB lb nA at' D kn k wr) {w2 : World} (hb : Below wr.heap.size wr w2) : DI w g b o N cap f X CB IB M way ti TB G capo fo NB AB lb nA at' D kn k w2 :=
  ⟨h.ms.below hb, MapG.below h.nm hb h.nm.lt, MapG.below h.am hb h.am.lt, h.ro.mods (Mods.of_below hb) (by have := h.ro.lt; omega), own_below h.ow hb, h.md.trans_below hb h.md.size⟩
/-- blocks of the loop's own may change -/
theorem DI.own (h : DI w g b o N cap f X CB IB M way ti TB G capo fo NB AB lb nA at' D kn k wr) (a : DA w b X CB IB NB AB lb) {w2 : World} {q : Nat} (hm : Mods (fun i => i = q) wr w2) (hq : w.heap.size ≤ q) (hqt : ¬ ∃ ys fr, wr.heap[q]? = some (.cells ys 90 fr) ∨ wr.heap[q]? = some (.cells ys 114 fr)) :
    MS w2 g b o N cap f X CB IB (M + 10 * k) (.slice (some ⟨G, 0, none⟩) N capo) way D.c D.ins ti TB ∧ (q ≠ G → w2.ownsRow (b + 1) 5 1 (.slice (some ⟨G, 0, none⟩) N capo) N (bytesL fo N)) ∧ Mods (DMods w X CB IB) w w2 :=
  ⟨h.ms.keep hm (by have := a.b; omega) (by have := a.x; omega) (by have := a.c; omega) (by have := a.i; omega) (fun j hj _ => by subst hj; exact hqt), fun hqG => own_mods h.ow hm (fun p hp hpq => hqG (by rw [← hpq]; exact (Option.some.inj hp).symm)), h.md.trans hm (fun i hi e => by omega)⟩
/-- an entry is written -/
theorem DI.entry (h : DI w g b o N cap f X CB IB M way ti TB G capo fo NB AB lb nA at' D kn k wr) (a : DA w b X CB IB NB AB lb) (hk : k < 32) (x : Nat) (s : ByteArray) :
    DI w g b o N cap f X CB IB M way ti TB G capo fo NB AB lb nA at' { D with E := setE D.E k (x, s) } kn (k + 1) ((wr.setCell ⟨lb, k * 2, none⟩ (.int .i64 (x : Nat))).setCell ⟨lb, k * 2 + 1, none⟩ (.string s)) := by
  have hm : Mods (fun i => i = lb) wr ((wr.setCell ⟨lb, k * 2, none⟩ (.int .i64 (x : Nat))).setCell ⟨lb, k * 2 + 1, none⟩ (.string s)) := ((Mods.refl (fun i => i = lb) wr).setCell ⟨lb, k * 2, none⟩ (fun _ => rfl) _).setCell ⟨lb, k * 2 + 1, none⟩ (fun _ => rfl) _
  obtain ⟨xs, hbl, hxs⟩ := id h.ro
  have hbl2 : wr.heap[lb]? = _ := hbl
  obtain ⟨m1, m2, m3⟩ := h.own a hm a.l (fun ⟨ys, fr, e⟩ => by
    rcases e with e | e
    · rw [hbl2] at e; exact absurd (tag_inj e) (by decide)
    · rw [hbl2] at e; exact absurd (tag_inj e) (by decide))
  have hlG : lb ≠ G := fun e => by
    obtain ⟨ys, fr, ht⟩ := own_tag h.ow
    rw [← e, hbl2] at ht
    exact absurd (tag_inj ht) (by decide)
  exact ⟨m1.mono (by omega), h.nm.mods hm (fun e => by subst e; exact not_map h.nm hbl2), h.am.mods hm (fun e => by subst e; exact not_map h.am hbl2), h.ro.set k hk x s, m2 hlG, m3⟩
/-- a name is noted -/
theorem DI.named (h : DI w g b o N cap f X CB IB M way ti TB G capo fo NB AB lb nA at' D kn k wr) (a : DA w b X CB IB NB AB lb) {w2 : World} {kn2 : Nat} {nm2 : ByteArray → Bool} (hm : Mods (fun i => i = NB) wr w2) (hn : NameM w2 NB kn2 nm2) :
    DI w g b o N cap f X CB IB M way ti TB G capo fo NB AB lb nA at' { D with nm := nm2 } kn2 k w2 := by
  obtain ⟨m1, m2, m3⟩ := h.own a hm a.n (fun ⟨ys, fr, e⟩ => by rcases e with e | e <;> exact not_map h.nm e)
  have hNG : NB ≠ G := fun e => by
    obtain ⟨ys, fr, ht⟩ := own_tag h.ow
    rw [← e] at ht
    exact not_map h.nm ht
  exact ⟨m1, hn, h.am.mods hm (fun e => a.na e.symm), h.ro.mods hm (fun e => by
    obtain ⟨xs, hbl, _⟩ := h.ro
    subst e; exact not_map h.nm hbl), m2 hNG, m3⟩
end
end Go.Proofs.YtbeabehebenocaaGreatDoor
end

section
/- The entries that are read may be packed. -/
namespace Go.Proofs.YtbeabehebenocaaGreatDoor
open Go.RowKit

theorem entRd_ok (f : Nat → Nat) (hf : ∀ k, f k < 256) : okE (entRd f) := by
  unfold entRd
  cases h : eOk f with
  | true =>
    have h2 := h
    simp only [eOk, Bool.and_eq_true, decide_eq_true_eq] at h2
    obtain ⟨h3, h4, h5⟩ := h2
    have := entOk_size h4
    refine ⟨?_, ?_, h4⟩
    · have := leN_lt f hf 4; exact this
    · show (eName f).size ≤ 1000000
      omega
  | false => exact ⟨(by decide : (0 : Nat) < 4294967296), (by decide : (0 : Nat) ≤ 1000000), (by decide : entOk 0 ⟨#[]⟩ = true)⟩
theorem blkE_ok (f : Nat → Nat) (hf : ∀ k, f k < 256) (k : Nat) : okE (blkE f k) := entRd_ok _ (fun j => hf _)
end Go.Proofs.YtbeabehebenocaaGreatDoor
end

section
/- mend.Repair: what it makes of an image without indirect blocks, of one group, whose root is a directory of one block. -/
namespace Go.Proofs.YtbeabehebenocaaGreatDoor
open Go.RowKit

/-- the first n bits, as p tells, the others 0 -/
def hP (p : Nat → Bool) : Nat → Nat → Nat
  | 0 => fun _ => 0
  | i + 1 => fun k => if k = i / 8 ∧ p i = true then hP p i k + 2 ^ (i % 8) else hP p i k
theorem rowB_hP {f : Nat → Nat} {n : Nat} {p : Nat → Bool} : ∀ k, (∀ i, i < k → getBit f n i = p i) → rowB f n k = hP p k
  | 0, _ => rfl
  | k + 1, h => by
    have ih := rowB_hP k fun i hi => h i (by omega)
    funext j
    simp only [rowB, hP]
    rw [ih, h k (by omega)]
def headP (g : Geo) (p q : Nat → Bool) : Nat → Nat :=
  putF (putF (putF (putF (fun _ => 0) 0 2 (chr ⟨#[67, 71]⟩)) 2 2 (byteN 0)) 16 8 (hP p (16 * g.ino))) 64 ((g.da + 7) / 8) (hP q g.da)
theorem headF_P {g : Geo} {fi fd : Nat → Nat} {p q : Nat → Bool} (h1 : ∀ i, i < 16 * g.ino → getBit fi 8 i = p i) (h2 : ∀ n, n < g.da → getBit fd ((g.da + 7) / 8) n = q n) : headF g 0 fi fd = headP g p q := by
  unfold headF headP
  rw [rowB_hP _ h1, rowB_hP _ h2]

def rootE (f : Nat → Nat) (d : Nat) : Nat → Nat × ByteArray := blkE (fun j => f (d * 1024 + j))
def rootT (g : Geo) (f : Nat → Nat) (d : Nat) : Tk := ⟨1, inoAt g f 1, [⟨0, 0, 0, d⟩], 1, false, 0⟩
def repC (g : Geo) (f : Nat → Nat) : Nat → Bool := (keepR g 1 (fun _ => false) (ptrsI (inoAt g f 1))).2
def repD0 (g : Geo) (f : Nat → Nat) (d : Nat) : DS := ⟨repC g f, updT (fun x => if x = 1 then some (rootT g f d) else none) 1 { rootT g f d with links := 2 }, fun _ => false, rootE f d⟩
def repD (g : Geo) (f : Nat → Nat) (d : Nat) : DS := dirF g f 1 1 (rootE f d) (repD0 g f d) 32
/-- the image that is made -/
def repO (g : Geo) (f : Nat → Nat) (d : Nat) : Nat → Nat :=
  putF (inosF g (repD g f d).ins (putF f (d * 1024) 1024 (pbF (repD g f d).E 32)) g.inodes) 1024 1024 (headP g (fun i => ((repD g f d).ins (i + 1)).isSome) (fun n => (repD g f d).c (g.data n)))
def unlike (f h : Nat → Nat) (n : Nat) : List Nat := (List.range n).filter fun k => !eqB (fun j => f (k * 1024 + j)) (fun j => h (k * 1024 + j)) 1024

theorem hP_lt (p : Nat → Bool) : ∀ i k, hP p i k < 2 ^ min 8 (i - 8 * k)
  | 0, k => by simp [hP]
  | i + 1, k => by
    have ih := hP_lt p i k
    simp only [hP]
    split
    · rename_i h
      have hk : i - 8 * k = i % 8 := by omega
      have hm : i % 8 < 8 := Nat.mod_lt _ (by decide)
      rw [hk, Nat.min_eq_right (by omega)] at ih
      rw [show i + 1 - 8 * k = i % 8 + 1 by omega, Nat.min_eq_right (by omega), Nat.pow_succ]
      omega
    · exact Nat.lt_of_lt_of_le ih (Nat.pow_le_pow_right (by decide) (by omega))
theorem hP_byte (p : Nat → Bool) (i k : Nat) : hP p i k < 256 :=
  Nat.lt_of_lt_of_le (hP_lt p i k) (show 2 ^ min 8 (i - 8 * k) ≤ 2 ^ 8 from Nat.pow_le_pow_right (by decide) (by omega))
theorem headP_lt (g : Geo) (p q : Nat → Bool) : ∀ k, headP g p q k < 256 := putF_lt (putF_lt (putF_lt (putF_lt (fun _ => by decide) (chr_lt _)) (byteN_lt _)) (fun k => hP_byte _ _ k)) (fun k => hP_byte _ _ k)
theorem inosF_lt (g : Geo) (ins : Nat → Option Tk) (fo : Nat → Nat) (h : ∀ k, fo k < 256) : ∀ n k, inosF g ins fo n k < 256
  | 0 => h
  | n + 1 => putF_lt (inosF_lt g ins fo h n) (fun k => by
    unfold inoRow
    cases ins (n + 1) with
    | none => show (0 : Nat) < 256; decide
    | some t => exact inoF_lt _ k)
theorem pbF_byte (E : Nat → Nat × ByteArray) (h : ∀ j, j < 32 → (E j).2.size ≤ 27) : ∀ k, pbF E 32 k < 256 := fun k => by
  unfold pbF
  by_cases hk : k < 32 * 32
  · rw [if_pos hk]; exact entF_lt (h _ (by omega)) _
  · rw [if_neg hk]; decide
theorem dirF_sizes (g : Geo) (f : Nat → Nat) (ti par : Nat) (E0 : Nat → Nat × ByteArray) (D : DS) (h : ∀ j, (D.E j).2.size ≤ 27) : ∀ k j, ((dirF g f ti par E0 D k).E j).2.size ≤ 27
  | 0, j => h j
  | k + 1, j => by
    have ih := dirF_sizes g f ti par E0 D h k
    show ((dirS g f ti par E0 k (dirF g f ti par E0 D k)).E j).2.size ≤ 27
    unfold dirS
    split
    · show (setE _ k _ j).2.size ≤ 27
      unfold setE
      split
      · split
        · show (1 : Nat) ≤ 27; decide
        · show (2 : Nat) ≤ 27; decide
      · exact ih j
    · split
      · show (setE _ k _ j).2.size ≤ 27
        unfold setE
        split
        · show (0 : Nat) ≤ 27; decide
        · exact ih j
      · exact ih j
theorem rootE_size (f : Nat → Nat) (hf : ∀ k, f k < 256) (d j : Nat) : (rootE f d j).2.size ≤ 27 := entOk_size (blkE_ok (fun j => f (d * 1024 + j)) (fun j => hf _) j).2.2
theorem repO_lt (g : Geo) (f : Nat → Nat) (d : Nat) (hf : ∀ k, f k < 256) : ∀ k, repO g f d k < 256 :=
  putF_lt (inosF_lt _ _ _ (putF_lt hf (pbF_byte _ (fun j _ => dirF_sizes g f 1 1 _ _ (rootE_size f hf d) 32 j))) _) (headP_lt _ _ _)

/-- an image that is repaired so -/
structure RepOk (g : Geo) (f : Nat → Nat) (d : Nat) : Prop where
  ok : g.Ok
  one : g.gr = 1
  kind : inoAt g f 1 0 = 2
  size : inoAt g f 1 2 = 1024
  d3 : g.dOk (inoAt g f 1 3) = true
  s1 : g.dOk (inoAt g f 1 11) = false
  s2 : g.dOk (inoAt g f 1 12) = false
  keep : (keepR g 1 (fun _ => false) (ptrsI (inoAt g f 1))).1 = [⟨0, 0, 0, d⟩]
  ent : ∀ j, 2 ≤ j → j < 32 → (rootE f d j).1 = 1 ∨ Plain g f (rootE f d j).1

theorem keepR_claims (g : Geo) (most : Nat) : ∀ (ps : List Ptr) (s : List Ptr × (Nat → Bool)), (∀ x, s.2 x = true → g.dOk x = true) → ∀ x, (ps.foldl (keepS g most) s).2 x = true → g.dOk x = true
  | [], s, h, x, hx => h x hx
  | q :: r, s, h, x, hx => keepR_claims g most r (keepS g most s q) (fun y hy => by
      unfold keepS at hy
      split at hy
      · rename_i hk
        simp only [keepOk, Bool.and_eq_true] at hk
        simp only [Bool.or_eq_true, decide_eq_true_eq] at hy
        rcases hy with hy | rfl
        · exact h y hy
        · exact hk.2.1
      · exact h y hy) x hx
/-- what is kept of an inode without indirect blocks -/
theorem keepR_leaf {g : Geo} {most : Nat} {c : Nat → Bool} {I : InoN} (hg : g.Ok) (h1 : g.dOk (I 11) = false) (h2 : g.dOk (I 12) = false) : (keepR g most c (ptrsI I)).1.length ≤ 10 ∧ ∀ p ∈ (keepR g most c (ptrsI I)).1, p.lv = 0 ∧ p.n < 8 ∧ p.tgt < 4294967296 := by
  refine ⟨?_, fun p hp => ?_⟩
  · have := keepR_length g most (ptrsI I) ([], c)
    have h3 : (ptrsI I).length = 10 := by simp [ptrsI]
    rw [h3] at this
    simpa [keepR] using this
  · obtain ⟨h3, h4⟩ := keepR_sub g most c (ptrsI I) ([], c) (fun p hp => by cases hp) p hp
    rcases h3 with h3 | h3
    · cases h3
    · have ht := (Geo.dOk_iff.1 h4).2.1
      have := hg.total_le
      simp only [ptrsI, List.mem_append, List.mem_map, List.mem_range, List.mem_cons, List.not_mem_nil, or_false] at h3
      rcases h3 with ⟨k, hk, rfl⟩ | rfl | rfl
      · exact ⟨rfl, hk, by show I (3 + k) < _; have h5 : I (3 + k) < g.total := ht; omega⟩
      · rw [show (⟨-1, 1, 8, I 11⟩ : Ptr).tgt = I 11 from rfl, h1] at h4; cases h4
      · rw [show (⟨-1, 2, 264, I 12⟩ : Ptr).tgt = I 12 from rfl, h2] at h4; cases h4
theorem inoAt_kind {g : Geo} {f : Nat → Nat} {x : Nat} (h : inoAt g f x 0 ≠ 0) : inoGood g f x = true ∧ inoAt g f x 0 ≤ 2 := by
  unfold inoAt at h ⊢
  cases hg : inoGood g f x with
  | false => rw [hg] at h; simp [noIno] at h
  | true =>
    refine ⟨rfl, ?_⟩
    simp only [if_true]
    have h2 := hg
    simp only [inoGood, iOk, inoOk, Bool.and_eq_true, decide_eq_true_eq] at h2
    exact h2.2.1.1
theorem inoAt_small {g : Geo} {f : Nat → Nat} (hf : ∀ k, f k < 256) (x k : Nat) : inoAt g f x 2 < 4294967296 := by
  unfold inoAt
  split
  · exact (inoRd_r _ (fun k => hf _)).s
  · simp [noIno]

/-- what holds of all that is taken in -/
structure DsOk (g : Geo) (D : DS) : Prop where
  t : ∀ x t, D.ins x = some t → TkOk t ∧ g.iOk x = true
  c : ∀ p, D.c p = true → g.dOk p = true
theorem dirS_ok {g : Geo} {f : Nat → Nat} (hg : g.Ok) (hf : ∀ k, f k < 256) (ti par : Nat) (E0 : Nat → Nat × ByteArray) (k : Nat) (D : DS) (h : DsOk g D) (hP : 2 ≤ k → D.ins (E0 k).1 = none → Plain g f (E0 k).1) : DsOk g (dirS g f ti par E0 k D) := by
  unfold dirS
  by_cases h2 : k < 2
  · rw [if_pos h2]; exact ⟨h.t, h.c⟩
  · rw [if_neg h2]
    cases hs : stayF g f ti D.c D.ins D.nm (E0 k).1 (E0 k).2 with
    | none => exact ⟨h.t, h.c⟩
    | some r =>
      unfold stayF at hs
      by_cases hb : badN D.nm (E0 k).1 (E0 k).2 = true
      · rw [if_pos hb] at hs; cases hs
      · rw [if_neg hb] at hs
        cases hi : D.ins (E0 k).1 with
        | some t =>
          rw [hi] at hs
          simp only at hs
          by_cases hl : t.i 0 = 2 ∨ 32000 ≤ t.links
          · rw [if_pos hl] at hs; cases hs
          · rw [if_neg hl] at hs
            cases hs
            obtain ⟨h3, h4⟩ := h.t _ _ hi
            refine ⟨fun x t' hx => ?_, h.c⟩
            simp only [updT] at hx
            split at hx
            · rename_i hxe
              cases hx
              refine ⟨⟨h3.len, h3.ps, h3.k, ?_, h3.s⟩, hxe ▸ h4⟩
              show t.links + 1 < 65536
              omega
            · exact h.t x t' hx
        | none =>
          rw [hi] at hs
          simp only at hs
          by_cases h0 : inoAt g f (E0 k).1 0 = 0
          · rw [if_pos h0] at hs; cases hs
          · rw [if_neg h0] at hs
            cases hs
            obtain ⟨p1, p2, p3⟩ := hP (by omega) hi
            obtain ⟨k1, k2⟩ := inoAt_kind h0
            obtain ⟨q1, q2⟩ := keepR_leaf (most := countN (capI (inoAt g f (E0 k).1) 2)) (c := D.c) (I := capI (inoAt g f (E0 k).1)) hg (by simpa [capI] using p2) (by simpa [capI] using p3)
            refine ⟨fun x t' hx => ?_, fun p hp => keepR_claims g _ _ _ h.c p hp⟩
            simp only [updT] at hx
            split at hx
            · rename_i hxe
              cases hx
              refine ⟨⟨Nat.le_trans q1 (by decide), q2, ⟨by simpa [capI] using k2, by simpa [capI] using h0⟩, by show (1 : Nat) < 65536; decide, ?_⟩, ?_⟩
              · have := inoAt_small (g := g) hf (E0 k).1 0
                show capI _ 2 < _
                simp only [capI, if_true]
                omega
              · rw [hxe]
                simp only [inoGood, Bool.and_eq_true] at k1
                exact k1.1
            · exact h.t x t' hx
theorem dirS_keeps (g : Geo) (f : Nat → Nat) (ti par : Nat) (E0 : Nat → Nat × ByteArray) (k : Nat) (D : DS) (x : Nat) (h : D.ins x ≠ none) : (dirS g f ti par E0 k D).ins x ≠ none := by
  unfold dirS
  split
  · exact h
  · split
    · exact h
    · rename_i r hs
      unfold stayF at hs
      split at hs
      · cases hs
      · split at hs
        · split at hs
          · cases hs
          · cases hs; simp only [updT]; split <;> simp [h]
        · split at hs
          · cases hs
          · cases hs; simp only [updT]; split <;> simp [h]
theorem dirF_keeps (g : Geo) (f : Nat → Nat) (ti par : Nat) (E0 : Nat → Nat × ByteArray) (D : DS) (x : Nat) (h : D.ins x ≠ none) : ∀ k, (dirF g f ti par E0 D k).ins x ≠ none
  | 0 => h
  | k + 1 => dirS_keeps g f ti par E0 k _ x (dirF_keeps g f ti par E0 D x h k)
theorem dirF_dsok {g : Geo} {f : Nat → Nat} (hg : g.Ok) (hf : ∀ k, f k < 256) (ti par : Nat) (E0 : Nat → Nat × ByteArray) (D : DS) (h : DsOk g D) (hti : D.ins ti ≠ none) (hP : ∀ j, 2 ≤ j → j < 32 → (E0 j).1 = ti ∨ Plain g f (E0 j).1) : ∀ k, k ≤ 32 → DsOk g (dirF g f ti par E0 D k)
  | 0, _ => h
  | k + 1, hk => dirS_ok hg hf ti par E0 k _ (dirF_dsok hg hf ti par E0 D h hti hP k (by omega)) fun h2 hn => by
    rcases hP k h2 (by omega) with e | hp
    · rw [e] at hn; exact absurd hn (dirF_keeps g f ti par E0 D ti hti k)
    · exact hp
theorem RepOk.ds {g : Geo} {f : Nat → Nat} {d : Nat} (h : RepOk g f d) (hf : ∀ k, f k < 256) : DsOk g (repD g f d) := by
  have h0 : inoAt g f 1 0 ≠ 0 := by rw [h.kind]; decide
  obtain ⟨k1, k2⟩ := inoAt_kind h0
  have hl := keepR_leaf (most := 1) (c := fun _ => false) h.ok h.s1 h.s2
  rw [h.keep] at hl
  refine dirF_dsok h.ok hf 1 1 _ _ ⟨fun x t hx => ?_, fun p hp => keepR_claims g _ _ _ (fun x hx => by cases hx) p hp⟩ (by simp [repD0, updT]) h.ent 32 (Nat.le_refl _)
  simp only [repD0, updT] at hx
  split at hx
  · rename_i hxe
    cases hx
    refine ⟨⟨by show (1 : Nat) ≤ 100000000; decide, hl.2, ⟨k2, h0⟩, by show (2 : Nat) < 65536; decide, ?_⟩, ?_⟩
    · show inoAt g f 1 2 < 4294967296
      rw [h.size]; decide
    · rw [hxe]
      simp only [inoGood, Bool.and_eq_true] at k1
      exact k1.1
  · cases hx
end Go.Proofs.YtbeabehebenocaaGreatDoor
end

section
/- What is read of bytes that are packed inodes and entries. -/
namespace Go.Proofs.YtbeabehebenocaaGreatDoor
open Go.RowKit

theorem leN_byte (x n : Nat) (h : x < 256 ^ n) : leN (byteN x) n = x := by rw [leN_byteN, Nat.mod_eq_of_lt h]
theorem inoK_lo (i : InoN) : ∀ k j, j < 8 → inoK i k j = inoK i 0 j
  | 0, _, _ => rfl
  | k + 1, j, h => by
    show catF (8 + 4 * k) (inoK i k) _ j = _
    unfold catF; rw [if_pos (by omega)]; exact inoK_lo i k j h
theorem inoK_at (i : InoN) : ∀ k a j, a < k → j < 4 → inoK i k (8 + 4 * a + j) = byteN (i (3 + a)) j
  | 0, a, j, h, _ => by omega
  | k + 1, a, j, h, hj => by
    show catF (8 + 4 * k) (inoK i k) (byteN (i (3 + k))) (8 + 4 * a + j) = _
    unfold catF
    by_cases e : a = k
    · subst e; rw [if_neg (by omega), show 8 + 4 * a + j - (8 + 4 * a) = j by omega]
    · rw [if_pos (by omega)]; exact inoK_at i k a j (by omega) hj
theorem inoF_lo (i : InoN) (j : Nat) (h : j < 8) : inoF i j = if j < 2 then byteN (i 0) j else if j < 4 then byteN (i 1) (j - 2) else byteN (i 2) (j - 4) := by
  unfold inoF catF
  rw [if_pos (by omega), inoK_lo i 10 j h]
  show catF 4 (catF 2 (byteN (i 0)) (byteN (i 1))) (byteN (i 2)) j = _
  unfold catF
  by_cases h1 : j < 2
  · rw [if_pos (by omega), if_pos h1, if_pos h1]
  · by_cases h2 : j < 4
    · rw [if_pos h2, if_neg h1, if_neg h1, if_pos h2]
    · rw [if_neg h2, if_neg h1, if_neg h2]
theorem inoF_at (i : InoN) (a j : Nat) (ha : a < 10) (hj : j < 4) : inoF i (8 + 4 * a + j) = byteN (i (3 + a)) j := by
  unfold inoF catF
  rw [if_pos (by omega)]; exact inoK_at i 10 a j ha hj
theorem inoF_congr {i i' : InoN} (h : ∀ j, j < 13 → i j = i' j) : ∀ k, inoF i k = inoF i' k := fun k => by
  by_cases h1 : k < 8
  · rw [inoF_lo _ _ h1, inoF_lo _ _ h1, h 0 (by omega), h 1 (by omega), h 2 (by omega)]
  · by_cases h2 : k < 48
    · obtain ⟨a, j, rfl, ha, hj⟩ : ∃ a j, k = 8 + 4 * a + j ∧ a < 10 ∧ j < 4 := ⟨(k - 8) / 4, (k - 8) % 4, by omega, by omega, by omega⟩
      rw [inoF_at _ _ _ ha hj, inoF_at _ _ _ ha hj, h (3 + a) (by omega)]
    · unfold inoF catF; rw [if_neg h2, if_neg h2]
theorem inoRd_of {f : Nat → Nat} {J : InoN} (hr : InoR J) (h : ∀ k, k < 64 → f k = inoF J k) : ∀ j, j < 13 → inoRd f j = J j := fun j hj => by
  unfold inoRd
  by_cases h0 : j = 0
  · rw [if_pos h0, leN_congr 2 (g := byteN (J 0)) (fun k hk => by rw [h k (by omega), inoF_lo _ _ (by omega), if_pos hk]), leN_byte _ _ (by have := hr.k; omega), h0]
  · rw [if_neg h0]
    by_cases h1 : j = 1
    · rw [if_pos h1, leN_congr 2 (g := byteN (J 1)) (fun k hk => by rw [h _ (by omega), inoF_lo _ _ (by omega), if_neg (by omega), if_pos (by omega), show 2 + k - 2 = k by omega]), leN_byte _ _ (by have := hr.l; omega), h1]
    · rw [if_neg h1]
      by_cases h2 : j = 2
      · rw [if_pos h2, leN_congr 4 (g := byteN (J 2)) (fun k hk => by rw [h _ (by omega), inoF_lo _ _ (by omega), if_neg (by omega), if_neg (by omega), show 4 + k - 4 = k by omega]), leN_byte _ _ (by have := hr.s; omega), h2]
      · rw [if_neg h2, leN_congr 4 (g := byteN (J j)) (fun k hk => by rw [h _ (by omega), inoF_at _ _ _ (by omega) hk, show 3 + (j - 3) = j by omega]), leN_byte _ _ (by have := hr.p j (by omega) hj; omega)]
theorem inoAt_of {g : Geo} {f : Nat → Nat} {x : Nat} {J : InoN} (hx : g.iOk x = true) (hr : InoR J) (ho : inoOk J = true) (h : ∀ k, k < 64 → rawF g f x k = inoF J k) : ∀ j, j < 13 → inoAt g f x j = J j := by
  have h1 := inoRd_of hr h
  have hg : inoGood g f x = true := by
    unfold inoGood iOk
    rw [hx, Bool.true_and, Bool.and_eq_true]
    refine ⟨?_, ?_⟩
    · unfold inoOk allZ at ho ⊢
      rw [h1 0 (by omega)]
      have e : ((List.range 13).all fun k => decide (inoRd (rawF g f x) k = 0)) = (List.range 13).all fun k => decide (J k = 0) := by
        rw [Bool.eq_iff_iff, List.all_eq_true, List.all_eq_true]
        constructor
        · intro q k hk; have := q k hk; rwa [h1 k (by simpa using hk)] at this
        · intro q k hk; have := q k hk; rwa [h1 k (by simpa using hk)]
      rw [e]; exact ho
    · unfold eqB
      rw [decide_eq_true_iff]
      intro k hk
      rw [inoF_congr h1 k, h k hk]
  intro j hj
  unfold inoAt
  rw [if_pos hg]; exact h1 j hj

theorem strOf_chr (s : ByteArray) : strOf (chr s) s.size = s := by
  have hb : bytes8 (chr s) s.size = s.data.toList := by
    apply List.ext_getElem?
    intro k
    unfold bytes8
    by_cases hk : k < s.size
    · have : k < s.data.toList.length := by rw [dlen]; exact hk
      rw [List.getElem?_map, List.getElem?_range hk, List.getElem?_eq_getElem this]
      have h2 : k < s.data.size := hk
      simp [chr, List.getD_eq_getElem?_getD]
      rw [Array.getElem?_eq_getElem h2]; rfl
    · rw [List.getElem?_eq_none (by simp; omega), List.getElem?_eq_none (by rw [dlen]; omega)]
  unfold strOf
  rw [hb]
theorem strOf_congr {f f' : Nat → Nat} {n : Nat} (h : ∀ k, k < n → f k = f' k) : strOf f n = strOf f' n := by
  have : bytes8 f n = bytes8 f' n := by
    unfold bytes8
    exact List.map_congr_left fun k hk => by rw [h k (by simpa using hk)]
  unfold strOf; rw [this]
theorem entF_ino (x : Nat) (s : ByteArray) (k : Nat) (h : k < 4) : entF x s k = byteN x k := by
  unfold entF putF; rw [if_neg (by omega)]; exact if_pos h
theorem entF_len (x : Nat) (s : ByteArray) : entF x s 4 = s.size := by
  unfold entF putF; rw [if_neg (by omega)]; rfl
theorem entF_chr (x : Nat) (s : ByteArray) (k : Nat) (h : k < s.size) : entF x s (5 + k) = chr s k := by
  unfold entF putF; rw [if_pos (by omega), show 5 + k - 5 = k by omega]
theorem entRd_of {f : Nat → Nat} {x : Nat} {s : ByteArray} (hx : x < 4294967296) (ho : entOk x s = true) (h : ∀ k, k < 32 → f k = entF x s k) : entRd f = (x, s) := by
  have hs := entOk_size ho
  have h1 : eIno f = x := by
    unfold eIno
    rw [leN_congr 4 (g := byteN x) (fun k hk => by rw [h k (by omega), entF_ino _ _ _ hk]), leN_byte _ _ (by omega)]
  have h4 : f 4 = s.size := by rw [h 4 (by omega), entF_len]
  have h2 : eName f = s := by
    unfold eName
    rw [h4, strOf_congr (f' := chr s) (fun k hk => by rw [h _ (by omega), entF_chr _ _ _ hk]), strOf_chr]
  have h3 : eOk f = true := by
    unfold eOk
    rw [h1, h2, h4, ho, Bool.true_and, Bool.and_eq_true, decide_eq_true_iff]
    refine ⟨hs, ?_⟩
    unfold eqB
    rw [decide_eq_true_iff]
    intro k hk
    rw [h k hk]
  unfold entRd
  rw [if_pos h3, h1, h2]
theorem entRd_zero {f : Nat → Nat} (h : ∀ k, k < 32 → f k = 0) : entRd f = (0, ⟨#[]⟩) :=
  entRd_of (by decide) (by decide) fun k hk => by rw [h k hk]; exact (ent_zero _ (by decide) k).symm
end Go.Proofs.YtbeabehebenocaaGreatDoor
end

section
/- What Repair makes of an image that is like a Tree. -/
namespace Go.Proofs.YtbeabehebenocaaGreatDoor
open Go.RowKit

def rootT2 (g : Geo) (h : Nat → Nat) : Tk := { rootT g h 3 with links := 2 }
def fileT (g : Geo) (h : Nat → Nat) (x : Nat) : Tk := ⟨x, capI (inoAt g h x), [⟨0, 0, 0, x + 2⟩], 1, false, 1⟩
def insN (g : Geo) (h : Nat → Nat) (n x : Nat) : Option Tk := if x = 1 then some (rootT2 g h) else if 2 ≤ x ∧ x < n + 2 then some (fileT g h x) else none
def cN (n x : Nat) : Bool := decide (x = 3) || decide (4 ≤ x ∧ x < 4 + n)
def nmN (n : Nat) (s : ByteArray) : Bool := (List.range n).any fun i => decide (s = nameN i)
def entN (n j : Nat) : Nat × ByteArray := if j = 0 then (1, ⟨#[46]⟩) else if j = 1 then (1, ⟨#[46, 46]⟩) else if j < n + 2 then (j, nameN (j - 2)) else (0, ⟨#[]⟩)
/-- an entry that does not stay -/
def Gone (g : Geo) (h : Nat → Nat) (n : Nat) (e : Nat × ByteArray) : Prop := stayF g h 1 (cN n) (insN g h n) (nmN n) e.1 e.2 = none ∧ (e.1 = 1 ∨ Plain g h e.1)
/-- where Repair looks the image is like a Tree -/
structure Like (m n : Nat) (h : Nat → Nat) : Prop where
  byte : ∀ k, h k < 256
  sup : ∀ k, k < 1024 → h k = superF (geo1 m) k
  r0 : inoAt (geo1 m) h 1 0 = 2
  r2 : inoAt (geo1 m) h 1 2 = 1024
  r3 : inoAt (geo1 m) h 1 3 = 3
  r4 : ∀ j, 4 ≤ j → j < 13 → inoAt (geo1 m) h 1 j = 0
  f0 : ∀ k, k < n → inoAt (geo1 m) h (k + 2) 0 = 1
  f2 : ∀ k, k < n → inoAt (geo1 m) h (k + 2) 2 = 10
  f3 : ∀ k, k < n → inoAt (geo1 m) h (k + 2) 3 = 4 + k
  f4 : ∀ k, k < n → ∀ j, 4 ≤ j → j < 13 → inoAt (geo1 m) h (k + 2) j = 0
  ent : ∀ k, k < n → rootE h 3 (k + 2) = (k + 2, nameN k)
  rest : ∀ j, n + 2 ≤ j → j < 32 → Gone (geo1 m) h n (rootE h 3 j)

theorem nameN_inj : ∀ i j : Fin 10, nameN i.val = nameN j.val → i = j := by decide +kernel
theorem nmN_new {k : Nat} (h : k < 10) : nmN k (nameN k) = false := by
  unfold nmN
  rw [List.any_eq_false]
  intro i hi
  have hi : i < k := by simpa using hi
  simp only [decide_eq_true_eq]
  intro e
  have := nameN_inj ⟨k, h⟩ ⟨i, by omega⟩ e
  simp at this; omega
theorem nmN_succ (k : Nat) : nmN (k + 1) = fun s => nmN k s || decide (s = nameN k) := by
  funext s
  unfold nmN
  rw [List.range_succ, List.any_append]
  simp
theorem cN_succ (k : Nat) : cN (k + 1) = fun x => cN k x || decide (x = 4 + k) := by
  funext x
  unfold cN
  rw [Bool.eq_iff_iff]
  simp only [Bool.or_eq_true, decide_eq_true_eq]
  omega
theorem insN_succ (g : Geo) (h : Nat → Nat) (k : Nat) : insN g h (k + 1) = updT (insN g h k) (k + 2) (fileT g h (k + 2)) := by
  funext x
  unfold insN updT
  dsimp only
  by_cases h1 : x = 1
  · rw [if_pos h1, if_neg (by omega), if_pos h1]
  · rw [if_neg h1, if_neg h1]
    by_cases h2 : x = k + 2
    · rw [if_pos (by omega), if_pos h2, h2]
    · rw [if_neg h2]
      by_cases h3 : 2 ≤ x ∧ x < k + 2
      · rw [if_pos (by omega), if_pos h3]
      · rw [if_neg (by omega), if_neg h3]
theorem dOk_one {m p : Nat} (h1 : 3 ≤ p) (h2 : p < 3 + m) : (geo1 m).dOk p = true := by
  rw [Geo.dOk_iff]
  have e1 : (geo1 m).total = 1 + 1 * (1 + 1 + m) := rfl
  have e2 : (geo1 m).span = 1 + 1 + m := rfl
  have e3 : (geo1 m).ino = 1 := rfl
  rw [e1, e2, e3, Nat.mod_eq_of_lt (by omega)]
  omega
theorem keep_first {g : Geo} {c : Nat → Bool} {I : InoN} (h1 : g.dOk (I 3) = true) (h2 : c (I 3) = false) : keepR g 1 c (ptrsI I) = ([⟨0, 0, 0, I 3⟩], fun x => c x || decide (x = I 3)) := by
  have e : ptrsI I = [⟨0, 0, 0, I 3⟩, ⟨0, 1, 1, I 4⟩, ⟨0, 2, 2, I 5⟩, ⟨0, 3, 3, I 6⟩, ⟨0, 4, 4, I 7⟩, ⟨0, 5, 5, I 8⟩, ⟨0, 6, 6, I 9⟩, ⟨0, 7, 7, I 10⟩, ⟨-1, 1, 8, I 11⟩, ⟨-1, 2, 264, I 12⟩] := rfl
  rw [e]
  simp [keepR, keepS, keepOk, h1, h2]
theorem nameN_ne (k : Nat) : (nameN k).toList ≠ [46] ∧ (nameN k).toList ≠ [46, 46] := by
  have e : (nameN k).toList = [102, UInt8.ofNat (48 + k)] := by
    rw [ByteArray.toList_eq]; rfl
  rw [e]
  constructor
  · intro h; cases h
  · intro h; injection h with h1 h2; cases h1

section
variable {m n : Nat} {h : Nat → Nat}
theorem Like.step (L : Like m n h) (hn : n ≤ 9) (hm : n < m) (E : Nat → Nat × ByteArray) (k : Nat) (hk : k < n) :
    dirS (geo1 m) h 1 1 (rootE h 3) (k + 2) ⟨cN k, insN (geo1 m) h k, nmN k, E⟩ = ⟨cN (k + 1), insN (geo1 m) h (k + 1), nmN (k + 1), E⟩ := by
  have hb : badN (nmN k) (k + 2) (nameN k) = false := by
    unfold badN
    rw [nmN_new (by omega), decide_eq_false (by omega), decide_eq_false (nameN_ne k).1, decide_eq_false (nameN_ne k).2]; rfl
  have hi : insN (geo1 m) h k (k + 2) = none := by unfold insN; rw [if_neg (by omega), if_neg (by omega)]
  have hcap3 : capI (inoAt (geo1 m) h (k + 2)) 3 = 4 + k := by unfold capI; rw [if_neg (by decide)]; exact L.f3 k hk
  have hcap2 : capI (inoAt (geo1 m) h (k + 2)) 2 = 10 := by unfold capI; rw [if_pos rfl, L.f2 k hk]; rfl
  have hkeep := keep_first (g := geo1 m) (c := cN k) (I := capI (inoAt (geo1 m) h (k + 2))) (by rw [hcap3]; exact dOk_one (by omega) (by omega)) (by rw [hcap3]; unfold cN; rw [decide_eq_false (by omega), decide_eq_false (by omega)]; rfl)
  rw [hcap3] at hkeep
  have hs : stayF (geo1 m) h 1 (cN k) (insN (geo1 m) h k) (nmN k) (k + 2) (nameN k) = some (cN (k + 1), insN (geo1 m) h (k + 1)) := by
    unfold stayF
    rw [hb, if_neg (by decide), hi]
    simp only
    rw [if_neg (by rw [L.f0 k hk]; decide), hcap2, show countN 10 = 1 from rfl, hkeep, cN_succ, insN_succ]
    unfold fileT
    rw [show k + 2 + 2 = 4 + k by omega]
  unfold dirS
  rw [if_neg (by omega), L.ent k hk]
  simp only [hs, nmN_succ]
theorem Like.start (L : Like m n h) (hn : n ≤ 9) (hm : n < m) (hm0 : 0 < m) : dirF (geo1 m) h 1 1 (rootE h 3) (repD0 (geo1 m) h 3) 2 = ⟨cN 0, insN (geo1 m) h 0, nmN 0, setE (setE (rootE h 3) 0 (1, ⟨#[46]⟩)) 1 (1, ⟨#[46, 46]⟩)⟩ := by
  have hk := keep_first (g := geo1 m) (c := fun _ => false) (I := inoAt (geo1 m) h 1) (by rw [L.r3]; exact dOk_one (by omega) (by omega)) rfl
  rw [L.r3] at hk
  have e1 : repC (geo1 m) h = cN 0 := by
    unfold repC; rw [hk]
    funext x
    unfold cN
    dsimp only
    rw [Bool.false_or, decide_eq_false (p := 4 ≤ x ∧ x < 4 + 0) (by omega), Bool.or_false]
  have e2 : updT (fun x => if x = 1 then some (rootT (geo1 m) h 3) else none) 1 { rootT (geo1 m) h 3 with links := 2 } = insN (geo1 m) h 0 := by
    funext x
    unfold updT insN
    by_cases hx : x = 1
    · rw [if_pos hx, if_pos hx]; rfl
    · rw [if_neg hx]; dsimp only; rw [if_neg hx, if_neg hx, if_neg (by omega)]
  show dirS (geo1 m) h 1 1 (rootE h 3) 1 (dirS (geo1 m) h 1 1 (rootE h 3) 0 (repD0 (geo1 m) h 3)) = _
  unfold repD0
  rw [e1, e2]
  rfl
theorem Like.files (L : Like m n h) (hn : n ≤ 9) (hm : n < m) : ∀ k, k ≤ n → dirF (geo1 m) h 1 1 (rootE h 3) (repD0 (geo1 m) h 3) (k + 2) = ⟨cN k, insN (geo1 m) h k, nmN k, setE (setE (rootE h 3) 0 (1, ⟨#[46]⟩)) 1 (1, ⟨#[46, 46]⟩)⟩
  | 0, _ => L.start hn hm (by omega)
  | k + 1, hk => by
    show dirS (geo1 m) h 1 1 (rootE h 3) (k + 2) (dirF (geo1 m) h 1 1 (rootE h 3) (repD0 (geo1 m) h 3) (k + 2)) = _
    rw [L.files hn hm k (by omega)]
    exact L.step hn hm _ k (by omega)
theorem Like.gone (L : Like m n h) (hn : n ≤ 9) (hm : n < m) : ∀ q, n + 2 + q ≤ 32 → ∃ E, dirF (geo1 m) h 1 1 (rootE h 3) (repD0 (geo1 m) h 3) (n + 2 + q) = ⟨cN n, insN (geo1 m) h n, nmN n, E⟩ ∧ ∀ j, j < n + 2 + q → E j = entN n j
  | 0, _ => ⟨_, L.files hn hm n (Nat.le_refl _), fun j hj => by
    unfold entN setE
    by_cases h0 : j = 0
    · rw [if_neg (by omega), if_pos h0, if_pos h0]
    · by_cases h1 : j = 1
      · rw [if_pos h1, if_neg h0, if_pos h1]
      · rw [if_neg h1, if_neg h0, if_neg h0, if_neg h1, if_pos (by omega)]
        have := L.ent (j - 2) (by omega)
        rw [show j - 2 + 2 = j by omega] at this
        exact this⟩
  | q + 1, hq => by
    obtain ⟨E, hE, hj⟩ := L.gone hn hm q (by omega)
    refine ⟨setE E (n + 2 + q) (0, ⟨#[]⟩), ?_, fun j hjq => ?_⟩
    · show dirS (geo1 m) h 1 1 (rootE h 3) (n + 2 + q) (dirF (geo1 m) h 1 1 (rootE h 3) (repD0 (geo1 m) h 3) (n + 2 + q)) = _
      rw [hE]
      unfold dirS
      rw [if_neg (by omega)]
      simp only [(L.rest (n + 2 + q) (by omega) (by omega)).1]
    · by_cases e : j = n + 2 + q
      · unfold setE; rw [if_pos e]
        unfold entN; rw [if_neg (by omega), if_neg (by omega), if_neg (by omega)]
      · unfold setE; rw [if_neg e]; exact hj j (by omega)
theorem Like.repD (L : Like m n h) (hn : n ≤ 9) (hm : n < m) : ∃ E, repD (geo1 m) h 3 = ⟨cN n, insN (geo1 m) h n, nmN n, E⟩ ∧ ∀ j, j < 32 → E j = entN n j := by
  obtain ⟨E, hE, hj⟩ := L.gone hn hm (30 - n) (by omega)
  rw [show n + 2 + (30 - n) = 32 by omega] at hE hj
  exact ⟨E, hE, hj⟩
theorem Like.ok (L : Like m n h) (hn : n ≤ 9) (hm : n < m) (h8 : 8 ≤ m) (h1000 : m ≤ 1000) : RepOk (geo1 m) h 3 := by
  have hk := keep_first (g := geo1 m) (c := fun _ => false) (I := inoAt (geo1 m) h 1) (by rw [L.r3]; exact dOk_one (by omega) (by omega)) rfl
  rw [L.r3] at hk
  refine ⟨geo1_ok h8 h1000, rfl, L.r0, L.r2, by rw [L.r3]; exact dOk_one (by omega) (by omega), by rw [L.r4 11 (by omega) (by omega)]; rfl, by rw [L.r4 12 (by omega) (by omega)]; rfl, by rw [hk], fun j h2 h3 => ?_⟩
  by_cases hj : j < n + 2
  · have := L.ent (j - 2) (by omega)
    rw [show j - 2 + 2 = j by omega] at this
    rw [this]
    refine .inr ⟨?_, ?_, ?_⟩
    · have := L.f0 (j - 2) (by omega)
      rw [show j - 2 + 2 = j by omega] at this
      rw [this]; decide
    · have := L.f4 (j - 2) (by omega) 11 (by omega) (by omega)
      rw [show j - 2 + 2 = j by omega] at this
      rw [this]; rfl
    · have := L.f4 (j - 2) (by omega) 12 (by omega) (by omega)
      rw [show j - 2 + 2 = j by omega] at this
      rw [this]; rfl
  · exact (L.rest j (by omega) h3).2
end
end Go.Proofs.YtbeabehebenocaaGreatDoor
end

section
/- What Repair makes of an image that is like a Tree is the Tree. -/
namespace Go.Proofs.YtbeabehebenocaaGreatDoor
open Go.RowKit

theorem trS_far (f : Nat → Nat) (k q : Nat) (h1 : q ≠ 1088 + (k + 1) / 8) (h2 : q ≠ 1040 + (k + 1) / 8) : trS f k q = trS2 f k q := by
  unfold trS trS3 stB
  rw [if_neg h1, if_neg h2]
theorem trS_ino (f : Nat → Nat) (k q : Nat) (h1 : 2048 ≤ q) (h2 : q < 4096) (hk : k < 10) : trS f k q = if 3072 + 32 * (k + 2) ≤ q ∧ q < 3072 + 32 * (k + 2) + 32 then entF (k + 2) (nameN k) (q - (3072 + 32 * (k + 2))) else if 2048 + (k + 1) * 64 ≤ q ∧ q < 2048 + (k + 1) * 64 + 64 then inoF (fileI k) (q - (2048 + (k + 1) * 64)) else f q := by
  rw [trS_far _ _ _ (by omega) (by omega)]
  unfold trS2 stB trS1 putF
  rw [if_neg (by omega)]
theorem trF_sup (m : Nat) : ∀ n, n ≤ 10 → ∀ q, q < 1024 → trF m n q = superF (geo1 m) q
  | 0, _, q, h => by
    show mkF m q = _
    unfold mkF putF mkZ mkH catF
    rw [if_neg (by omega), if_neg (by omega), if_pos (by omega), if_pos h]
  | n + 1, hn, q, h => by
    show trS (trF m n) n q = _
    rw [trS_far _ _ _ (by omega) (by omega)]
    unfold trS2 stB trS1 putF
    rw [if_neg (by omega), if_neg (by omega), if_neg (by omega)]
    exact trF_sup m n (by omega) q h
theorem mkF_ino (m q : Nat) (h1 : 2048 ≤ q) (h2 : q < 3072) : mkF m q = if q < 2112 then inoF rootI (q - 2048) else 0 := by
  unfold mkF putF
  rw [if_neg (by omega)]
  by_cases h : q < 2112
  · rw [if_pos (by omega), if_pos h]
  · rw [if_neg (by omega), if_neg h]
    unfold mkZ catF; rw [if_neg (by omega)]
theorem trF_ino (m : Nat) : ∀ n, n ≤ 10 → ∀ q, 2048 ≤ q → q < 3072 → trF m n q = if q < 2112 then inoF rootI (q - 2048) else if (q - 2048) / 64 ≤ n then inoF (fileI ((q - 2048) / 64 - 1)) ((q - 2048) % 64) else 0
  | 0, _, q, h1, h2 => by
    show mkF m q = _
    rw [mkF_ino m q h1 h2]
    by_cases h : q < 2112
    · rw [if_pos h, if_pos h]
    · rw [if_neg h, if_neg h, if_neg (by omega)]
  | n + 1, hn, q, h1, h2 => by
    show trS (trF m n) n q = _
    rw [trS_ino _ _ _ h1 (by omega) (by omega), if_neg (by omega), trF_ino m n (by omega) q h1 h2]
    by_cases h : 2048 + (n + 1) * 64 ≤ q ∧ q < 2048 + (n + 1) * 64 + 64
    · rw [if_pos h, if_neg (by omega), if_pos (by omega)]
      rw [show (q - 2048) / 64 - 1 = n by omega, show (q - 2048) % 64 = q - (2048 + (n + 1) * 64) by omega]
    · rw [if_neg h]
      by_cases h3 : q < 2112
      · rw [if_pos h3, if_pos h3]
      · rw [if_neg h3, if_neg h3]
        by_cases h4 : (q - 2048) / 64 ≤ n
        · rw [if_pos h4, if_pos (by omega)]
        · rw [if_neg h4, if_neg (by omega)]
theorem pb_entN (n q : Nat) (h1 : 3072 ≤ q) (h2 : q < 4096) (E : Nat → Nat × ByteArray) (hE : ∀ j, j < 32 → E j = entN n j) : pbF E 32 (q - 3072) = entF (entN n ((q - 3072) / 32)).1 (entN n ((q - 3072) / 32)).2 ((q - 3072) % 32) := by
  unfold pbF
  rw [if_pos (by omega), hE _ (by omega)]
theorem trF_ent (m : Nat) : ∀ n, n ≤ 10 → ∀ q, 3072 ≤ q → q < 4096 → trF m n q = entF (entN n ((q - 3072) / 32)).1 (entN n ((q - 3072) / 32)).2 ((q - 3072) % 32)
  | 0, _, q, h1, h2 => by
    show mkF m q = _
    unfold mkF putF
    rw [if_pos (by omega)]
    unfold pbF
    by_cases h : q - 3072 < 32 * 2
    · rw [if_pos h]
      have hj : (q - 3072) / 32 < 2 := by omega
      generalize (q - 3072) / 32 = j at hj ⊢
      match j, hj with
      | 0, _ => rfl
      | 1, _ => rfl
    · rw [if_neg h]
      unfold entN
      rw [if_neg (by omega), if_neg (by omega), if_neg (by omega)]
      exact (ent_zero _ rfl _).symm
  | n + 1, hn, q, h1, h2 => by
    show trS (trF m n) n q = _
    rw [trS_ino _ _ _ (by omega) h2 (by omega), if_neg (c := 2048 + (n + 1) * 64 ≤ q ∧ q < 2048 + (n + 1) * 64 + 64) (by omega), trF_ent m n (by omega) q h1 h2]
    by_cases h : 3072 + 32 * (n + 2) ≤ q ∧ q < 3072 + 32 * (n + 2) + 32
    · rw [if_pos h]
      have hj : (q - 3072) / 32 = n + 2 := by omega
      have hm : (q - 3072) % 32 = q - (3072 + 32 * (n + 2)) := by omega
      rw [hj, hm]
      unfold entN
      rw [if_neg (by omega), if_neg (by omega), if_pos (by omega), show n + 2 - 2 = n by omega]
    · rw [if_neg h]
      unfold entN
      have hj : (q - 3072) / 32 ≠ n + 2 := by omega
      by_cases h3 : (q - 3072) / 32 = 0
      · rw [if_pos h3, if_pos h3]
      · rw [if_neg h3, if_neg h3]
        by_cases h4 : (q - 3072) / 32 = 1
        · rw [if_pos h4, if_pos h4]
        · rw [if_neg h4, if_neg h4]
          by_cases h5 : (q - 3072) / 32 < n + 2
          · rw [if_pos h5, if_pos (by omega)]
          · rw [if_neg h5, if_neg (by omega)]
theorem geo1_at (m k : Nat) (hk : k < 16) : (geo1 m).iBlk (k + 1) * 1024 + (geo1 m).iOff (k + 1) = 2048 + 64 * k := by
  have e1 : (geo1 m).iOk (k + 1) = true := by rw [Geo.iOk_iff]; show 1 ≤ k + 1 ∧ k + 1 ≤ 1 * 1 * 16; omega
  have e2 := Geo.one_iGr (g := geo1 m) rfl (k + 1)
  have e3 := (Geo.one_iNo (g := geo1 m) rfl e1).1
  unfold Geo.iBlk Geo.iOff
  rw [if_pos e1, if_pos e1, e2, e3]
  show (1 + 0 * _ + 1 + (k + 1 - 1) / 16) * 1024 + (k + 1 - 1) % 16 * 64 = _
  omega
theorem inosF_at (m : Nat) (ins : Nat → Option Tk) (fo : Nat → Nat) : ∀ k, k ≤ 16 → ∀ q, inosF (geo1 m) ins fo k q = if 2048 ≤ q ∧ q < 2048 + 64 * k then inoRow ins ((q - 2048) / 64 + 1) ((q - 2048) % 64) else fo q
  | 0, _, q => by rw [if_neg (by omega)]; rfl
  | k + 1, hk, q => by
    show putF (inosF (geo1 m) ins fo k) ((geo1 m).iBlk (k + 1) * 1024 + (geo1 m).iOff (k + 1)) 64 (inoRow ins (k + 1)) q = _
    rw [geo1_at m k (by omega)]
    unfold putF
    by_cases h : 2048 + 64 * k ≤ q ∧ q < 2048 + 64 * k + 64
    · rw [if_pos h, if_pos (by omega), show (q - 2048) / 64 + 1 = k + 1 by omega, show (q - 2048) % 64 = q - (2048 + 64 * k) by omega]
    · rw [if_neg h, inosF_at m ins fo k (by omega) q]
      by_cases h2 : 2048 ≤ q ∧ q < 2048 + 64 * k
      · rw [if_pos h2, if_pos (by omega)]
      · rw [if_neg h2, if_neg (by omega)]
theorem head_20 : ∀ n : Fin 10, ∀ k : Fin 1024, headP (geo1 20) (fun i => decide (i < n.val + 1)) (fun i => decide (i < n.val + 1)) k.val = trF 20 n.val (1024 + k.val) := by decide +kernel
theorem head_8 : ∀ k : Fin 1024, headP (geo1 8) (fun i => decide (i < 0 + 1)) (fun i => decide (i < 0 + 1)) k.val = trF 8 0 (1024 + k.val) := by decide +kernel
end Go.Proofs.YtbeabehebenocaaGreatDoor
end

section
/- What Repair makes of an image that is like a Tree: the end. -/
namespace Go.Proofs.YtbeabehebenocaaGreatDoor
open Go.RowKit

theorem atF_one (p x : Nat) : atF [⟨0, 0, 0, p⟩] x = if x = 0 then some p else none := by simp [atF, atS]
section
variable {m n : Nat} {h : Nat → Nat}
theorem Like.outRoot (L : Like m n h) : ∀ j, j < 13 → outI (rootT2 (geo1 m) h) j = rootI j := fun j hj => by
  have e0 : (rootT2 (geo1 m) h).i = inoAt (geo1 m) h 1 := rfl
  have e1 : (rootT2 (geo1 m) h).L = [⟨0, 0, 0, 3⟩] := rfl
  have e2 : (rootT2 (geo1 m) h).links = 2 := rfl
  unfold outI rootI
  rw [e0, e1, e2, L.r0, L.r2, atF_one]
  by_cases h0 : j = 0
  · rw [if_pos h0, if_pos h0]
  · rw [if_neg h0, if_neg h0]
    by_cases h1 : j = 1
    · rw [if_pos h1, if_pos h1]
    · rw [if_neg h1, if_neg h1]
      by_cases h2 : j = 2
      · rw [if_pos h2, if_pos h2]
      · rw [if_neg h2, if_neg h2]
        by_cases h3 : j = 3
        · rw [if_pos (by omega), if_pos (by omega), if_pos h3]; rfl
        · by_cases h4 : j < 11
          · rw [if_pos h4, if_neg (by omega), if_neg h3]; rfl
          · rw [if_neg h4, if_neg h3]
theorem Like.outFile (L : Like m n h) (k : Nat) (hk : k < n) : ∀ j, j < 13 → outI (fileT (geo1 m) h (k + 2)) j = fileI k j := fun j hj => by
  have e0 : (fileT (geo1 m) h (k + 2)).i = capI (inoAt (geo1 m) h (k + 2)) := rfl
  have e1 : (fileT (geo1 m) h (k + 2)).L = [⟨0, 0, 0, k + 2 + 2⟩] := rfl
  have e2 : (fileT (geo1 m) h (k + 2)).links = 1 := rfl
  have c0 : capI (inoAt (geo1 m) h (k + 2)) 0 = 1 := by unfold capI; rw [if_neg (by decide)]; exact L.f0 k hk
  have c2 : capI (inoAt (geo1 m) h (k + 2)) 2 = 10 := by unfold capI; rw [if_pos rfl, L.f2 k hk]; rfl
  unfold outI fileI
  rw [e0, e1, e2, c0, c2, atF_one]
  by_cases h0 : j = 0
  · rw [if_pos h0, if_pos h0]
  · rw [if_neg h0, if_neg h0]
    by_cases h1 : j = 1
    · rw [if_pos h1, if_pos h1]
    · rw [if_neg h1, if_neg h1]
      by_cases h2 : j = 2
      · rw [if_pos h2, if_pos h2]
      · rw [if_neg h2, if_neg h2]
        by_cases h3 : j = 3
        · rw [if_pos (by omega), if_pos (by omega), if_pos h3]; show k + 2 + 2 = 4 + k; omega
        · by_cases h4 : j < 11
          · rw [if_pos h4, if_neg (by omega), if_neg h3]; rfl
          · rw [if_neg h4, if_neg h3]
theorem Like.row (L : Like m n h) (x q : Nat) : inoRow (insN (geo1 m) h n) x q = if x = 1 then inoF rootI q else if 2 ≤ x ∧ x < n + 2 then inoF (fileI (x - 2)) q else 0 := by
  unfold inoRow insN
  by_cases h1 : x = 1
  · rw [if_pos h1, if_pos h1]; exact inoF_congr L.outRoot q
  · rw [if_neg h1, if_neg h1]
    by_cases h2 : 2 ≤ x ∧ x < n + 2
    · rw [if_pos h2, if_pos h2]
      obtain ⟨k, rfl⟩ : ∃ k, x = k + 2 := ⟨x - 2, by omega⟩
      exact inoF_congr (L.outFile k (by omega)) q
    · rw [if_neg h2, if_neg h2]
theorem Like.hi (L : Like m n h) (q : Nat) (hq : 4096 ≤ q) : repO (geo1 m) h 3 q = h q := by
  unfold repO putF
  rw [if_neg (by omega)]
  rw [show (geo1 m).inodes = 16 from rfl, inosF_at m _ _ 16 (by omega) q, if_neg (by omega)]
  rw [if_neg (by omega)]
theorem Like.lo (L : Like m n h) (hn : n ≤ 9) (hm : n < m) (hhd : ∀ k, k < 1024 → headP (geo1 m) (fun i => decide (i < n + 1)) (fun i => decide (i < n + 1)) k = trF m n (1024 + k)) (q : Nat) (hq : q < 4096) : repO (geo1 m) h 3 q = trF m n q := by
  obtain ⟨E, hE, hj⟩ := L.repD hn hm
  unfold repO
  rw [hE]
  dsimp only
  rw [show (geo1 m).inodes = 16 from rfl]
  unfold putF
  by_cases h1 : 1024 ≤ q ∧ q < 1024 + 1024
  · rw [if_pos h1]
    have e1 : headP (geo1 m) (fun i => (insN (geo1 m) h n (i + 1)).isSome) (fun i => cN n ((geo1 m).data i)) = headP (geo1 m) (fun i => decide (i < n + 1)) (fun i => decide (i < n + 1)) := by
      unfold headP
      have a1 : ∀ k, hP (fun i => (insN (geo1 m) h n (i + 1)).isSome) k = hP (fun i => decide (i < n + 1)) k := fun k => by
        congr 1
        funext i
        unfold insN
        by_cases h0 : i + 1 = 1
        · rw [if_pos h0]; simp; omega
        · rw [if_neg h0]
          by_cases h2 : 2 ≤ i + 1 ∧ i + 1 < n + 2
          · rw [if_pos h2]; simp; omega
          · rw [if_neg h2]; simp; omega
      have a2 : hP (fun i => cN n ((geo1 m).data i)) (geo1 m).da = hP (fun i => decide (i < n + 1)) (geo1 m).da := by
        have gen : ∀ k, k ≤ (geo1 m).da → hP (fun i => cN n ((geo1 m).data i)) k = hP (fun i => decide (i < n + 1)) k := by
          intro k
          induction k with
          | zero => intro _; rfl
          | succ k ih =>
            intro hk
            funext j
            simp only [hP]
            rw [ih (by omega)]
            have : cN n ((geo1 m).data k) = decide (k < n + 1) := by
              rw [Geo.one_data (g := geo1 m) (by omega)]
              show cN n (2 + 1 + k) = _
              unfold cN
              rw [Bool.eq_iff_iff]
              simp only [Bool.or_eq_true, decide_eq_true_eq]
              omega
            simp only [this]
        exact gen _ (Nat.le_refl _)
      rw [a1, a2]
    rw [e1, hhd _ (by omega), show 1024 + (q - 1024) = q by omega]
  · rw [if_neg h1, inosF_at m _ _ 16 (by omega) q]
    by_cases h2 : 2048 ≤ q ∧ q < 2048 + 64 * 16
    · rw [if_pos h2, L.row, trF_ino m n (by omega) q (by omega) (by omega)]
      by_cases h3 : q < 2112
      · rw [if_pos (by omega), if_pos h3, show (q - 2048) % 64 = q - 2048 by omega]
      · rw [if_neg (by omega), if_neg h3]
        by_cases h4 : (q - 2048) / 64 ≤ n
        · rw [if_pos (by omega), if_pos h4, show (q - 2048) / 64 + 1 - 2 = (q - 2048) / 64 - 1 by omega]
        · rw [if_neg (by omega), if_neg h4]
    · rw [if_neg h2]
      by_cases h3 : 3072 ≤ q
      · rw [if_pos (by omega), trF_ent m n (by omega) q h3 hq]
        have := pb_entN n q h3 hq E hj
        exact this
      · rw [if_neg (by omega), L.sup q (by omega), trF_sup m n (by omega) q (by omega)]
theorem Like.supOk (L : Like m n h) (h8 : 8 ≤ m) (h1000 : m ≤ 1000) : supG h = geo1 m ∧ supOk h = true := by
  have h0 : ∀ k, k < 20 → superF (geo1 m) k = superK (geo1 m) 3 k := fun k hk => by
    unfold superF putF catF; rw [if_pos (by omega), Nat.sub_zero, if_pos hk]
  have h1 : ∀ a j, a < 3 → j < 4 → superK (geo1 m) 3 (8 + 4 * a + j) = byteN ((geo1 m).fld a) j := fun a j ha hj => by
    show catF (8 + 4 * 2) (catF (8 + 4 * 1) (catF (8 + 4 * 0) markF _) _) _ (8 + 4 * a + j) = _
    unfold catF
    match a, ha with
    | 0, _ => rw [if_pos (by omega), if_pos (by omega), if_neg (by omega), show 8 + 4 * 0 + j - (8 + 4 * 0) = j by omega]
    | 1, _ => rw [if_pos (by omega), if_neg (by omega), show 8 + 4 * 1 + j - (8 + 4 * 1) = j by omega]
    | 2, _ => rw [if_neg (by omega), show 8 + 4 * 2 + j - (8 + 4 * 2) = j by omega]
  have hG : supG h = geo1 m := by
    unfold supG
    rw [leN_congr 4 (g := byteN 1) (fun k hk => by rw [L.sup _ (by omega), h0 _ (by omega)]; exact h1 0 k (by omega) hk),
      leN_congr (f := fun k => h (12 + k)) 4 (g := byteN 1) (fun k hk => by rw [L.sup _ (by omega), h0 _ (by omega)]; exact h1 1 k (by omega) hk),
      leN_congr (f := fun k => h (16 + k)) 4 (g := byteN m) (fun k hk => by rw [L.sup _ (by omega), h0 _ (by omega)]; exact h1 2 k (by omega) hk),
      leN_byte _ _ (by decide), leN_byte _ _ (by omega)]
    rfl
  refine ⟨hG, ?_⟩
  unfold Go.Proofs.YtbeabehebenocaaGreatDoor.supOk
  rw [hG, Geo.okB_iff.2 (geo1_ok h8 h1000), Bool.true_and]
  unfold eqB
  rw [decide_eq_true_iff]
  intro k hk
  rw [L.sup k hk]
theorem Like.ofOk (L : Like m n h) (h8 : 8 ≤ m) (h1000 : m ≤ 1000) : ofOk h ((3 + m) * 1024) = true := by
  obtain ⟨h1, h2⟩ := L.supOk h8 h1000
  unfold Go.Proofs.YtbeabehebenocaaGreatDoor.ofOk
  rw [h1, h2, decide_eq_true (by omega), decide_eq_true (by show (3 + m) * 1024 = (1 + 1 * (1 + 1 + m)) * 1024; omega)]
  rfl
end
end Go.Proofs.YtbeabehebenocaaGreatDoor
end

section
/- The statements' images are like a Tree. -/
namespace Go.Proofs.YtbeabehebenocaaGreatDoor
open Go.RowKit

def withL (J : InoN) (l : Nat) : InoN := fun j => if j = 1 then l else J j
def treeI (x : Nat) : InoN := if x = 0 then rootI else fileI (x - 1)
theorem treeI_r {x : Nat} (h : x ≤ 10) {l : Nat} (hl : l < 65536) : InoR (withL (treeI x) l) := by
  have h0 : InoR (treeI x) := by
    unfold treeI
    split
    · exact rootI_r
    · exact fileI_r (by omega)
  refine ⟨by unfold withL; rw [if_neg (by decide)]; exact h0.k, by unfold withL; rw [if_pos rfl]; exact hl, by unfold withL; rw [if_neg (by decide)]; exact h0.s, fun k h1 h2 => by unfold withL; rw [if_neg (by omega)]; exact h0.p k h1 h2⟩
theorem treeI_ok (x l : Nat) : inoOk (withL (treeI x) l) = true := by
  unfold inoOk withL treeI
  rw [if_neg (by decide)]
  by_cases h : x = 0
  · rw [if_pos h]; rfl
  · rw [if_neg h]; rfl
theorem withL_same (J : InoN) : ∀ k, inoF (withL J (J 1)) k = inoF J k := inoF_congr fun j _ => by
  unfold withL
  by_cases h : j = 1
  · rw [if_pos h, h]
  · rw [if_neg h]
theorem withL_far (J : InoN) (l k : Nat) (h2 : k ≠ 2) (h3 : k ≠ 3) : inoF (withL J l) k = inoF J k := by
  by_cases h8 : k < 8
  · rw [inoF_lo _ _ h8, inoF_lo _ _ h8]
    by_cases h1 : k < 2
    · rw [if_pos h1, if_pos h1]; rfl
    · rw [if_neg h1, if_neg h1, if_neg (by omega), if_neg (by omega)]; rfl
  · by_cases h48 : k < 48
    · obtain ⟨a, j, rfl, ha, hj⟩ : ∃ a j, k = 8 + 4 * a + j ∧ a < 10 ∧ j < 4 := ⟨(k - 8) / 4, (k - 8) % 4, by omega, by omega, by omega⟩
      rw [inoF_at _ _ _ ha hj, inoF_at _ _ _ ha hj]
      unfold withL; rw [if_neg (by omega)]
    · unfold inoF catF; rw [if_neg h48, if_neg h48]
theorem withL_2 (J : InoN) (l : Nat) : inoF (withL J l) 2 = l % 256 ∧ inoF (withL J l) 3 = l / 256 % 256 := by
  rw [inoF_lo _ _ (by decide), inoF_lo _ _ (by decide)]
  refine ⟨?_, ?_⟩
  · show byteN (withL J l 1) 0 = _
    simp [byteN, withL]
  · show byteN (withL J l 1) 1 = _
    simp [byteN, withL]
theorem noIno_at {g : Geo} {h : Nat → Nat} {x : Nat} (hx : g.iOk x = false) : inoAt g h x = noIno := by
  unfold inoAt inoGood; rw [hx, Bool.false_and]; exact if_neg (by decide)
theorem gone_of_bad {g : Geo} {h : Nat → Nat} {n : Nat} {e : Nat × ByteArray} (hb : badN (nmN n) e.1 e.2 = true) (hp : e.1 = 1 ∨ Plain g h e.1) : Gone g h n e := ⟨by unfold stayF; rw [hb]; rfl, hp⟩
theorem plain_noIno {g : Geo} {h : Nat → Nat} {x : Nat} (hx : inoAt g h x = noIno) (h0 : g.dOk 0 = false) : Plain g h x := ⟨by rw [hx]; decide, by rw [hx]; exact h0, by rw [hx]; exact h0⟩
theorem gone_zero (m n : Nat) (h : Nat → Nat) : Gone (geo1 m) h n (0, ⟨#[]⟩) :=
  gone_of_bad rfl (.inr (plain_noIno (noIno_at rfl) rfl))
theorem geo1_ino (m x : Nat) (hx : x < 16) : (geo1 m).iOk (x + 1) = true := by rw [Geo.iOk_iff]; show 1 ≤ x + 1 ∧ x + 1 ≤ 1 * 1 * 16; omega
theorem rawF_at (m x : Nat) (hx : x < 16) (h : Nat → Nat) (k : Nat) : rawF (geo1 m) h (x + 1) k = h (2048 + 64 * x + k) := by
  unfold rawF; rw [geo1_at m x hx]
theorem rootE_at (h : Nat → Nat) (j : Nat) : rootE h 3 j = entRd fun q => h (3072 + 32 * j + q) := by
  unfold rootE blkE
  congr 1
  funext q
  rw [Nat.add_assoc]
theorem like_of {m n : Nat} {h : Nat → Nat} (hn : n ≤ 9) (byte : ∀ k, h k < 256) (sup : ∀ k, k < 1024 → h k = superF (geo1 m) k) (Lk : Nat → Nat) (hL : ∀ x, Lk x < 65536)
    (ino : ∀ x, x ≤ n → ∀ k, k < 64 → h (2048 + 64 * x + k) = inoF (withL (treeI x) (Lk x)) k) (ents : ∀ j, 2 ≤ j → j < n + 2 → ∀ k, k < 32 → h (3072 + 32 * j + k) = entF j (nameN (j - 2)) k)
    (rest : ∀ j, n + 2 ≤ j → j < 32 → Gone (geo1 m) h n (rootE h 3 j)) : Like m n h := by
  have I := fun x (hx : x ≤ n) => inoAt_of (g := geo1 m) (f := h) (x := x + 1) (J := withL (treeI x) (Lk x)) (geo1_ino m x (by omega)) (treeI_r (by omega) (hL x)) (treeI_ok x _) (fun k hk => by rw [rawF_at m x (by omega)]; exact ino x hx k hk)
  have T : ∀ k, treeI (k + 1) = fileI k := fun k => by unfold treeI; rw [if_neg (by omega), Nat.add_sub_cancel]
  refine ⟨byte, sup, I 0 (by omega) 0 (by omega), I 0 (by omega) 2 (by omega), I 0 (by omega) 3 (by omega), fun j h1 h2 => ?_, fun k hk => ?_, fun k hk => ?_, fun k hk => ?_, fun k hk j h1 h2 => ?_, fun k hk => ?_, rest⟩
  · rw [I 0 (by omega) j h2]
    unfold withL treeI rootI
    rw [if_neg (by omega), if_pos rfl, if_neg (by omega), if_neg (by omega), if_neg (by omega), if_neg (by omega)]
  · rw [I (k + 1) (by omega) 0 (by omega), T]; rfl
  · rw [I (k + 1) (by omega) 2 (by omega), T]; rfl
  · rw [I (k + 1) (by omega) 3 (by omega), T]; rfl
  · rw [I (k + 1) (by omega) j h2, T]
    unfold withL fileI
    rw [if_neg (by omega), if_neg (by omega), if_neg (by omega), if_neg (by omega), if_neg (by omega)]
  · rw [rootE_at]
    refine entRd_of (by omega) ?_ fun q hq => ?_
    · have := nameN_ok ⟨k, by omega⟩
      unfold entOk
      rw [decide_eq_true (p := k + 2 ≠ 0) (by omega), this]; simp
    · have := ents (k + 2) (by omega) (by omega) q hq
      rw [show k + 2 - 2 = k by omega] at this
      exact this
/-- the Tree's inodes and entries -/
theorem trF_row (m n : Nat) (hn : n ≤ 9) (x : Nat) (hx : x < 16) (k : Nat) (hk : k < 64) : trF m n (2048 + 64 * x + k) = if x ≤ n then inoF (treeI x) k else 0 := by
  rw [trF_ino m n (by omega) _ (by omega) (by omega)]
  unfold treeI
  by_cases h : x = 0
  · subst h
    rw [if_pos (by omega), if_pos (by omega), if_pos rfl, show 2048 + 64 * 0 + k - 2048 = k by omega]
  · rw [if_neg (by omega), show (2048 + 64 * x + k - 2048) / 64 = x by omega, if_neg h, show (2048 + 64 * x + k - 2048) % 64 = k by omega]
theorem trF_erow (m n : Nat) (hn : n ≤ 9) (j : Nat) (hj : j < 32) (k : Nat) (hk : k < 32) : trF m n (3072 + 32 * j + k) = entF (entN n j).1 (entN n j).2 k := by
  rw [trF_ent m n (by omega) _ (by omega) (by omega), show (3072 + 32 * j + k - 3072) / 32 = j by omega, show (3072 + 32 * j + k - 3072) % 32 = k by omega]
theorem entN_file (n j : Nat) (h1 : 2 ≤ j) (h2 : j < n + 2) : entN n j = (j, nameN (j - 2)) := by
  unfold entN; rw [if_neg (by omega), if_neg (by omega), if_pos h2]
theorem entN_no (n j : Nat) (h1 : n + 2 ≤ j) : entN n j = (0, ⟨#[]⟩) := by
  unfold entN; rw [if_neg (by omega), if_neg (by omega), if_neg (by omega)]
theorem rootE_no {m n : Nat} (hn : n ≤ 9) {h : Nat → Nat} {j : Nat} (h1 : n + 2 ≤ j) (h2 : j < 32) (hh : ∀ k, k < 32 → h (3072 + 32 * j + k) = trF m n (3072 + 32 * j + k)) : rootE h 3 j = (0, ⟨#[]⟩) := by
  rw [rootE_at]
  exact entRd_zero fun k hk => by rw [hh k hk, trF_erow m n hn j h2 k hk, entN_no n j h1]; exact ent_zero _ rfl _
theorem unlike_congr {f h h' : Nat → Nat} {n : Nat} (e : ∀ k, k < n * 1024 → h k = h' k) : unlike f h n = unlike f h' n := by
  unfold unlike
  apply List.filter_congr
  intro k hk
  have hk : k < n := by simpa using hk
  have e1 : eqB (fun j => f (k * 1024 + j)) (fun j => h (k * 1024 + j)) 1024 = eqB (fun j => f (k * 1024 + j)) (fun j => h' (k * 1024 + j)) 1024 := by
    unfold eqB
    rw [Bool.eq_iff_iff, decide_eq_true_iff, decide_eq_true_iff]
    constructor
    · intro q j hj
      have h1 := q j hj
      have h2 := e (k * 1024 + j) (by omega)
      dsimp only at h1 ⊢
      rw [← h2]; exact h1
    · intro q j hj
      have h1 := q j hj
      have h2 := e (k * 1024 + j) (by omega)
      dsimp only at h1 ⊢
      rw [h2]; exact h1
  rw [e1]
/-- the blocks that are unlike, if just those that P tells are -/
theorem unlike_of {f h : Nat → Nat} {n : Nat} (P : Nat → Bool) (e : ∀ k, k < n → P k = false → ∀ j, j < 1024 → f (k * 1024 + j) = h (k * 1024 + j)) (e2 : ∀ k, k < n → P k = true → ∃ j, j < 1024 ∧ f (k * 1024 + j) ≠ h (k * 1024 + j)) : unlike f h n = (List.range n).filter P := by
  unfold unlike
  apply List.filter_congr
  intro k hk
  have hk : k < n := by simpa using hk
  unfold eqB
  cases hp : P k with
  | false => rw [decide_eq_true (e k hk hp)]; rfl
  | true =>
    obtain ⟨j, hj, hne⟩ := e2 k hk hp
    rw [decide_eq_false (fun q => hne (q j hj))]; rfl
end Go.Proofs.YtbeabehebenocaaGreatDoor
end
