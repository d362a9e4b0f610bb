/- Part of the road to RootRow: RIno, RDisk, RInode, RPE0, REnt, REnts, RTk. -/
import Derived.Lib.Hide
import Derived.Test.YtbbgahffcjbloaaGreatRts04
import Derived.Test.YtbbgahffcjbloaaGreatTws01
import Derived.Test.YtbbgahffcjbloaaGreatTws05
import Derived.Test.YtbbgahffcjbloaaGreatTws02
import Derived.Test.YtbbgahffcjbloaaGreatTws08
set_option linter.all false
set_option linter.unusedSimpArgs false
set_option linter.unusedVariables false
set_option linter.unusedSectionVars false
section
/- The reference's inodes, read. -/
namespace Go.Proofs.YtbbgahffcjbloaaGreat
open Go.RowKit

set_option maxRecDepth 100000 in
set_option maxHeartbeats 6000000 in
theorem rrdino_c (B o cap : Nat) (f : Nat → Nat) (hf : ∀ k, f k < 256) (w : World) (h : RdB w B o 64 f) :
    Calls Tryz.prog 65 #[.slice (some ⟨B, o, none⟩) 64 cap] w fun e w' => (iOk f = true → e = .returned (.tuple #[inoV (inoRd f), .bool true])) ∧ (iOk f = false → e = .returned (.tuple #[inoV noIno, .bool false])) ∧ Below w.heap.size w w' := by
  have hBl := lt_of_cell (h 0 (by omega))
  obtain ⟨I, hI⟩ : ∃ I, I = inoRd f := ⟨_, rfl⟩
  have v0 : ∀ W c, RdB W B o 64 f → Calls Tryz.prog 96 #[.slice (some ⟨B, o, none⟩) 64 c, .int .i64 0, .int .i64 2] W fun e w' => e = .returned (.int .i64 (I 0 : Nat)) ∧ W = w' := fun W c h => by
    have := rnum_c B o 64 c 0 2 f W hf h (by omega) (by omega) (by omega); rw [hI]; simpa [inoRd] using this
  have v1 : ∀ W c, RdB W B o 64 f → Calls Tryz.prog 96 #[.slice (some ⟨B, o, none⟩) 64 c, .int .i64 2, .int .i64 2] W fun e w' => e = .returned (.int .i64 (I 1 : Nat)) ∧ W = w' := fun W c h => by
    have := rnum_c B o 64 c 2 2 f W hf h (by omega) (by omega) (by omega); rw [hI]; simpa [inoRd] using this
  have v2 : ∀ W c, RdB W B o 64 f → Calls Tryz.prog 96 #[.slice (some ⟨B, o, none⟩) 64 c, .int .i64 4, .int .i64 4] W fun e w' => e = .returned (.int .i64 (I 2 : Nat)) ∧ W = w' := fun W c h => by
    have := rnum_c B o 64 c 4 4 f W hf h (by omega) (by omega) (by omega); rw [hI]; simpa [inoRd] using this
  have v11 : ∀ W c, RdB W B o 64 f → Calls Tryz.prog 96 #[.slice (some ⟨B, o, none⟩) 64 c, .int .i64 40, .int .i64 4] W fun e w' => e = .returned (.int .i64 (I 11 : Nat)) ∧ W = w' := fun W c h => by
    have := rnum_c B o 64 c 40 4 f W hf h (by omega) (by omega) (by omega); rw [hI]; simpa [inoRd] using this
  have v12 : ∀ W c, RdB W B o 64 f → Calls Tryz.prog 96 #[.slice (some ⟨B, o, none⟩) 64 c, .int .i64 44, .int .i64 4] W fun e w' => e = .returned (.int .i64 (I 12 : Nat)) ∧ W = w' := fun W c h => by
    have := rnum_c B o 64 c 44 4 f W hf h (by omega) (by omega) (by omega); rw [hI]; simpa [inoRd] using this
  have vD : ∀ W c (k : Nat) x, k < 8 → x = (((8 + 4 * k : Nat)) : Int) → RdB W B o 64 f → Calls Tryz.prog 96 #[.slice (some ⟨B, o, none⟩) 64 c, .int .i64 x, .int .i64 4] W fun e w' => e = .returned (.int .i64 (I (3 + k) : Nat)) ∧ W = w' := fun W c k x hk hx h => by
    subst hx
    have := rnum_c B o 64 c (8 + 4 * k) 4 f W hf h (by omega) (by omega) (by omega)
    rw [hI]
    have e : inoRd f (3 + k) = leN (fun j => f (8 + 4 * k + j)) 4 := by
      unfold inoRd; rw [if_neg (by omega), if_neg (by omega), if_neg (by omega)]; rw [show 3 + k - 3 = k by omega]
    rw [e]; exact this
  have CV := fun W (hr : RdB W B o 64 f) => conv_str (P := Tryz.prog) W 25 9 5 B o 64 cap f hf hr Tryz.underlying25 Tryz.underlying5 Tryz.underlying9
  have CP := fun W P pc (hr : RdB W P 0 64 (inoF I)) => conv_str (P := Tryz.prog) W 25 9 5 P 0 64 pc (inoF I) (inoF_lt I) hr Tryz.underlying25 Tryz.underlying5 Tryz.underlying9
  have tq : ((strOf (inoF I) 64).toList == (strOf f 64).toList) = eqB (inoF I) f 64 := by
    rw [str_eq (inoF_lt I) hf]; simp [eqB]
  have hb0 : Below w.heap.size w (w.alloc (.cells #[.int .i64 0, .int .i64 0, .int .i64 0, .int .i64 0, .int .i64 0, .int .i64 0, .int .i64 0, .int .i64 0, .int .i64 0, .int .i64 0, .int .i64 0, .int .i64 0, .int .i64 0] 56)) := (Below.refl _ _).alloc (Nat.le_refl _) _
  have HB0 := Lib.hid hb0; have HCV := Lib.hid CV; have HCP := Lib.hid CP
  have V0 := Lib.hid v0; have V1 := Lib.hid v1; have V2 := Lib.hid v2; have V11 := Lib.hid v11; have V12 := Lib.hid v12; have VD := Lib.hid vD; have HI := Lib.hid hI; have HR := Lib.hid h
  clear v0 v1 v2 v11 v12 vD hI h hb0 CV CP
  go_enter Tryz.func65, Tryz.ntmps65
  go_wp2_with (first
    | (go_at_call 96; with_reducible refine (V0.out _ _ (HR.out.below HB0.out)).mono ?_; rintro e w2 ⟨rfl, rfl⟩)
    | (go_at_call 96; with_reducible refine (V1.out _ _ (HR.out.below HB0.out)).mono ?_; rintro e w2 ⟨rfl, rfl⟩)
    | (go_at_call 96; with_reducible refine (V2.out _ _ (HR.out.below HB0.out)).mono ?_; rintro e w2 ⟨rfl, rfl⟩)
    | (go_at_call 96; with_reducible refine (V11.out _ _ (HR.out.below HB0.out)).mono ?_; rintro e w2 ⟨rfl, rfl⟩)
    | (go_at_call 96; with_reducible refine (V12.out _ _ (HR.out.below HB0.out)).mono ?_; rintro e w2 ⟨rfl, rfl⟩))
  go_loopw [5] (fun i' wr => ∃ k : Nat, k ≤ 8 ∧ i' = .int .i64 k ∧ Blk 56 wr (w.heap.size + 1) (inoL fun j => if 3 + k ≤ j ∧ j < 11 then 0 else I j) ∧ Blk 56 wr w.heap.size (inoL noIno) ∧ Below w.heap.size w wr) (fun i' _ => 8 - (intOf i').toNat)
  case atStart => exact ⟨0, by omega, rfl, Blk.snd _ _, Blk.fst _ _, ((Below.refl _ _).alloc (Nat.le_refl _) _).alloc (by simp) _⟩
  case round =>
    obtain ⟨k, hk, rfl, hI1, hI0, hB⟩ := hrel
    by_cases hlt : k < 8
    · have hck := hI1.cell (3 + k)
      rw [inoL_get _ _ (by omega)] at hck
      have hfk := hI1.frozen (3 + k)
      have hl1 := hI1.lt
      have hRx := HR.out.below hB
      have H1 := Lib.hid hI1; have H0 := Lib.hid hI0; have HRX := Lib.hid hRx
      clear hI1 hI0 hRx
      go_wp2_with (go_at_call 96; refine (VD.out _ _ k _ hlt (by omega) HRX.out).mono ?_; rintro e w2 ⟨rfl, rfl⟩)
      go_roundw
      case rel =>
        refine ⟨k + 1, by omega, by go_num, ?_, H0.out.other _ _ (by simp), hB.setCell (p := ⟨w.heap.size + 1, 3 + k, none⟩) (by simp) _⟩
        have h2 := H1.out.set (3 + k) (.int .i64 (I (3 + k) : Nat))
        rw [inoL_set _ _ _ (by omega)] at h2
        rw [inoL_congr (i := fun j => if 3 + (k + 1) ≤ j ∧ j < 11 then 0 else I j) (j := fun q => if q = 3 + k then I (3 + k) else if 3 + k ≤ q ∧ q < 11 then 0 else I q) fun j _ => by
          show (if 3 + (k + 1) ≤ j ∧ j < 11 then 0 else I j) = if j = 3 + k then I (3 + k) else if 3 + k ≤ j ∧ j < 11 then 0 else I j
          by_cases e1 : j = 3 + k
          · subst e1; rw [if_neg (by omega), if_pos rfl]
          · rw [if_neg e1]
            by_cases e2 : 3 + k ≤ j ∧ j < 11
            · rw [if_pos (by omega), if_pos e2]
            · rw [if_neg (by omega), if_neg e2]]
        exact h2
      case measure => simp [intOf]; omega
    · obtain rfl : k = 8 := by omega
      rw [inoL_congr (j := I) fun j _ => by rw [if_neg (by omega)]] at hI1
      obtain ⟨a0, a1, a2, a3, a4, a5, a6, a7, a8, a9, a10, a11, a12⟩ := cells13 hI1
      obtain ⟨f0, f1, f2, f3, f4, f5, f6, f7, f8, f9, f10, f11, f12⟩ := frozen13 hI0
      obtain ⟨z0, z1, z2, z3, z4, z5, z6, z7, z8, z9, z10, z11, z12⟩ := cells13 hI0
      have hl1 := hI1.lt
      have hRx := HR.out.below hB
      have hlr : w.heap.size < wr.heap.size := by omega
      have HRX := Lib.hid hRx
      clear hRx
      cases hok : inoOk I with
      | false =>
        have hs : iOk f = false := by simp [iOk, ← HI.out, hok]
        have Hs := Lib.hid hs
        have PN := fun W => rpino_no I hok W
        unfold inoV at PN
        have HPN := Lib.hid PN
        clear hs hok PN
        go_wp2_with (go_at_call 22; refine (HPN.out _).mono ?_; rintro e w2 ⟨rfl, hb2⟩; obtain ⟨hc2, hf2⟩ := bcell hb2)
        change bodyPost _ _ _ _ _ (put13 w2 w.heap.size noIno)
        have hk := put13_blk (i := noIno) (hI0.below hb2 hlr)
        have hbz := put13_below w2 noIno (Nat.le_refl w.heap.size)
        generalize put13 w2 w.heap.size noIno = W at hk hbz ⊢
        clear z0 z1 z2 z3 z4 z5 z6 z7 z8 z9 z10 z11 z12 a0 a1 a2 a3 a4 a5 a6 a7 a8 a9 a10 a11 a12 f0 f1 f2 f3 f4 f5 f6 f7 f8 f9 f10 f11 f12
        obtain ⟨y0, y1, y2, y3, y4, y5, y6, y7, y8, y9, y10, y11, y12⟩ := cells13 hk
        refine bodyPost_ret (v := .tuple #[inoV noIno, .bool false]) ?_ rfl ?_
        · simp [results, Tryz.results65, go_sem, y0, y1, y2, y3, y4, y5, y6, y7, y8, y9, y10, y11, y12, inoV]
        · refine ⟨fun h => ?_, fun _ => rfl, (hB.trans (hb2.mono hB.size)).trans hbz⟩
          rw [Hs.out] at h; cases h
      | true =>
        obtain ⟨q, hq⟩ : ∃ q, q = eqB (inoF I) f 64 := ⟨_, rfl⟩
        have hs : iOk f = q := by simp [iOk, ← HI.out, hok, hq]
        rw [← hq] at tq
        have PN := fun W => rpino_g I (HI.out ▸ inoRd_r f hf) hok W
        unfold inoV at PN
        have Hs := Lib.hid hs
        have HPN := Lib.hid PN
        clear hs hok hq PN
        cases q with
        | true =>
          go_wp2_with (go_at_call 22; refine (HPN.out _).mono ?_; rintro e w2 ⟨B2, cap2, rfl, ho2, hb2⟩; obtain ⟨hc2, hf2⟩ := bcell hb2; have cv2 := HCV.out w2 (HRX.out.below hb2); have cp2 := HCP.out w2 B2 cap2 (own_rdB ho2); clear ho2)
          change bodyPost _ _ _ _ _ (put13 w2 w.heap.size I)
          have hk := put13_blk (i := I) (hI0.below hb2 hlr)
          have hbz := put13_below w2 I (Nat.le_refl w.heap.size)
          generalize put13 w2 w.heap.size I = W at hk hbz ⊢
          clear z0 z1 z2 z3 z4 z5 z6 z7 z8 z9 z10 z11 z12 a0 a1 a2 a3 a4 a5 a6 a7 a8 a9 a10 a11 a12 f0 f1 f2 f3 f4 f5 f6 f7 f8 f9 f10 f11 f12
          obtain ⟨y0, y1, y2, y3, y4, y5, y6, y7, y8, y9, y10, y11, y12⟩ := cells13 hk
          refine bodyPost_ret (v := .tuple #[inoV I, .bool true]) ?_ rfl ?_
          · simp [results, Tryz.results65, go_sem, y0, y1, y2, y3, y4, y5, y6, y7, y8, y9, y10, y11, y12, inoV]
          · refine ⟨fun _ => ?_, fun h => ?_, (hB.trans (hb2.mono hB.size)).trans hbz⟩
            · rw [← HI.out]
            · rw [Hs.out] at h; cases h
        | false =>
          go_wp2_with (go_at_call 22; refine (HPN.out _).mono ?_; rintro e w2 ⟨B2, cap2, rfl, ho2, hb2⟩; obtain ⟨hc2, hf2⟩ := bcell hb2; have cv2 := HCV.out w2 (HRX.out.below hb2); have cp2 := HCP.out w2 B2 cap2 (own_rdB ho2); clear ho2)
          change bodyPost _ _ _ _ _ (put13 w2 w.heap.size noIno)
          have hk := put13_blk (i := noIno) (hI0.below hb2 hlr)
          have hbz := put13_below w2 noIno (Nat.le_refl w.heap.size)
          generalize put13 w2 w.heap.size noIno = W at hk hbz ⊢
          clear z0 z1 z2 z3 z4 z5 z6 z7 z8 z9 z10 z11 z12 a0 a1 a2 a3 a4 a5 a6 a7 a8 a9 a10 a11 a12 f0 f1 f2 f3 f4 f5 f6 f7 f8 f9 f10 f11 f12
          obtain ⟨y0, y1, y2, y3, y4, y5, y6, y7, y8, y9, y10, y11, y12⟩ := cells13 hk
          refine bodyPost_ret (v := .tuple #[inoV noIno, .bool false]) ?_ rfl ?_
          · simp [results, Tryz.results65, go_sem, y0, y1, y2, y3, y4, y5, y6, y7, y8, y9, y10, y11, y12, inoV]
          · refine ⟨fun h => ?_, fun _ => rfl, (hB.trans (hb2.mono hB.size)).trans hbz⟩
            rw [Hs.out] at h; cases h
end Go.Proofs.YtbbgahffcjbloaaGreat
end

section
/- The reference's disk in memory. -/
namespace Go.Proofs.YtbbgahffcjbloaaGreat
open Go.RowKit

/-- the disk of the reference: its bytes' slice, its geometry -/
def Dk (g : Geo) (D b o N cap : Nat) (w : World) : Prop := Blk 81 w D [.slice (some ⟨b, o, none⟩) N cap, .int .i64 g.gr, .int .i64 g.ino, .int .i64 g.da]
theorem ddata_c (g : Geo) (hg : g.Ok) (D b o N cap p : Nat) (w : World) (h : Dk g D b o N cap w) :
    Calls Tryz.prog 68 #[.pointer (some ⟨D, 0, none⟩), .int .i64 p] w fun e w' => e = .returned (.bool (g.dOk p)) ∧ Below w.heap.size w w' := by
  have c0 := h.cell 0; have c1 := h.cell 1; have c2 := h.cell 2; have c3 := h.cell 3
  have hl := h.lt
  simp only [List.getElem?_cons_zero, List.getElem?_cons_succ] at c0 c1 c2 c3
  clear h
  go_enter Tryz.func68, Tryz.ntmps68
  go_wp2_with (go_at_call 70; refine (rdataOf_c g hg p _).mono ?_; rintro e w2 ⟨rfl, hb⟩)
  go_ret
  exact ⟨rfl, hb⟩
/-- how many blocks a size takes -/
def cntN (s : Nat) : Nat := if s ≤ 67379200 then (s + 1023) / 1024 else 0
set_option maxRecDepth 10000 in
theorem rcount_of (s : Nat) (hs : s < 4294967296) (w : World) : Calls Tryz.prog 101 #[.int .i64 s] w fun e w' => e = .returned (.int .i64 (cntN s : Nat)) ∧ w = w' := by
  have t0 : decide ((s : Int) < 0) = false := by simp
  by_cases h : s ≤ 67379200
  · have t1 : decide ((67379200 : Int) < (s : Int)) = false := by simp; omega
    go_enter Tryz.func101, Tryz.ntmps101
    go_wp2
    go_ret
    refine ⟨?_, rfl⟩
    unfold cntN
    rw [if_pos h]
    have e1 : ((s : Int) + 1024 - 1) / 1024 = (((s + 1023) / 1024 : Nat) : Int) := by omega
    rw [← e1]
    rfl
  · have t1 : decide ((67379200 : Int) < (s : Int)) = true := by simp; omega
    go_enter Tryz.func101, Tryz.ntmps101
    go_wp2
    go_ret
    exact ⟨by unfold cntN; rw [if_neg h]; rfl, rfl⟩
/-- the reference's repair in memory: where it lies, its disk, its claims -/
def boolsL (c : Nat → Bool) (n : Nat) : List Value := (List.range n).map fun k => Value.bool (c k)
theorem boolsL_get (c : Nat → Bool) (n k : Nat) (h : k < n) : (boolsL c n)[k]? = some (.bool (c k)) := by simp [boolsL, h]
theorem boolsL_set (c : Nat → Bool) (n k : Nat) (b : Bool) (h : k < n) : (boolsL c n).set k (.bool b) = boolsL (fun x => if x = k then b else c x) n := by
  apply List.ext_getElem?
  intro i
  rw [List.getElem?_set]
  by_cases hi : i < n
  · rw [boolsL_get _ _ _ hi, boolsL_get _ _ _ hi]
    by_cases e : k = i
    · subst e; simp [boolsL, h]
    · simp [e, Ne.symm e]
  · have h1 : (boolsL c n)[i]? = none := List.getElem?_eq_none (by simp [boolsL]; omega)
    have h2 : (boolsL (fun x => if x = k then b else c x) n)[i]? = none := List.getElem?_eq_none (by simp [boolsL]; omega)
    rw [h1, h2, if_neg (by omega)]
/-- the block of a repair: its disk D, its claims C, its inodes, its order, zero -/
def Rp (R D C n cc : Nat) (tv ov : Value) (z : Bool) (w : World) : Prop := Blk 69 w R [.pointer (some ⟨D, 0, none⟩), .slice (some ⟨C, 0, none⟩) n cc, tv, ov, .bool z]
theorem dNo_lt {g : Geo} (hg : g.Ok) {p : Nat} (h : g.dOk p = true) : g.dNo p < g.blocks := by
  obtain ⟨h1, h2, h3⟩ := Geo.dOk_iff.1 h
  unfold Geo.dNo
  rw [if_pos h]
  have hs : 0 < g.span := by unfold Geo.span; omega
  have hq : (p - 1) / g.span < g.gr := by
    rw [Nat.div_lt_iff_lt_mul hs]
    unfold Geo.total at h2; omega
  have hr : (p - 1) % g.span < g.span := Nat.mod_lt _ hs
  have hr2 : (p - 1) % g.span - 1 - g.ino < g.da := by unfold Geo.span at hr h3 ⊢; omega
  have hm : ((p - 1) / g.span + 1) * g.da ≤ g.gr * g.da := Nat.mul_le_mul_right _ hq
  rw [Nat.add_mul, Nat.one_mul] at hm
  unfold Geo.blocks
  omega
def keepO (g : Geo) (c : Nat → Bool) (p first s : Nat) : Bool := g.dOk p && (!c (g.dNo p) && decide (first < cntN s))
set_option maxRecDepth 10000 in
set_option maxHeartbeats 1000000 in
theorem rkeep_c (g : Geo) (hg : g.Ok) (R D C cc b o N cap p first s : Nat) (tv ov : Value) (z : Bool) (c : Nat → Bool) (hs : s < 4294967296) (hf : first < 100000) (w : World) (hR : Rp R D C g.blocks cc tv ov z w) (hD : Dk g D b o N cap w) (hC : Blk 4 w C (boolsL c g.blocks)) :
    Calls Tryz.prog 98 #[.pointer (some ⟨R, 0, none⟩), .int .i64 p, .int .i64 first, .int .i64 s] w fun e w' => e = .returned (.bool (keepO g c p first s)) ∧
      Blk 4 w' C (boolsL (fun x => if keepO g c p first s = true ∧ x = g.dNo p then true else c x) g.blocks) ∧ Mods (· = C) w w' := by
  have c0 := hR.cell 0; have c1 := hR.cell 1
  have d1 := hD.cell 1; have d2 := hD.cell 2; have d3 := hD.cell 3
  simp only [List.getElem?_cons_zero, List.getElem?_cons_succ] at c0 c1 d1 d2 d3
  have hlR := hR.lt; have hlD := hD.lt; have hlC := hC.lt
  have hlR' := Lib.hid hR; have HD := Lib.hid hD; have HC := Lib.hid hC
  have DO := fun W => rdataOf_c g hg p W
  have CN := fun W => rcount_of s hs W
  have hsame : keepO g c p first s = false → boolsL (fun x => if keepO g c p first s = true ∧ x = g.dNo p then true else c x) g.blocks = boolsL c g.blocks := fun h => by rw [h]; simp
  have HSA := Lib.hid hsame
  have below_mods : ∀ W, Below w.heap.size w W → Mods (· = C) w W := fun W h => ⟨h.os, h.tape, h.output, h.size, fun k hk _ => h.block k hk⟩
  have HBM := Lib.hid below_mods
  clear hR hD hC hsame below_mods
  cases hd : g.dOk p with
  | false =>
    have hk : keepO g c p first s = false := by simp [keepO, hd]
    have HK := Lib.hid hk
    simp only [hd] at DO
    have HDO := Lib.hid DO; have HCN := Lib.hid CN
    clear DO CN hk hd
    go_enter Tryz.func98, Tryz.ntmps98
    go_wp2_with (go_at_call 70; refine (HDO.out _).mono ?_; rintro e w2 ⟨rfl, hb⟩; have HB := Lib.hid hb; clear hb)
    go_ret
    exact ⟨by rw [HK.out]; rfl, by rw [HSA.out HK.out]; exact HC.out.below HB.out hlC, HBM.out _ HB.out⟩
  | true =>
    have hdl : g.dNo p < g.blocks := dNo_lt hg hd
    have hcd : ∀ W, Below w.heap.size w W → W.cell? ⟨C, g.dNo p, none⟩ = some (.bool (c (g.dNo p))) := fun W hb => by rw [(HC.out.below hb hlC).cell, boolsL_get _ _ _ hdl]
    simp only [hd] at DO
    have HDO := Lib.hid DO; have HCN := Lib.hid CN
    clear DO CN
    cases hc : c (g.dNo p) with
    | true =>
      have hk : keepO g c p first s = false := by simp [keepO, hd, hc]
      simp only [hc] at hcd
      have HK := Lib.hid hk; have HCD := Lib.hid hcd
      clear hk hd hcd
      go_enter Tryz.func98, Tryz.ntmps98
      go_wp2_with (go_at_call 70; refine (HDO.out _).mono ?_; rintro e w2 ⟨rfl, hb⟩; have HB := Lib.hid hb; have r1 := (hlR'.out.below hb hlR).cell 1; have hlC2 := (HC.out.below hb hlC).lt; have hlR2 := (hlR'.out.below hb hlR).lt; have cd := HCD.out _ hb; simp only [List.getElem?_cons_zero, List.getElem?_cons_succ] at r1; clear hb)
      go_ret
      exact ⟨by rw [HK.out]; rfl, by rw [HSA.out HK.out]; exact HC.out.below HB.out hlC, HBM.out _ HB.out⟩
    | false =>
      simp only [hc] at hcd
      have HCD := Lib.hid hcd
      clear hcd
      by_cases hlt : first < cntN s
      · have hk : keepO g c p first s = true := by simp [keepO, hd, hc, hlt]
        have t1 : decide (cntN s ≤ first) = false := by simp; omega
        have t2 : decide ((cntN s : Int) ≤ (first : Int)) = false := by simp; omega
        have HK := Lib.hid hk; have HDL := Lib.hid hdl
        clear hk hd hc hlt
        go_enter Tryz.func98, Tryz.ntmps98
        go_wp2_with (first
          | (go_at_call 70; refine (HDO.out _).mono ?_; rintro e w2 ⟨rfl, hb⟩; have HB := Lib.hid hb; have r1 := (hlR'.out.below hb hlR).cell 1; have HC2 := Lib.hid (HC.out.below hb hlC); have hlC2 := HC2.out.lt; have fd := HC2.out.frozen (g.dNo p); have hlR2 := (hlR'.out.below hb hlR).lt; have cd := HCD.out _ hb; simp only [List.getElem?_cons_zero, List.getElem?_cons_succ] at r1; clear hb)
          | (go_at_call 101; refine (HCN.out _).mono ?_; rintro e w3 ⟨rfl, rfl⟩))
        go_ret
        refine ⟨by rw [HK.out]; rfl, ?_, ?_⟩
        · have h1 := HC2.out.set (g.dNo p) (.bool true)
          rw [boolsL_set _ _ _ _ HDL.out] at h1
          rw [show (fun x => if keepO g c p first s = true ∧ x = g.dNo p then true else c x) = fun x => if x = g.dNo p then true else c x by funext x; simp [HK.out]]
          exact h1
        · exact (HBM.out _ HB.out).setCell _ (fun _ => rfl) _
      · have hk : keepO g c p first s = false := by simp [keepO, hd, hc, hlt]
        have t1 : decide (cntN s ≤ first) = true := by simp; omega
        have t2 : decide ((cntN s : Int) ≤ (first : Int)) = true := by simp; omega
        have HK := Lib.hid hk
        clear hk hd hc hlt
        go_enter Tryz.func98, Tryz.ntmps98
        go_wp2_with (first
          | (go_at_call 70; refine (HDO.out _).mono ?_; rintro e w2 ⟨rfl, hb⟩; have HB := Lib.hid hb; have r1 := (hlR'.out.below hb hlR).cell 1; have HC2 := Lib.hid (HC.out.below hb hlC); have hlC2 := HC2.out.lt; have fd := HC2.out.frozen (g.dNo p); have hlR2 := (hlR'.out.below hb hlR).lt; have cd := HCD.out _ hb; simp only [List.getElem?_cons_zero, List.getElem?_cons_succ] at r1; clear hb)
          | (go_at_call 101; refine (HCN.out _).mono ?_; rintro e w3 ⟨rfl, rfl⟩))
        go_ret
        exact ⟨by rw [HK.out]; rfl, by rw [HSA.out HK.out]; exact HC2.out, HBM.out _ HB.out⟩
set_option maxRecDepth 10000 in
set_option maxHeartbeats 1000000 in
theorem rgive_c (g : Geo) (hg : g.Ok) (R D C cc b o N cap p : Nat) (tv ov : Value) (z : Bool) (c : Nat → Bool) (w : World) (hR : Rp R D C g.blocks cc tv ov z w) (hD : Dk g D b o N cap w) (hC : Blk 4 w C (boolsL c g.blocks)) :
    Calls Tryz.prog 138 #[.pointer (some ⟨R, 0, none⟩), .int .i64 p] w fun e w' => e = .returned (.tuple #[]) ∧
      Blk 4 w' C (boolsL (fun x => if g.dOk p = true ∧ x = g.dNo p then false else c x) g.blocks) ∧ Mods (· = C) w w' := by
  have c0 := hR.cell 0
  have d1 := hD.cell 1; have d2 := hD.cell 2; have d3 := hD.cell 3
  simp only [List.getElem?_cons_zero, List.getElem?_cons_succ] at c0 d1 d2 d3
  have hlR := hR.lt; have hlD := hD.lt; have hlC := hC.lt
  have hlR' := Lib.hid hR; have HC := Lib.hid hC
  have DO := fun W => rdataOf_c g hg p W
  have below_mods : ∀ W, Below w.heap.size w W → Mods (· = C) w W := fun W h => ⟨h.os, h.tape, h.output, h.size, fun k hk _ => h.block k hk⟩
  have HBM := Lib.hid below_mods
  clear hR hD hC below_mods
  cases hd : g.dOk p with
  | false =>
    simp only [hd] at DO
    have HDO := Lib.hid DO
    clear DO hd
    go_enter Tryz.func138, Tryz.ntmps138
    go_wp2_with (go_at_call 70; refine (HDO.out _).mono ?_; rintro e w2 ⟨rfl, hb⟩; have HB := Lib.hid hb; clear hb)
    refine bodyPost_end (results_none rfl _ _ _) rfl ?_
    refine ⟨rfl, ?_, HBM.out _ HB.out⟩
    simp only [Bool.false_eq_true, false_and, if_false]
    exact HC.out.below HB.out hlC
  | true =>
    have hdl := dNo_lt hg hd
    have hcd : ∀ W, Below w.heap.size w W → W.cell? ⟨C, g.dNo p, none⟩ = some (.bool (c (g.dNo p))) := fun W hb => by rw [(HC.out.below hb hlC).cell, boolsL_get _ _ _ hdl]
    simp only [hd] at DO
    have HDO := Lib.hid DO; have HCD := Lib.hid hcd; have HDL := Lib.hid hdl
    clear DO hd hcd
    go_enter Tryz.func138, Tryz.ntmps138
    go_wp2_with (go_at_call 70; refine (HDO.out _).mono ?_; rintro e w2 ⟨rfl, hb⟩; have HB := Lib.hid hb; have r1 := (hlR'.out.below hb hlR).cell 1; have HC2 := Lib.hid (HC.out.below hb hlC); have hlC2 := HC2.out.lt; have fd := HC2.out.frozen (g.dNo p); have hlR2 := (hlR'.out.below hb hlR).lt; have cd := HCD.out _ hb; simp only [List.getElem?_cons_zero, List.getElem?_cons_succ] at r1; clear hb)
    refine bodyPost_end (results_none rfl _ _ _) rfl ?_
    refine ⟨rfl, ?_, (HBM.out _ HB.out).setCell _ (fun _ => rfl) _⟩
    have h1 := HC2.out.set (g.dNo p) (.bool false)
    rw [boolsL_set _ _ _ _ HDL.out] at h1
    simpa using h1
/-- a block's bytes -/
theorem rblock_c (g : Geo) (hg : g.Ok) (D b o N cap n : Nat) (hN : N = g.total * 1024) (hcap : N ≤ cap) (hcb : cap ≤ 9223372036854775807) (hn : n < g.total) (w : World) (h : Dk g D b o N cap w) :
    Calls Tryz.prog 72 #[.pointer (some ⟨D, 0, none⟩), .int .i64 n] w fun e w' => (∃ cp, 1024 ≤ cp ∧ e = .returned (.slice (some ⟨b, o + n * 1024, none⟩) 1024 cp)) ∧ w = w' := by
  have c0 := h.cell 0
  have hl := h.lt
  simp only [List.getElem?_cons_zero] at c0
  have hn2 : n * 1024 + 1024 ≤ N := by omega
  have HN := Lib.hid hN
  clear h hN
  have k1 : (n : Int) * 1024 + 1024 ≤ (cap : Int) := by omega
  have k2 : cap ≠ n * 1024 := by omega
  have k3 : (n : Int) * 1024 ≤ (n : Int) * 1024 + 1024 := by omega
  go_enter Tryz.func72, Tryz.ntmps72
  go_wp2
  go_ret
  have e1 : n * 1024 + 1024 - n * 1024 = 1024 := by omega
  refine ⟨⟨cap - n * 1024, by omega, ?_⟩, rfl⟩
  rw [e1]
  rfl
end Go.Proofs.YtbbgahffcjbloaaGreat
end

section
/- The reference's disk: an inode. -/
namespace Go.Proofs.YtbbgahffcjbloaaGreat
open Go.RowKit

set_option maxRecDepth 100000 in
set_option maxHeartbeats 2000000 in
theorem rinode_c (g : Geo) (D b o N cap i : Nat) (f : Nat → Nat) (w : World) (h : ImgOk g b o N cap f w) (hD : Dk g D b o N cap w) :
    Calls Tryz.prog 32 #[.pointer (some ⟨D, 0, none⟩), .int .i64 i] w fun e w' => e = .returned (.tuple #[inoV (inoAt g f i), .bool (inoGood g f i)]) ∧ Below w.heap.size w w' := by
  have c0 := hD.cell 0; have c1 := hD.cell 1; have c2 := hD.cell 2; have c3 := hD.cell 3
  have hl := hD.lt
  simp only [List.getElem?_cons_zero, List.getElem?_cons_succ] at c0 c1 c2 c3
  have IA := fun W => riat_c g h.ok i W
  have hbl := h.lt
  clear hD
  cases hk : g.iOk i with
  | false =>
    have e1 : inoGood g f i = false := by simp [inoGood, hk]
    have e2 : inoAt g f i = noIno := by simp [inoAt, e1]
    rw [e1, e2]
    simp only [hk] at IA
    have HA := Lib.hid IA
    clear IA hk e1 e2 h
    go_enter Tryz.func32, Tryz.ntmps32
    go_wp2_with (go_at_call 21; refine (HA.out _).mono ?_; rintro e w1 ⟨rfl, hb⟩; obtain ⟨hc, hf⟩ := bcell hb; have hz : w.heap.size < w1.heap.size := by (have := hb.size; simp at this; omega))
    change bodyPost _ _ _ _ _ (put13 w1 w.heap.size noIno)
    have hk0 : Blk 56 (w.alloc (.cells (inoL noIno).toArray 56)) w.heap.size (inoL noIno) := Blk.newL _
    have hk := put13_blk (i := noIno) (hk0.below hb (by simp))
    have hbz := put13_below w1 noIno (Nat.le_refl w.heap.size)
    have hB1 : Below w.heap.size w w1 := ((Below.refl _ _).alloc (Nat.le_refl _) _).trans (hb.mono (by simp))
    generalize put13 w1 w.heap.size noIno = W at hk hbz ⊢
    obtain ⟨y0, y1, y2, y3, y4, y5, y6, y7, y8, y9, y10, y11, y12⟩ := cells13 hk
    refine bodyPost_ret (v := .tuple #[inoV noIno, .bool false]) ?_ rfl ?_
    · simp [results, Tryz.results32, go_sem, y0, y1, y2, y3, y4, y5, y6, y7, y8, y9, y10, y11, y12, inoV]
    · exact ⟨rfl, hB1.trans hbz⟩
  | true =>
    have hraw := iread_raw h hk
    obtain ⟨q1, q2, q3⟩ := g.iBlk_lt h.ok hk
    have hN := h.n; have hnc := h.nc; have hcb := h.capb
    have htp := h.ok.total_pos
    have hin : g.iBlk i * 1024 + g.iOff i + 64 ≤ N := by rw [hN]; omega
    obtain ⟨I, hI⟩ : ∃ I, I = inoAt g f i := ⟨_, rfl⟩
    obtain ⟨z, hz⟩ : ∃ z, z = inoGood g f i := ⟨_, rfl⟩
    have RD : ∀ W c, RdB W b (o + (g.iBlk i * 1024 + g.iOff i)) 64 (rawF g f i) → Calls Tryz.prog 65 #[.slice (some ⟨b, o + (g.iBlk i * 1024 + g.iOff i), none⟩) 64 c] W fun e w' => e = .returned (.tuple #[inoV I, .bool z]) ∧ Below W.heap.size W w' := fun W c hW => by
      refine (rrdino_c b _ c (rawF g f i) (fun k => h.byte _) W hW).mono ?_
      rintro e w' ⟨h1, h2, h3⟩
      refine ⟨?_, h3⟩
      cases ho : iOk (rawF g f i) with
      | true => rw [h1 ho, hI, hz]; simp [inoAt, inoGood, hk, ho]
      | false => rw [h2 ho, hI, hz]; simp [inoAt, inoGood, hk, ho]
    rw [← hI, ← hz]
    rw [Nat.add_assoc] at hraw
    simp only [hk] at IA
    obtain ⟨p, hp⟩ : ∃ p, p = g.iBlk i := ⟨_, rfl⟩
    obtain ⟨r, hr⟩ : ∃ r, r = g.iOff i := ⟨_, rfl⟩
    rw [← hp, ← hr] at hin RD hraw
    simp only [← hp, ← hr] at IA
    have k1 : (p : Int) * 1024 + (r : Int) + 64 ≤ (cap : Int) := by omega
    have k2 : cap ≠ p * 1024 + r := by omega
    have k3 : (p : Int) * 1024 + (r : Int) ≤ (p : Int) * 1024 + (r : Int) + 64 := by omega
    have HR := Lib.hid RD; have HW := Lib.hid hraw; have HA := Lib.hid IA
    clear RD hraw q1 q2 q3 hr hp hI hz hk h hN IA
    unfold inoV at HR ⊢
    go_enter Tryz.func32, Tryz.ntmps32
    go_wp2_with (first
      | (go_at_call 21; refine (HA.out _).mono ?_; rintro e w1 ⟨rfl, hb⟩; obtain ⟨hc, hf⟩ := bcell hb; have hz : w.heap.size < w1.heap.size := by (have := hb.size; simp at this; omega))
      | (go_at_call 65; have e64 : p * 1024 + r + 64 - (p * 1024 + r) = 64 := (by omega); rw [e64]; refine (HR.out _ _ (HW.out.below (((Below.refl _ w).alloc (Nat.le_refl _) _).trans (hb.mono (by simp))))).mono ?_; rintro e w2 ⟨rfl, hb2⟩; obtain ⟨hc2, hf2⟩ := bcell hb2; have hz2 : w.heap.size < w2.heap.size := by (have := hb2.size; omega)))
    change bodyPost _ _ _ _ _ (put13 w2 w.heap.size I)
    have hk0 : Blk 56 (w.alloc (.cells (inoL noIno).toArray 56)) w.heap.size (inoL noIno) := Blk.newL _
    have hk := put13_blk (i := I) ((hk0.below hb (by simp)).below hb2 hz)
    have hB1 : Below w.heap.size w w2 := (((Below.refl _ w).alloc (Nat.le_refl _) _).trans (hb.mono (by simp))).trans (hb2.mono (by omega))
    have hbz := put13_below w2 I (Nat.le_refl w.heap.size)
    generalize put13 w2 w.heap.size I = W at hk hbz ⊢
    clear hk0 hc hf hc2 hf2
    obtain ⟨y0, y1, y2, y3, y4, y5, y6, y7, y8, y9, y10, y11, y12⟩ := cells13 hk
    refine bodyPost_ret (v := .tuple #[inoV I, .bool z]) ?_ rfl ?_
    · simp [results, Tryz.results32, go_sem, y0, y1, y2, y3, y4, y5, y6, y7, y8, y9, y10, y11, y12, inoV]
    · exact ⟨rfl, hB1.trans hbz⟩
end Go.Proofs.YtbbgahffcjbloaaGreat
end

section
/- The reference's empty entry, packed. -/
namespace Go.Proofs.YtbbgahffcjbloaaGreat
open Go.RowKit

set_option maxRecDepth 100000 in
set_option maxHeartbeats 2000000 in
theorem rpent0_c (w : World) :
    Calls Tryz.prog 23 #[.agg #[.int .i64 0, .string ⟨#[]⟩]] w fun e w' => ∃ G cap, e = .returned (.tuple #[.slice (some ⟨G, 0, none⟩) 32 cap, .bool true]) ∧ w'.ownsRow w.heap.size 5 1 (.slice (some ⟨G, 0, none⟩) 32 cap) 32 (bytesL (fun _ => 0) 32) ∧ Below w.heap.size w w' := by
  obtain ⟨ji, hji, hi0, hi1, hi2⟩ := info_parts info8
  have hm : ∀ w : World, (Instr.makeSlice 25 (.int .i64 32) (.int .i64 32)).run Tryz.prog w = .ok (.slice (some ⟨w.heap.size, 0, none⟩) 32 32) (w.alloc (.cells (madeCells (Value.int .u8 0).cells 32) 5)) := fun w => by
    rw [run_make (P := Tryz.prog) w 25 5 ji (.int .u8 0) Tryz.underlying25 hji hi0 .i64 .i64 32 32 (by omega) (by omega) (by rw [hi2]; omega) (by omega), hi1]; rfl
  go_enter Tryz.func23, Tryz.ntmps23
  go_wp2
  go_ret2
  refine ⟨_, _, rfl, ?_, ((Below.refl _ _).alloc (Nat.le_refl _) _).alloc (by simp) _⟩
  have z8 : madeCells #[Value.int .u8 0] 32 = (bytesL (fun _ => 0) 32).toArray := by
    have h0 := madeCells_one (.int .u8 0) rfl 32
    rw [Nat.mul_one, zeros_bytes] at h0
    rw [← h0]; rfl
  rw [z8]
  refine ⟨by rw [bytesL_length], Or.inr ⟨w.heap.size + 1, 32, (bytesL (fun _ => 0) 32).toArray, rfl, by omega, ?_, by omega, by unfold maxLen; omega, by simp [bytesL_length], ?_⟩⟩
  · exact Blk.snd _ _
  · rw [List.take_of_length_le (by simp [bytesL_length])]
end Go.Proofs.YtbbgahffcjbloaaGreat
end

section
/- The reference's entries, read. -/
namespace Go.Proofs.YtbbgahffcjbloaaGreat
open Go.RowKit

set_option maxRecDepth 100000 in
set_option maxHeartbeats 1000000 in
theorem rpent_a (x : Nat) (s : ByteArray) (hx : x < 4294967296) (hs : s.size ≤ 1000000) (w : World) :
    Calls Tryz.prog 23 #[.agg #[.int .i64 x, .string s]] w fun e w' => Below w.heap.size w w' ∧
      (entOk x s = true → ∃ G cap, e = .returned (.tuple #[.slice (some ⟨G, 0, none⟩) 32 cap, .bool true]) ∧ w'.ownsRow w.heap.size 5 1 (.slice (some ⟨G, 0, none⟩) 32 cap) 32 (bytesL (entF x s) 32)) ∧
      (entOk x s = false → e = .returned (.tuple #[.slice none 0 0, .bool false])) := by
  have he := empty_iff s
  by_cases h0 : x = 0
  · subst h0
    by_cases hz : s.size = 0
    · have ho : entOk 0 s = true := by simp [entOk, hz]
      obtain rfl : s = ⟨#[]⟩ := by
        apply ByteArray.ext; apply Array.eq_empty_of_size_eq_zero; exact hz
      refine (rpent0_c w).mono ?_
      rintro e w' ⟨G, cap, rfl, h1, h2⟩
      refine ⟨h2, fun _ => ⟨G, cap, rfl, ?_⟩, fun h => by (rw [ho] at h; cases h)⟩
      rw [bytesL_congr (g := fun _ => 0) (fun k _ => ent_zero _ hz k)]; exact h1
    · rw [decide_eq_false hz] at he
      have ho : entOk 0 s = false := by simp [entOk, hz]
      have Ho := Lib.hid ho
      have NM := Lib.hid (rname_c s hs)
      clear ho hz
      go_enter Tryz.func23, Tryz.ntmps23
      go_wp2_with (go_at_call 44; refine (NM.out _).mono ?_; rintro e w1 ⟨rfl, rfl⟩)
      go_ret2
      exact ⟨(Below.refl _ _).alloc (Nat.le_refl _) _, fun h => by (rw [Ho.out] at h; cases h), fun _ => rfl⟩
  · cases hn : nameOk s with
    | false =>
      have ho : entOk x s = false := by simp [entOk, h0, hn]
      have t0 : (((x : Nat) : Int) == 0) = false := by rw [beq_eq_false_iff_ne]; omega
      have NC := rname_c s hs
      rw [hn] at NC
      have Ho := Lib.hid ho
      have NM := Lib.hid NC
      have FT := Lib.hid (rfits4_c x hx)
      clear ho h0 hn NC he
      go_enter Tryz.func23, Tryz.ntmps23
      go_wp2_with (first
        | (go_at_call 44; refine (NM.out _).mono ?_; rintro e w1 ⟨rfl, rfl⟩)
        | (go_at_call 41; refine (FT.out _).mono ?_; rintro e w1 ⟨rfl, rfl⟩))
      go_ret2
      exact ⟨(Below.refl _ _).alloc (Nat.le_refl _) _, fun h => by (rw [Ho.out] at h; cases h), fun _ => rfl⟩
    | true =>
      have ho : entOk x s = true := by simp [entOk, h0, hn]
      refine (rpent_c x s h0 hx hn w).mono ?_
      rintro e w' ⟨G, cap, rfl, h1, h2⟩
      exact ⟨h2, fun _ => ⟨G, cap, rfl, h1⟩, fun h => by (rw [ho] at h; cases h)⟩

set_option maxRecDepth 100000 in
set_option maxHeartbeats 2000000 in
theorem rrdent_c (B o cap : Nat) (f : Nat → Nat) (hf : ∀ k, f k < 256) (w : World) (h : RdB w B o 32 f) (hcap : 32 ≤ cap) :
    Calls Tryz.prog 123 #[.slice (some ⟨B, o, none⟩) 32 cap] w fun e w' => (eOk f = true → e = .returned (.tuple #[.agg #[.int .i64 (eIno f), .string (eName f)], .bool true])) ∧
      (eOk f = false → e = .returned (.tuple #[.agg #[.int .i64 0, .string ⟨#[]⟩], .bool false])) ∧ Below w.heap.size w w' := by
  have hBl := lt_of_cell (h 0 (by omega))
  have c4 := h 4 (by omega)
  have l4 := hf 4
  have HR := Lib.hid h
  by_cases h27 : f 4 ≤ 27
  · have t1 : decide ((27 : Int) < (f 4 : Int)) = false := by simp; omega
    have n5 : cap ≠ 5 := by omega
    obtain ⟨nm, hnm⟩ : ∃ nm, nm = eName f := ⟨_, rfl⟩
    obtain ⟨n, hn⟩ : ∃ n, n = f 4 := ⟨_, rfl⟩
    rw [← hn] at c4 l4 t1 h27
    have k5 : (5 : Int) + (n : Int) ≤ (cap : Int) := by omega
    have k6 : (5 : Int) ≤ 5 + (n : Int) := by omega
    have k7 : IntKind.i64.wrap (5 + (n : Int)) = 5 + (n : Int) := wrap_in _ (by omega) (by omega)
    have kc : ∀ W, RdB W B o 32 f → (convert 25 9 (.slice (some ⟨B, o + 5, none⟩) ((5 + (n : Int)).toNat - 5) (cap - 5))).run Tryz.prog W = .ok (.string nm) W := fun W hW => by
      rw [show (5 + (n : Int)).toNat - 5 = n by omega, hnm, hn]
      exact conv_str (P := Tryz.prog) W 25 9 5 B (o + 5) (f 4) (cap - 5) _ (fun k => hf (5 + k)) (hW.sub 5 (f 4) (by omega)) Tryz.underlying25 Tryz.underlying5 Tryz.underlying9
    have v0 : ∀ W c, RdB W B o 32 f → Calls Tryz.prog 96 #[.slice (some ⟨B, o, none⟩) 32 c, .int .i64 0, .int .i64 4] W fun e w' => e = .returned (.int .i64 (eIno f : Nat)) ∧ W = w' := fun W c h => by
      have := rnum_c B o 32 c 0 4 f W hf h (by omega) (by omega) (by omega); simpa [eIno] using this
    have CV := fun W (hr : RdB W B o 32 f) => conv_str (P := Tryz.prog) W 25 9 5 B o 32 cap f hf hr Tryz.underlying25 Tryz.underlying5 Tryz.underlying9
    have hino : eIno f < 4294967296 := leN_lt f hf 4
    obtain ⟨x, hx⟩ : ∃ x, x = eIno f := ⟨_, rfl⟩
    rw [← hx] at hino
    simp only [← hx] at v0
    have hnms : nm.size ≤ 1000000 := by rw [hnm]; unfold eName; rw [strOf_size]; omega
    have CP := fun W P pc (hs27 : nm.size ≤ 27) (hr : RdB W P 0 32 (entF x nm)) => conv_str (P := Tryz.prog) W 25 9 5 P 0 32 pc (entF x nm) (entF_lt hs27) hr Tryz.underlying25 Tryz.underlying5 Tryz.underlying9
    have tq : entOk x nm = true → ((strOf (entF x nm) 32).toList == (strOf f 32).toList) = eqB (entF x nm) f 32 := fun ho => by
      rw [str_eq (entF_lt (entOk_size ho)) hf]; simp [eqB]
    have hEO : ∀ a b, entOk x nm = a → (a = true → eqB (entF x nm) f 32 = b) → eOk f = (a && b) := fun a b h1 h2 => by
      have h4 : f 4 ≤ 27 := by omega
      unfold eOk
      rw [← hnm, ← hx, decide_eq_true h4, Bool.true_and, h1]
      cases a with
      | false => rfl
      | true => rw [h2 rfl]
    have PE := fun W => rpent_a x nm hino hnms W
    have HKC := Lib.hid kc; have V0 := Lib.hid v0; have HCV := Lib.hid CV; have HCP := Lib.hid CP; have HEO := Lib.hid hEO; have HPE := Lib.hid PE; have HN := Lib.hid hn; have HNM := Lib.hid hnm; have HX := Lib.hid hx
    clear kc v0 CV CP hEO PE hn hnm hx h hino hnms
    go_enter Tryz.func123, Tryz.ntmps123
    go_upto_region 6 with fail
    go_cut [5] (fun s5 wx => s5 = .pointer (some ⟨w.heap.size + 1, 0, none⟩) ∧ Blk 59 wx (w.heap.size + 1) [.int .i64 x, .string nm] ∧ Blk 59 wx w.heap.size [.int .i64 0, .string ⟨#[]⟩] ∧ Below w.heap.size w wx)
    case first =>
      go_region_held3 (fun w' => (convert 25 9 (.slice (some ⟨B, o + 5, none⟩) ((5 + (n : Int)).toNat - 5) (cap - 5))).run Tryz.prog w' = .ok (.string nm) w' ∧ RdB w' B o 32 f ∧ w.heap.size < w'.heap.size ∧ Below w.heap.size w w')
        (first | (go_split_ands; exact ⟨HKC.out _ (HR.out.below (((Below.refl _ _).alloc (Nat.le_refl _) _).drew)), HR.out.below (((Below.refl _ _).alloc (Nat.le_refl _) _).drew), by simp, ((Below.refl _ _).alloc (Nat.le_refl _) _).drew⟩) | (go_split_ands; exact ⟨HKC.out _ (HR.out.below ((((Below.refl _ _).alloc (Nat.le_refl _) _).alloc (by simp) _).drew)), HR.out.below ((((Below.refl _ _).alloc (Nat.le_refl _) _).alloc (by simp) _).drew), by simp; omega, (((Below.refl _ _).alloc (Nat.le_refl _) _).alloc (by simp) _).drew⟩) | go_keep)
        (first | (go_at_call 96; go_split_ands; ((with_reducible refine (V0.out _ _ (by assumption)).mono ?_)); rintro e w2 ⟨rfl, rfl⟩))
      all_goals
        go_wp2_with fail
        go_meet
        exact ⟨rfl, (Blk.snd _ _).drew, (Blk.fst _ _).drew, (((Below.refl _ _).alloc (Nat.le_refl _) _).alloc (by simp) _).drew⟩
    case rest =>
      obtain ⟨rfl, hG1, hG0, hBx⟩ := hcut
      have a0 := hG1.cell 0; have a1 := hG1.cell 1
      have b0 := hG0.cell 0; have b1 := hG0.cell 1
      have f0 := hG0.frozen 0; have f1 := hG0.frozen 1
      simp only [List.getElem?_cons_zero, List.getElem?_cons_succ] at a0 a1 b0 b1
      have hl1 := hG1.lt
      have hl0 := hG0.lt
      have HRx := Lib.hid (HR.out.below hBx)
      clear n5 c4 l4
      cases hok : entOk x nm with
      | false =>
        have hs := HEO.out false false hok (fun h => by cases h)
        have Hs := Lib.hid hs
        have Hok := Lib.hid hok
        clear hs hok tq
        go_wp2_with (go_at_call 23; refine (HPE.out _).mono ?_; rintro e w2 ⟨hb2, -, he2⟩; obtain rfl := he2 Hok.out; clear he2; obtain ⟨hc2, hf2⟩ := bcell hb2)
        refine bodyPost_ret (v := .tuple #[.agg #[.int .i64 0, .string ⟨#[]⟩], .bool false]) ?_ rfl ?_
        · simp [results, Tryz.results123, go_sem, hc2, hf2, hl0, b0, b1]
        · refine ⟨fun h => ?_, fun h => ?_, below_set2 hBx hb2⟩
          · rw [Hs.out] at h; cases h
          · rfl
      | true =>
        have tq := tq hok
        obtain ⟨q, hq⟩ : ∃ q, q = eqB (entF x nm) f 32 := ⟨_, rfl⟩
        have hs := HEO.out true q hok (fun _ => hq.symm)
        rw [Bool.true_and] at hs
        rw [← hq] at tq
        have Hs := Lib.hid hs
        have Hok := Lib.hid hok
        clear hs hok hq
        cases q with
        | true =>
          go_wp2_with (go_at_call 23; refine (HPE.out _).mono ?_; rintro e w2 ⟨hb2, he2, -⟩; obtain ⟨B2, cap2, rfl, ho2⟩ := he2 Hok.out; clear he2; obtain ⟨hc2, hf2⟩ := bcell hb2; have cv2 := HCV.out w2 (HRx.out.below hb2); have cp2 := HCP.out w2 B2 cap2 (entOk_size Hok.out) (own_rdB ho2); clear ho2)
          refine bodyPost_ret (v := .tuple #[.agg #[.int .i64 x, .string nm], .bool true]) ?_ rfl ?_
          · simp [results, Tryz.results123, go_sem, hc2, hf2, hl0, b0, b1]
          · refine ⟨fun h => ?_, fun h => ?_, below_set2 hBx hb2⟩
            · rw [← HNM.out, ← HX.out]
            · rw [Hs.out] at h; cases h
        | false =>
          go_wp2_with (go_at_call 23; refine (HPE.out _).mono ?_; rintro e w2 ⟨hb2, he2, -⟩; obtain ⟨B2, cap2, rfl, ho2⟩ := he2 Hok.out; clear he2; obtain ⟨hc2, hf2⟩ := bcell hb2; have cv2 := HCV.out w2 (HRx.out.below hb2); have cp2 := HCP.out w2 B2 cap2 (entOk_size Hok.out) (own_rdB ho2); clear ho2)
          refine bodyPost_ret (v := .tuple #[.agg #[.int .i64 0, .string ⟨#[]⟩], .bool false]) ?_ rfl ?_
          · simp [results, Tryz.results123, go_sem, hc2, hf2, hl0, b0, b1]
          · refine ⟨fun h => ?_, fun h => rfl, below_set2 hBx hb2⟩
            rw [Hs.out] at h; cases h
  · have t1 : decide ((27 : Int) < (f 4 : Int)) = true := by simp; omega
    have hs : eOk f = false := by simp [eOk, h27]
    have Hs := Lib.hid hs
    clear hs h
    go_enter Tryz.func123, Tryz.ntmps123
    go_wp2
    refine bodyPost_ret (v := .tuple #[.agg #[.int .i64 0, .string ⟨#[]⟩], .bool false]) ?_ rfl ?_
    · simp [results, Tryz.results123, go_sem]
    · refine ⟨fun h => ?_, fun h => rfl, ?_⟩
      · rw [Hs.out] at h; cases h
      · exact (Below.refl _ _).alloc (Nat.le_refl _) _
end Go.Proofs.YtbbgahffcjbloaaGreat
end

section
/- The reference's entries of a block. -/
namespace Go.Proofs.YtbbgahffcjbloaaGreat
open Go.RowKit

theorem rrdent_r (B o cap : Nat) (f : Nat → Nat) (hf : ∀ k, f k < 256) (w : World) (h : RdB w B o 32 f) (hcap : 32 ≤ cap) :
    Calls Tryz.prog 123 #[.slice (some ⟨B, o, none⟩) 32 cap] w fun e w' => (∃ z, e = .returned (.tuple #[.agg #[.int .i64 (entRd f).1, .string (entRd f).2], .bool z])) ∧ Below w.heap.size w w' := by
  refine (rrdent_c B o cap f hf w h hcap).mono ?_
  rintro e w' ⟨h1, h2, h3⟩
  refine ⟨?_, h3⟩
  cases hk : eOk f with
  | true => exact ⟨true, by rw [h1 hk]; simp [entRd, hk]⟩
  | false => exact ⟨false, by rw [h2 hk]; simp [entRd, hk]⟩
set_option maxRecDepth 100000 in
set_option maxHeartbeats 2000000 in
theorem rents_c (b o cap : Nat) (f : Nat → Nat) (hf : ∀ k, f k < 256) (w : World) (h : RdB w b o 1024 f) (hcap : 1024 ≤ cap) :
    Calls Tryz.prog 99 #[.slice (some ⟨b, o, none⟩) 1024 cap] w fun e w' => ∃ v, e = .returned v ∧ w'.ownsRow w.heap.size 59 2 v 32 (entsL (blkE f) 32) ∧ Below w.heap.size w w' := by
  obtain ⟨i0, hi, hz0, hz1, hz2⟩ := info_parts infoE
  have HR := Lib.hid h
  have hbl := lt_of_cell (h 0 (by omega))
  clear h
  go_enter Tryz.func99, Tryz.ntmps99
  go_wp2
  go_loopw [3, 4] (fun v i' wr => ∃ k : Nat, k ≤ 32 ∧ i' = .int .i64 k ∧ wr.ownsRow w.heap.size 59 2 v k (entsL (blkE f) k) ∧ Below w.heap.size w wr) (fun _ i' _ => 32 - (intOf i').toNat)
  case atStart => exact ⟨0, by omega, rfl, World.ownsRow_nil _ _ _ _, Below.refl _ _⟩
  case round =>
    obtain ⟨k, hk, rfl, ho, hB⟩ := hrel
    by_cases hlt : k < 32
    · have RE := fun W (hW : RdB W b o 1024 f) => rrdent_r b (o + 32 * k) (cap - 32 * k) (fun j => f (32 * k + j)) (fun j => hf _) W (hW.sub (32 * k) 32 (by omega)) (by omega)
      have k1 : 32 * (k : Int) + 32 ≤ (cap : Int) := by omega
      have k2 : cap ≠ 32 * k := by omega
      have k3 : 32 * (k : Int) ≤ 32 * (k : Int) + 32 := by omega
      have e32 : 32 * k + 32 - 32 * k = 32 := by omega
      have HE32 := Lib.hid e32
      have HRE := Lib.hid RE; have HO := Lib.hid ho; have HB := Lib.hid hB; have HRX := Lib.hid (HR.out.below hB)
      have hsz := hB.size
      clear RE ho hB e32
      go_wp2_with (first
        | (go_at_call 123; rw [HE32.out]; refine (HRE.out _ HRX.out).mono ?_; rintro e w1 ⟨⟨z, rfl⟩, hb1⟩; obtain ⟨hc1, hf1⟩ := bcell hb1; have hsz1 := hb1.size; have HB1 := Lib.hid hb1; clear hb1)
        | (at_builtin; refine src_append rfl _ _ 37 rfl w.heap.size 59 i0 (.agg #[.int .i64 0, .string ⟨#[]⟩]) 2 24 Tryz.underlying37 hi hz0 hz1 hz2 rfl (by decide) _ k _ rfl (by exact .inl (((own_below HO.out HB1.out).alloc _).alloc _)) ⟨w1.heap.size + 1, 0, none⟩ 1 1 (cellsE (blkE f k)) rfl rfl (cells_new2 _ _ _ _ _ (by simp)) (by simp [cellsE, Value.oneCell']) (by omega) (by unfold maxLen; omega) (by omega) (by simp; omega) ?_; intro g cap2 w3 ho3 hg3 ha3 hl3; have HO3 := Lib.hid ho3; have HB3 := Lib.hid ((((HB.out.trans (HB1.out.mono hsz)).alloc (by omega) _).alloc (by simp; omega) _).trans (own_below_grown (((own_below HO.out HB1.out).alloc _).alloc _) hg3 (by simp; omega))); clear ho3 hg3 ha3))
      go_roundw
      case rel => exact ⟨k + 1, by omega, by go_num, HO3.out, HB3.out⟩
      case measure => simp [intOf]; omega
    · obtain rfl : k = 32 := by omega
      have HO := Lib.hid ho; have HB := Lib.hid hB
      clear ho hB
      go_wp2
      go_ret
      exact ⟨_, rfl, HO.out, HB.out⟩
end Go.Proofs.YtbbgahffcjbloaaGreat
end

section
/- The reference's repair in memory: the inodes that are taken in, the order, the claims. -/
namespace Go.Proofs.YtbbgahffcjbloaaGreat
open Go.RowKit

/-- whose a block is: of inode x (its struct 0, its blocks 1, its rows' row 2, row b 3 + b); (0, 0): of nobody here -/
abbrev Lab := Nat → Nat × Nat
/-- an inode that was taken in, without indirect blocks -/
structure RT where
  i : InoN
  dir : List (List (Nat × ByteArray))
  up : Nat
  lead : List Nat
def entsV (l : List (Nat × ByteArray)) : List Value := l.flatMap cellsE
def natsV (l : List Nat) : List Value := l.map fun n => Value.int .i64 (n : Nat)
theorem natsV_snoc (l : List Nat) (n : Nat) : natsV (l ++ [n]) = natsV l ++ [.int .i64 (n : Nat)] := by simp [natsV]
theorem entsV_snoc (l : List (Nat × ByteArray)) (e : Nat × ByteArray) : entsV (l ++ [e]) = entsV l ++ [.int .i64 (e.1 : Nat), .string e.2] := by simp [entsV, cellsE]
theorem entsV_length (l : List (Nat × ByteArray)) : (entsV l).length = l.length * 2 := by
  induction l with
  | nil => rfl
  | cons a l ih =>
    have : entsV (a :: l) = cellsE a ++ entsV l := rfl
    rw [this, List.length_append, ih, List.length_cons]
    simp [cellsE]; omega

/-- a row whose block bears a label -/
def LRow (w : World) (lb : Lab) (p : Nat × Nat) (e : TypeId) (size : Nat) (v : Value) (n : Nat) (xs : List Value) : Prop := w.ownsRow 0 e size v n xs ∧ ∀ k, v.ownBlock = some k → lb k = p
/-- the same labels below -/
def Ext (w : World) (lb lb' : Lab) : Prop := ∀ k, k < w.heap.size → lb' k = lb k
theorem Ext.refl (w : World) (lb : Lab) : Ext w lb lb := fun _ _ => rfl
theorem Ext.trans {w w' : World} {a b c : Lab} (h : Ext w a b) (k : Ext w' b c) (hs : w.heap.size ≤ w'.heap.size) : Ext w a c := fun i hi => (k i (by omega)).trans (h i hi)
theorem row_lt {w : World} {base e size n k : Nat} {v : Value} {xs : List Value} (h : w.ownsRow base e size v n xs) (hk : v.ownBlock = some k) : k < w.heap.size := (h.lt k hk).2
theorem LRow.step {w w' : World} {lb lb' : Lab} {p : Nat × Nat} {e : TypeId} {size n : Nat} {v : Value} {xs : List Value} (h : LRow w lb p e size v n xs) {s : Nat → Prop} (hm : Mods s w w') (hx : Ext w lb lb') (hs : ∀ k, s k → k < w.heap.size → lb k ≠ p) : LRow w' lb' p e size v n xs :=
  ⟨own_mods h.1 hm fun g hg hsg => hs g hsg (row_lt h.1 hg) (h.2 g hg), fun k hk => (hx k (row_lt h.1 hk)).trans (h.2 k hk)⟩
/-- an inode that was taken in lies at block B -/
structure TAt (w : World) (lb : Lab) (x B : Nat) (t : RT) (dv lv : Value) (dvs : List Value) : Prop where
  blk : Blk 74 w B (inoL t.i ++ [dv, .int .i64 (t.up : Nat), lv, .slice none 0 0])
  lab : lb B = (x, 0)
  lead : LRow w lb (x, 1) 3 1 lv t.lead.length (natsV t.lead)
  dir : LRow w lb (x, 2) 37 1 dv t.dir.length dvs
  len : dvs.length = t.dir.length
  row : ∀ b v d, dvs[b]? = some v → t.dir[b]? = some d → LRow w lb (x, 3 + b) 59 2 v d.length (entsV d)
/-- only blocks that are not x's have changed -/
theorem TAt.step {w w' : World} {lb lb' : Lab} {x B : Nat} {t : RT} {dv lv : Value} {dvs : List Value} (h : TAt w lb x B t dv lv dvs) {s : Nat → Prop} (hm : Mods s w w') (hx : Ext w lb lb') (hs : ∀ k, s k → k < w.heap.size → (lb k).1 ≠ x) : TAt w' lb' x B t dv lv dvs :=
  ⟨h.blk.mods hm fun k => hs B k h.blk.lt (by rw [h.lab]), (hx B h.blk.lt).trans h.lab, h.lead.step hm hx fun k a b e => hs k a b (by rw [e]), h.dir.step hm hx fun k a b e => hs k a b (by rw [e]), h.len,
    fun b v d h1 h2 => (h.row b v d h1 h2).step hm hx fun k a c e => hs k a c (by rw [e])⟩

/-- a repair: its claims (by data number), what is taken in, the directories in order, zero -/
structure RSt where
  c : Nat → Bool
  T : Nat → Option RT
  ord : List Nat
  z : Bool
def adrL (adr : Nat → Option Nat) (n : Nat) : List Value := (List.range n).map fun x => Value.pointer ((adr x).map fun B => ⟨B, 0, none⟩)
theorem adrL_get (adr : Nat → Option Nat) (n x : Nat) (h : x < n) : (adrL adr n)[x]? = some (.pointer ((adr x).map fun B => ⟨B, 0, none⟩)) := by simp [adrL, h]
theorem adrL_length (adr : Nat → Option Nat) (n : Nat) : (adrL adr n).length = n := by simp [adrL]
theorem adrL_set (adr : Nat → Option Nat) (n x B : Nat) (h : x < n) : (adrL adr n).set x (.pointer (some ⟨B, 0, none⟩)) = adrL (fun y => if y = x then some B else adr y) n := by
  apply List.ext_getElem?
  intro i
  rw [List.getElem?_set]
  by_cases hi : i < n
  · rw [adrL_get _ _ _ hi, adrL_get _ _ _ hi]
    by_cases e : x = i
    · subst e; simp [adrL_length, h]
    · simp [e, Ne.symm e]
  · have h1 : (adrL adr n)[i]? = none := List.getElem?_eq_none (by rw [adrL_length]; omega)
    have h2 : (adrL (fun y => if y = x then some B else adr y) n)[i]? = none := List.getElem?_eq_none (by rw [adrL_length]; omega)
    rw [h1, h2, if_neg (by omega)]
/-- where a repair lies: the repair, its disk, its claims, its inodes; the image -/
structure RLoc where
  R : Nat
  D : Nat
  C : Nat
  cc : Nat
  TB : Nat
  tc : Nat
  b : Nat
  o : Nat
  N : Nat
  cap : Nat
structure RS (g : Geo) (f : Nat → Nat) (L : RLoc) (w : World) (lb : Lab) (adr : Nat → Option Nat) (S : RSt) : Prop where
  rp : ∃ ov, Rp L.R L.D L.C g.blocks L.cc (.slice (some ⟨L.TB, 0, none⟩) (g.inodes + 1) L.tc) ov S.z w ∧ LRow w lb (0, 5) 3 1 ov S.ord.length (natsV S.ord)
  dk : Dk g L.D L.b L.o L.N L.cap w
  img : ImgOk g L.b L.o L.N L.cap f w
  cl : Blk 4 w L.C (boolsL S.c g.blocks)
  tt : Blk 70 w L.TB (adrL adr (g.inodes + 1))
  nn : ∀ x, adr x = none ↔ S.T x = none
  obj : ∀ x B t, adr x = some B → S.T x = some t → ∃ dv lv dvs, TAt w lb x B t dv lv dvs
  in_ : ∀ x, S.T x ≠ none → 1 ≤ x ∧ x ≤ g.inodes
  lR : lb L.R = (0, 1)
  lD : lb L.D = (0, 2)
  lC : lb L.C = (0, 3)
  lT : lb L.TB = (0, 4)
  lI : lb L.b = (0, 0)
  hi : ∀ k, w.heap.size ≤ k → lb k = (0, 0)
/-- blocks of the repair -/
def Ours (lb : Lab) (k : Nat) : Prop := lb k ≠ (0, 0)
theorem RS.below {g : Geo} {f : Nat → Nat} {L : RLoc} {w w' : World} {lb : Lab} {adr : Nat → Option Nat} {S : RSt} (h : RS g f L w lb adr S) (hb : Below w.heap.size w w') : RS g f L w' lb adr S := by
  have hm : Mods (fun _ => False) w w' := ⟨hb.os, hb.tape, hb.output, hb.size, fun k hk _ => hb.block k hk⟩
  obtain ⟨ov, h1, h2⟩ := h.rp
  exact ⟨⟨ov, h1.below hb h1.lt, h2.step hm (Ext.refl _ _) fun k e => e.elim⟩, h.dk.below hb h.dk.lt, h.img.below hb h.img.lt, h.cl.below hb h.cl.lt, h.tt.below hb h.tt.lt, h.nn, fun x B t a b => by
    obtain ⟨dv, lv, dvs, h3⟩ := h.obj x B t a b
    exact ⟨dv, lv, dvs, h3.step hm (Ext.refl _ _) fun k e => e.elim⟩, h.in_, h.lR, h.lD, h.lC, h.lT, h.lI, fun k hk => h.hi k (Nat.le_trans hb.size hk)⟩
theorem RS.drew {g : Geo} {f : Nat → Nat} {L : RLoc} {w : World} {lb : Lab} {adr : Nat → Option Nat} {S : RSt} (h : RS g f L w lb adr S) : RS g f L w.drew lb adr S := h.below (Below.refl _ _).drew
/-- nobody's blocks alone have changed (and new ones came) -/
theorem RS.free {g : Geo} {f : Nat → Nat} {L : RLoc} {w w' : World} {lb : Lab} {adr : Nat → Option Nat} {S : RSt} (h : RS g f L w lb adr S) {s : Nat → Prop} (hm : Mods s w w') (hs : ∀ k, s k → k < w.heap.size → lb k = (0, 0) ∧ k ≠ L.b) : RS g f L w' lb adr S := by
  obtain ⟨ov, h1, h2⟩ := h.rp
  have n1 : ∀ k p, s k → k < w.heap.size → p ≠ (0, 0) → lb k ≠ p := fun k p a b c e => c (by rw [← e]; exact (hs k a b).1)
  refine ⟨⟨ov, h1.mods hm fun e => n1 _ _ e h1.lt (by decide) h.lR, h2.step hm (Ext.refl _ _) fun k a b => n1 k _ a b (by decide)⟩, h.dk.mods hm fun e => n1 _ _ e h.dk.lt (by decide) h.lD, { h.img with rd := fun k hk => (hm.cell h.img.lt fun e => (hs _ e h.img.lt).2 rfl).trans (h.img.rd k hk) }, h.cl.mods hm fun e => n1 _ _ e h.cl.lt (by decide) h.lC, h.tt.mods hm fun e => n1 _ _ e h.tt.lt (by decide) h.lT, h.nn, fun x B t a b => ?_, h.in_, h.lR, h.lD, h.lC, h.lT, h.lI, fun k hk => h.hi k (Nat.le_trans hm.size hk)⟩
  obtain ⟨dv, lv, dvs, h3⟩ := h.obj x B t a b
  have hx := (h.in_ x (by rw [b]; simp)).1
  exact ⟨dv, lv, dvs, h3.step hm (Ext.refl _ _) fun k c d e => by rw [(hs k c d).1] at e; simp at e; omega⟩
/-- what a step of the repair leaves -/
def RPost (g : Geo) (f : Nat → Nat) (L : RLoc) (w : World) (lb : Lab) (adr : Nat → Option Nat) (w' : World) (S' : RSt) : Prop :=
  ∃ lb' adr', RS g f L w' lb' adr' S' ∧ Ext w lb lb' ∧ (∀ y B, adr y = some B → adr' y = some B) ∧ Mods (Ours lb) w w'
theorem RS.taken {g : Geo} {f : Nat → Nat} {L : RLoc} {w w' : World} {lb lb' : Lab} {adr : Nat → Option Nat} {S S' : RSt} (h : RS g f L w lb adr S) (hm : Mods (fun k => k = L.C ∨ k = L.TB ∨ k = L.R ∨ lb k = (0, 5)) w w') (hx : Ext w lb lb') (hhi : ∀ k, w'.heap.size ≤ k → lb' k = (0, 0))
    (hrp : ∃ ov, Rp L.R L.D L.C g.blocks L.cc (.slice (some ⟨L.TB, 0, none⟩) (g.inodes + 1) L.tc) ov S'.z w' ∧ LRow w' lb' (0, 5) 3 1 ov S'.ord.length (natsV S'.ord)) (hcl : Blk 4 w' L.C (boolsL S'.c g.blocks)) (x B : Nat) (t : RT) (htt : Blk 70 w' L.TB (adrL (fun y => if y = x then some B else adr y) (g.inodes + 1)))
    (hT : S'.T = fun y => if y = x then some t else S.T y) (hx1 : 1 ≤ x ∧ x ≤ g.inodes) (hn : adr x = none) {dv lv : Value} {dvs : List Value} (hobj : TAt w' lb' x B t dv lv dvs) : RPost g f L w lb adr w' S' := by
  have hl : ∀ k, (k = L.C ∨ k = L.TB ∨ k = L.R ∨ lb k = (0, 5)) → (lb k).1 = 0 ∧ lb k ≠ (0, 2) ∧ lb k ≠ (0, 0) := fun k hk => by
    rcases hk with rfl | rfl | rfl | e
    · rw [h.lC]; decide
    · rw [h.lT]; decide
    · rw [h.lR]; decide
    · rw [e]; decide
  have bR : L.R < w.heap.size := by obtain ⟨ov, h1, _⟩ := h.rp; exact h1.lt
  refine ⟨lb', fun y => if y = x then some B else adr y, ⟨hrp, h.dk.mods hm fun e => (hl _ e).2.1 h.lD, { h.img with rd := fun k hk => (hm.cell h.img.lt fun e => (hl _ e).2.2 h.lI).trans (h.img.rd k hk) }, hcl, htt, fun y => ?_, fun y B' t' a b => ?_, fun y hy => ?_, (hx _ bR).trans h.lR, (hx _ h.dk.lt).trans h.lD, (hx _ h.cl.lt).trans h.lC, (hx _ h.tt.lt).trans h.lT, (hx _ h.img.lt).trans h.lI, hhi⟩, hx, fun y B' e => ?_, hm.mono fun k _ e => (hl k e).2.2⟩
  · rw [hT]; dsimp only
    by_cases e : y = x
    · simp [e]
    · simp only [if_neg e]; exact h.nn y
  · rw [hT] at b
    dsimp only at a b
    by_cases e : y = x
    · rw [if_pos e] at a b
      cases a; cases b
      rw [e]; exact ⟨dv, lv, dvs, hobj⟩
    · rw [if_neg e] at a b
      obtain ⟨d, l, ds, ho⟩ := h.obj y B' t' a b
      have hy := (h.in_ y (by rw [b]; simp)).1
      exact ⟨d, l, ds, ho.step hm hx fun k hk _ q => by rw [(hl k hk).1] at q; omega⟩
  · rw [hT] at hy
    dsimp only at hy
    by_cases e : y = x
    · rw [e]; exact hx1
    · rw [if_neg e] at hy; exact h.in_ y hy
  · dsimp only
    by_cases q : y = x
    · rw [q, hn] at e; cases e
    · rw [if_neg q]; exact e
end Go.Proofs.YtbbgahffcjbloaaGreat
end
