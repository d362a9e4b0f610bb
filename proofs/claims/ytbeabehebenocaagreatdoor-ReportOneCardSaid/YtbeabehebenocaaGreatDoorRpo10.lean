/- Part of the road to RpCard: TakeD, Root, Rep1. -/
import Derived.Deep.RegionLawGrows
import Derived.Test.YtbeabehebenocaaGreatDoorRpo07
import Derived.Test.YtbeabehebenocaaGreatDoorRpo09
set_option linter.all false
set_option linter.unusedSimpArgs false
set_option linter.unusedVariables false
set_option linter.unusedSectionVars false
section
/- mend: a mender takes the root in. -/
namespace Go.Proofs.YtbeabehebenocaaGreatDoor
open Go.RowKit

theorem infoTk : (Tryz.prog.info? 70).map (fun i => (i.zero, i.size, i.bytes)) = some (some (.pointer none), 1, 8) := by kernel_rfl
set_option maxRecDepth 100000 in
set_option maxHeartbeats 4000000 in
theorem taked_c (g : Geo) (b o N cap : Nat) (f : Nat → Nat) (X CB IB M : Nat) (out : Value) (c : Nat → Bool) (adr : Nat → Option Nat) (tk : Nat → Tk) (w : World) (h : MAt w g b o N cap f X CB IB M out (.slice none 0 0) c adr tk) (hM : M ≤ 900000000)
    (I : InoN) (hI : ∀ k, I k < 4294967296) (hk : I 0 = 2) (hsz : I 2 = 1024) (hs1 : g.dOk (I 11) = false) (hs2 : g.dOk (I 12) = false) (hfresh : adr 1 = none) (d : Nat) (L : List Ptr) (hL : L = (keepR g 1 c (ptrsI I)).1) (hLd : L = [⟨0, 0, 0, d⟩]) (hout : ∀ k q, out ≠ .int k q) :
    Calls Tryz.prog 50 #[.pointer (some ⟨X, 0, none⟩), .int .i64 1, .int .i64 1, inoV I] w fun e w' => e = .returned (.bool true) ∧ ∃ B v, w.heap.size ≤ B ∧ B < w'.heap.size ∧
      MAt w' g b o N cap f X CB IB (M + 10) out v (keepR g 1 c (ptrsI I)).2 (fun x => if x = 1 then some B else adr x)
        (fun x => if x = 1 then ⟨1, I, L, 1, false, 0⟩ else tk x) ∧ w'.ownsRow w.heap.size 70 1 v 1 [.pointer (some ⟨B, 0, none⟩)] ∧ Mods (fun k => k = CB ∨ k = IB ∨ k = X) w w' := by
  have e1 : min (1024 : Int) 67379200 = 1024 := by decide
  unfold inoV
  rw [hk, hsz]
  go_enter Tryz.func50, Tryz.ntmps50
  go_wp2
  obtain ⟨s0, hs0⟩ : ∃ s0, s0 = w.heap.size := ⟨_, rfl⟩
  obtain ⟨w1, hw1⟩ : ∃ W, W = (w.alloc (.cells #[.pointer (some ⟨X, 0, none⟩)] 63)).alloc (.cells #[.int .i64 2, .int .i64 (I 1 : Nat), .int .i64 1024, .int .i64 (I 3 : Nat), .int .i64 (I 4 : Nat), .int .i64 (I 5 : Nat), .int .i64 (I 6 : Nat), .int .i64 (I 7 : Nat), .int .i64 (I 8 : Nat), .int .i64 (I 9 : Nat), .int .i64 (I 10 : Nat), .int .i64 (I 11 : Nat), .int .i64 (I 12 : Nat)] 40) := ⟨_, rfl⟩
  have hB1 : Below s0 w w1 := by rw [hw1, hs0]; exact ((Below.refl _ w).alloc (Nat.le_refl _) _).alloc (by simp) _
  have z1 : w1.heap.size = s0 + 2 := by rw [hw1, hs0]; simp
  have k0 : Blk 63 w1 s0 [.pointer (some ⟨X, 0, none⟩)] := by rw [hw1, hs0]; exact (Blk.newL _).alloc _
  have k1 : Blk 40 w1 (s0 + 1) [.int .i64 2, .int .i64 (I 1 : Nat), .int .i64 1024, .int .i64 (I 3 : Nat), .int .i64 (I 4 : Nat), .int .i64 (I 5 : Nat), .int .i64 (I 6 : Nat), .int .i64 (I 7 : Nat), .int .i64 (I 8 : Nat), .int .i64 (I 9 : Nat), .int .i64 (I 10 : Nat), .int .i64 (I 11 : Nat), .int .i64 (I 12 : Nat)] := by rw [hw1, hs0]; exact Blk.snd _ [.int .i64 2, .int .i64 (I 1 : Nat), .int .i64 1024, .int .i64 (I 3 : Nat), .int .i64 (I 4 : Nat), .int .i64 (I 5 : Nat), .int .i64 (I 6 : Nat), .int .i64 (I 7 : Nat), .int .i64 (I 8 : Nat), .int .i64 (I 9 : Nat), .int .i64 (I 10 : Nat), .int .i64 (I 11 : Nat), .int .i64 (I 12 : Nat)]
  rw [← hw1]
  simp only [← hs0]
  have hX : X < s0 := by rw [hs0]; exact h.men.lt
  have hCB : CB < s0 := by rw [hs0]; exact h.cl.lt
  have hIX : IB < s0 := by rw [hs0]; exact h.im.lt
  have h1 : MAt w1 g b o N cap f X CB IB M out (.slice none 0 0) c adr tk := h.below (by rw [← hs0]; exact hB1)
  have MD := h1.drew
  have KD := keep_c g MD.img.ok X b o N cap CB M I c w1.drew (by omega) (by omega) hI hs1 hs2 (MD.men.cell 0) (MD.men.cell 1) (MD.men.cell 2) (MD.men.cell 3) (MD.men.cell 5) MD.cl
  unfold inoV at KD
  rw [hsz, hk, show countN 1024 = 1 from by decide, ← hL] at KD
  have k0c := k0.cell 0
  simp only [List.getElem?_cons_zero] at k0c
  have y := fun k => k1.cell k
  have y0 := y 0
  have y1 := y 1
  have y2 := y 2
  have y3 := y 3
  have y4 := y 4
  have y5 := y 5
  have y6 := y 6
  have y7 := y 7
  have y8 := y 8
  have y9 := y 9
  have y10 := y 10
  have y11 := y 11
  have y12 := y 12
  simp only [List.getElem?_cons_zero, List.getElem?_cons_succ] at y0 y1 y2 y3 y4 y5 y6 y7 y8 y9 y10 y11 y12
  have HS0 := Lib.hid hs0; have HL := Lib.hid hL; have HLd := Lib.hid hLd; have HK := Lib.hid hk; have HSZ := Lib.hid hsz
  clear hw1 hs0 y hL hLd hk hsz e1
  refine wp_region_held_drew (S := (fun w' => w'.cell? ⟨s0, 0, none⟩ = some (.pointer (some ⟨X, 0, none⟩)) ∧ w'.cell? ⟨s0 + 1, 0, none⟩ = some (.int .i64 2) ∧ w'.cell? ⟨s0 + 1, 1, none⟩ = some (.int .i64 (I 1 : Nat)) ∧ w'.cell? ⟨s0 + 1, 2, none⟩ = some (.int .i64 1024) ∧ w'.cell? ⟨s0 + 1, 3, none⟩ = some (.int .i64 (I 3 : Nat)) ∧ w'.cell? ⟨s0 + 1, 4, none⟩ = some (.int .i64 (I 4 : Nat)) ∧ w'.cell? ⟨s0 + 1, 5, none⟩ = some (.int .i64 (I 5 : Nat)) ∧ w'.cell? ⟨s0 + 1, 6, none⟩ = some (.int .i64 (I 6 : Nat)) ∧ w'.cell? ⟨s0 + 1, 7, none⟩ = some (.int .i64 (I 7 : Nat)) ∧ w'.cell? ⟨s0 + 1, 8, none⟩ = some (.int .i64 (I 8 : Nat)) ∧ w'.cell? ⟨s0 + 1, 9, none⟩ = some (.int .i64 (I 9 : Nat)) ∧ w'.cell? ⟨s0 + 1, 10, none⟩ = some (.int .i64 (I 10 : Nat)) ∧ w'.cell? ⟨s0 + 1, 11, none⟩ = some (.int .i64 (I 11 : Nat)) ∧ w'.cell? ⟨s0 + 1, 12, none⟩ = some (.int .i64 (I 12 : Nat)))) (by kernel_rfl) ⟨k0c, y0, y1, y2, y3, y4, y5, y6, y7, y8, y9, y10, y11, y12⟩ (fun hHeld => ?_)
  refine tkA (i := 0) (oi := ⟨_, _, _, _, _, _⟩) ?_
  simp only [putA, List.set]
  refine tkA (i := 1) (oi := ⟨_, _, _, _, _, _⟩) ?_
  simp only [putA, List.set]
  refine tkA (i := 2) (oi := ⟨_, _, _, _, _, _⟩) ?_
  simp only [putA, List.set]
  refine tkA (i := 3) (oi := ⟨_, _, _, _, _, _⟩) ?_
  simp only [putA, List.set]
  refine tkA (i := 4) (oi := ⟨_, _, _, _, _, _⟩) ?_
  simp only [putA, List.set]
  refine wpAnyH_ready (rs := [5]) (by kernel_rfl) (by simp) ?_
  refine AllReadyH.cons rfl (fun K hK => ?_) AllReadyH.nil
  go_simp
  go_wp2_with (go_at_call 72; refine KD.mono ?_; rintro e w2 ⟨v, rfl, ho2, hcl2, hm2⟩; obtain ⟨vA, vc, rfl, hrd⟩ := own_rdp ho2; have hz2 : s0 + 2 ≤ w2.heap.size := (by rw [← z1]; exact hm2.size); have hc2 : ∀ k q, k < s0 + 2 → k ≠ CB → w2.cell? ⟨k, q, none⟩ = w1.cell? ⟨k, q, none⟩ := fun k q hk hn => hm2.cell (a := w1.drew) (by (show k < w1.heap.size; rw [z1]; exact hk)) hn)
  refine hK.out _ _ ?_ (fun hHeld => ?_)
  · exact ⟨(hc2 _ _ (by omega) (by omega)).trans k0c, (hc2 _ _ (by omega) (by omega)).trans y0, (hc2 _ _ (by omega) (by omega)).trans y1, (hc2 _ _ (by omega) (by omega)).trans y2, (hc2 _ _ (by omega) (by omega)).trans y3, (hc2 _ _ (by omega) (by omega)).trans y4, (hc2 _ _ (by omega) (by omega)).trans y5, (hc2 _ _ (by omega) (by omega)).trans y6, (hc2 _ _ (by omega) (by omega)).trans y7, (hc2 _ _ (by omega) (by omega)).trans y8, (hc2 _ _ (by omega) (by omega)).trans y9, (hc2 _ _ (by omega) (by omega)).trans y10, (hc2 _ _ (by omega) (by omega)).trans y11, (hc2 _ _ (by omega) (by omega)).trans y12⟩
  clear hK K
  refine tkA (i := 6) (oi := ⟨_, _, _, _, _, _⟩) ?_
  simp only [putA, List.set]
  refine wpAnyH_ready (rs := [7]) (by kernel_rfl) (by simp) ?_
  refine AllReadyH.cons rfl (fun K hK => ?_) AllReadyH.nil
  go_simp
  have hc3 : ∀ (ob : Obj) (k q : Nat), k < w2.heap.size → (w2.alloc ob).cell? ⟨k, q, none⟩ = w2.cell? ⟨k, q, none⟩ := fun ob k q hk => World.cell?_of_block (w := w2) (Below.heap_alloc _ _ _ hk)
  refine hK.out _ _ ?_ (fun hHeld => ?_)
  · exact ⟨(hc3 _ _ _ (by omega)).trans ((hc2 _ _ (by omega) (by omega)).trans k0c), (hc3 _ _ _ (by omega)).trans ((hc2 _ _ (by omega) (by omega)).trans y0), (hc3 _ _ _ (by omega)).trans ((hc2 _ _ (by omega) (by omega)).trans y1), (hc3 _ _ _ (by omega)).trans ((hc2 _ _ (by omega) (by omega)).trans y2), (hc3 _ _ _ (by omega)).trans ((hc2 _ _ (by omega) (by omega)).trans y3), (hc3 _ _ _ (by omega)).trans ((hc2 _ _ (by omega) (by omega)).trans y4), (hc3 _ _ _ (by omega)).trans ((hc2 _ _ (by omega) (by omega)).trans y5), (hc3 _ _ _ (by omega)).trans ((hc2 _ _ (by omega) (by omega)).trans y6), (hc3 _ _ _ (by omega)).trans ((hc2 _ _ (by omega) (by omega)).trans y7), (hc3 _ _ _ (by omega)).trans ((hc2 _ _ (by omega) (by omega)).trans y8), (hc3 _ _ _ (by omega)).trans ((hc2 _ _ (by omega) (by omega)).trans y9), (hc3 _ _ _ (by omega)).trans ((hc2 _ _ (by omega) (by omega)).trans y10), (hc3 _ _ _ (by omega)).trans ((hc2 _ _ (by omega) (by omega)).trans y11), (hc3 _ _ _ (by omega)).trans ((hc2 _ _ (by omega) (by omega)).trans y12)⟩
  clear hK K
  refine tkA (i := 8) (oi := ⟨_, _, _, _, _, _⟩) ?_
  simp only [putA, List.set]
  refine wpAnyH_done (by kernel_rfl) ?_ _
  clear hHeld
  obtain ⟨T, hT⟩ : ∃ T : Tk, T = ⟨1, I, L, 1, false, 0⟩ := ⟨_, rfl⟩
  obtain ⟨w3, hw3⟩ : ∃ W, W = w2.alloc (.cells #[.int .i64 1, .int .i64 2, .int .i64 (I 1 : Nat), .int .i64 1024, .int .i64 (I 3 : Nat), .int .i64 (I 4 : Nat), .int .i64 (I 5 : Nat), .int .i64 (I 6 : Nat), .int .i64 (I 7 : Nat), .int .i64 (I 8 : Nat), .int .i64 (I 9 : Nat), .int .i64 (I 10 : Nat), .int .i64 (I 11 : Nat), .int .i64 (I 12 : Nat), .slice vA L.length vc, .int .i64 1, .bool false, .int .i64 0] 90) := ⟨_, rfl⟩
  have eT : tkV T (.slice vA L.length vc) = [.int .i64 1, .int .i64 2, .int .i64 (I 1 : Nat), .int .i64 1024, .int .i64 (I 3 : Nat), .int .i64 (I 4 : Nat), .int .i64 (I 5 : Nat), .int .i64 (I 6 : Nat), .int .i64 (I 7 : Nat), .int .i64 (I 8 : Nat), .int .i64 (I 9 : Nat), .int .i64 (I 10 : Nat), .int .i64 (I 11 : Nat), .int .i64 (I 12 : Nat), .slice vA L.length vc, .int .i64 1, .bool false, .int .i64 0] := by rw [hT]; simp [tkV, HK.out, HSZ.out]
  have kT : Blk 90 w3 w2.heap.size (tkV T (.slice vA L.length vc)) := by rw [eT, hw3]; exact Blk.newL _
  have hB23 : Below w2.heap.size w2 w3 := by rw [hw3]; exact (Below.refl _ _).alloc (Nat.le_refl _) _
  have z3 : w3.heap.size = w2.heap.size + 1 := by rw [hw3]; simp
  have hm2' : Mods (fun k => k = CB) w1 w2 := ⟨hm2.os, hm2.tape, hm2.output, hm2.size, hm2.block⟩
  have hXC : X ≠ CB := fun e => by subst e; exact not_map h.cl h.men
  have kX2 : Blk 69 w3 X _ := (h1.men.mods hm2' hXC).below hB23 (by omega)
  have kS3 : Blk 63 w3 s0 _ := (k0.mods hm2' (fun e => by omega)).below hB23 (by omega)
  have kI3 : Blk 40 w3 (s0 + 1) _ := (k1.mods hm2' (fun e => by omega)).below hB23 (by omega)
  rw [← hw3]
  have q0 := kS3.cell 0; have q1 := kI3.cell 0; have r14 := kT.cell 14
  rw [eT] at r14
  simp only [List.getElem?_cons_zero, List.getElem?_cons_succ] at q0 q1 r14
  have HT := Lib.hid hT; have HET := Lib.hid eT
  obtain ⟨TB, hTB⟩ : ∃ TB, TB = w2.heap.size := ⟨_, rfl⟩
  simp only [← hTB] at kT ⊢
  have X3 : X < w3.heap.size := by omega
  have S3 : s0 < w3.heap.size := by omega
  have S4 : s0 + 1 < w3.heap.size := by omega
  have T3 : TB < w3.heap.size := by omega
  rw [← hTB] at r14
  have HTB := Lib.hid hTB
  clear hw3 hT eT hTB k0c y0 y1 y2 y3 y4 y5 y6 y7 y8 y9 y10 y11 y12
  obtain ⟨bb, hvA, hbbl, _⟩ := hrd 0 ⟨0, 0, 0, d⟩ (by rw [HLd.out]; rfl)
  subst hvA
  have hrd3 : ∀ W, Below w2.heap.size w2 W → ∀ k p, L[k]? = some p → ∃ b, (some ⟨bb, 0, none⟩ : Option Addr) = some ⟨b, 0, none⟩ ∧ b < W.heap.size ∧ W.cell? ⟨b, k * 4, none⟩ = some (.int .i64 p.lv) ∧ W.cell? ⟨b, k * 4 + 1, none⟩ = some (.int .i64 (p.n : Nat)) ∧ W.cell? ⟨b, k * 4 + 2, none⟩ = some (.int .i64 (p.first : Nat)) ∧ W.cell? ⟨b, k * 4 + 3, none⟩ = some (.int .i64 (p.tgt : Nat)) := fun W hW k p hp => by
    obtain ⟨b', e, hl, c0, c1, c2, c3⟩ := hrd k p hp
    cases e
    have hc := fun q => hW.cell (p := ⟨bb, q, none⟩) hl
    exact ⟨bb, rfl, Nat.lt_of_lt_of_le hl hW.size, (hc _).trans c0, (hc _).trans c1, (hc _).trans c2, (hc _).trans c3⟩
  have hRP : RdP w3 bb L := fun k p hp => by
    obtain ⟨b', e, _, c⟩ := hrd3 w3 hB23 k p hp
    cases e; exact c
  have WC := whole_c bb vc L w3 (by rw [HLd.out]; simp) (by omega) hRP
  rw [show wholeN L = 1 from by rw [HLd.out]; rfl] at WC
  have hTBs : s0 + 2 ≤ TB := by rw [HTB.out]; exact hz2
  have hTBb : TB ≠ bb := by rw [HTB.out]; omega
  clear hrd hRP
  go_wp2_with (first
    | go_at_call 73
      refine WC.mono ?_
      rintro e w4 ⟨rfl, hb4⟩
      have kT4 := kT.below hb4 T3
      have kX4 := kX2.below hb4 X3
      have kS4 := kS3.below hb4 S3
      have kI4 := kI3.below hb4 S4
      have t3 := kT4.cell 3; have t14 := kT4.cell 14
      rw [HET.out] at t3 t14
      have s4c := kS4.cell 0; have i4c := kI4.cell 0
      simp only [List.getElem?_cons_zero, List.getElem?_cons_succ] at t3 t14 s4c i4c
      have u3 := kT4.frozen 3; have u14 := kT4.frozen 14
      have l4 := kT4.lt; have l4s := kS4.lt; have l4x := kX4.lt
      have hB24 : Below w2.heap.size w2 w4 := hB23.trans (hb4.mono hB23.size)
      have sz5 : (w4.setCell ⟨TB, 3, none⟩ (.int .i64 1024)).heap.size = w4.heap.size := by simp [World.setCell]
      have hB25 : Below w2.heap.size w2 ((w4.setCell ⟨TB, 3, none⟩ (.int .i64 1024)).alloc (.cells #[.int .i64 1] 3)) := (hB24.setCell (p := ⟨TB, 3, none⟩) (by rw [HTB.out]; exact Nat.le_refl _) _).alloc (by rw [sz5]; exact hB24.size) _
      have kM5 : Blk 3 ((w4.setCell ⟨TB, 3, none⟩ (.int .i64 1024)).alloc (.cells #[.int .i64 1] 3)) w4.heap.size [.int .i64 1] := Blk.newAt _ sz5
      have kT5 := (kT4.set 3 (.int .i64 1024)).alloc (.cells #[.int .i64 1] 3)
      have kS5 := (kS4.other ⟨TB, 3, none⟩ (.int .i64 1024) (by show TB ≠ s0; omega)).alloc (.cells #[.int .i64 1] 3)
      have kX5 := (kX4.other ⟨TB, 3, none⟩ (.int .i64 1024) (by show TB ≠ X; omega)).alloc (.cells #[.int .i64 1] 3)
      have hm5c : ((w4.setCell ⟨TB, 3, none⟩ (.int .i64 1024)).alloc (.cells #[.int .i64 1] 3)).cell? ⟨w4.heap.size, 0, none⟩ = some (.int .i64 ((1 : Nat) : Int)) := kM5.cell 0
      have DC := delete_c w4.heap.size s0 1 vc (some ⟨bb, 0, none⟩) L _ (by rw [HLd.out]; simp) hm5c (by rw [HLd.out]; simp) (hrd3 _ hB25)
      clear hm5c
    | go_at_call 74
      refine DC.mono ?_
      rintro e w6 ⟨rfl, hb6⟩
      have kT6 := kT5.below hb6 kT5.lt
      have kS6 := kS5.below hb6 kS5.lt
      have kX6 := kX5.below hb6 kX5.lt
      have kM6 := kM5.below hb6 kM5.lt
      have t614 := kT6.cell 14
      rw [HET.out] at t614
      have s6c := kS6.cell 0; have m6c := kM6.cell 0
      simp only [List.getElem?_cons_zero, List.getElem?_cons_succ, List.set_cons_zero, List.set_cons_succ] at t614 s6c m6c
      have u614 := kT6.frozen 14
      have l6 := kT6.lt; have l6s := kS6.lt; have l6x := kX6.lt; have l6m := kM6.lt
      have hne6 : TB ≠ w4.heap.size := by omega
      have hne7 : w4.heap.size ≠ TB := by omega
      clear t3 t14 s4c i4c u3 u14)
  have vL : ∃ v7, v7 = Value.slice (some ⟨bb, 0, none⟩) L.length vc := ⟨_, rfl⟩
  obtain ⟨w7, hw7⟩ : ∃ W, W = w6.setCell ⟨TB, 14, none⟩ (.slice (some ⟨bb, 0, none⟩) L.length vc) := ⟨_, rfl⟩
  have kT7 : Blk 90 w7 TB (tkV T (.slice (some ⟨bb, 0, none⟩) L.length vc)) := by
    have := kT6.set 14 (.slice (some ⟨bb, 0, none⟩) L.length vc)
    rw [hw7]
    have e : ((tkV T (.slice (some ⟨bb, 0, none⟩) L.length vc)).set 3 (.int .i64 1024)).set 14 (.slice (some ⟨bb, 0, none⟩) L.length vc) = tkV T (.slice (some ⟨bb, 0, none⟩) L.length vc) := by rw [HET.out]; rfl
    rw [e] at this; exact this
  have kX7 := kX6.other ⟨TB, 14, none⟩ (.slice (some ⟨bb, 0, none⟩) L.length vc) (by show TB ≠ X; omega)
  have kS7 := kS6.other ⟨TB, 14, none⟩ (.slice (some ⟨bb, 0, none⟩) L.length vc) (by show TB ≠ s0; omega)
  have z7 : w7.heap.size = w6.heap.size := by rw [hw7]; simp [World.setCell]
  rw [← hw7] at kX7 kS7 ⊢
  have c7 := kX7.cell 7; have u7 := kX7.frozen 7; have s7 := kS7.cell 0
  simp only [List.getElem?_cons_zero, List.getElem?_cons_succ] at c7 s7
  have l7x := kX7.lt; have l7s := kS7.lt
  obtain ⟨jT, hjT, hj0, hj1, hj2⟩ := info_parts infoTk
  have c7a : ∀ (ob : Obj) (k q : Nat), k < w7.heap.size → (w7.alloc ob).cell? ⟨k, q, none⟩ = w7.cell? ⟨k, q, none⟩ := fun ob k q hk => World.cell?_of_block (w := w7) (Below.heap_alloc _ _ _ hk)
  have hB26 : Below w2.heap.size w2 w6 := hB25.trans (hb6.mono hB25.size)
  have hB27 : Below w2.heap.size w2 w7 := by rw [hw7]; exact hB26.setCell (p := ⟨TB, 14, none⟩) (by rw [HTB.out]; exact Nat.le_refl _) _
  have HZ7 := Lib.hid z7
  clear hw7 vL z7
  refine wp_region_held_drew (S := (fun w' => w'.cell? ⟨s0, 0, none⟩ = some (.pointer (some ⟨X, 0, none⟩)))) (by kernel_rfl) s7 (fun hHeld => ?_)
  refine tkA (i := 0) (oi := ⟨_, _, _, _, _, _⟩) ?_
  simp only [putA, List.set]
  refine tkA (i := 1) (oi := ⟨_, _, _, _, _, _⟩) ?_
  simp only [putA, List.set]
  refine tkA (i := 2) (oi := ⟨_, _, _, _, _, _⟩) ?_
  simp only [putA, List.set]
  refine tkA (i := 3) (oi := ⟨_, _, _, _, _, _⟩) ?_
  simp only [putA, List.set]
  refine tkA (i := 5) (oi := ⟨_, _, _, _, _, _⟩) ?_
  simp only [putA, List.set]
  refine wpAnyH_ready (rs := [4, 6]) (by kernel_rfl) (by simp) ?_
  refine AllReadyH.cons rfl (fun K hK => ?_) ?_
  · go_simp
    refine hK.out _ _ ?_ (fun hHeld => ?_)
    · exact s7
    clear hK K
    refine wpAnyH_ready (rs := [6]) (by kernel_rfl) (by simp) ?_
    refine AllReadyH.cons rfl (fun K hK => ?_) AllReadyH.nil
    go_simp
    refine hK.out _ _ ?_ (fun hHeld => ?_)
    · exact (c7a _ _ _ l7s).trans s7
    clear hK K
    have al : ∀ (ob : Obj) (k q : Nat), k < w7.heap.size → (w7.alloc ob).cell? ⟨k, q, none⟩ = w7.cell? ⟨k, q, none⟩ := fun ob k q hk => World.cell?_of_block (w := w7) (Below.heap_alloc _ _ _ hk)
    refine wpAnyH_ready (rs := [7]) (by kernel_rfl) (by simp) ?_
    refine AllReadyH.cons rfl (fun K hK => ?_) AllReadyH.nil
    refine step_append_lies _ rfl _ _ 67 rfl w7.heap.size 70 jT (.pointer none) 1 8 Tryz.underlying67 hjT hj0 hj1 hj2 rfl (by decide) (.slice none 0 0) 0 [] rfl (World.ownsRow_nil _ _ _ _) ⟨w7.heap.size, 0, none⟩ 1 1 [.pointer (some ⟨TB, 0, none⟩)] rfl rfl (cells_newL w7 _ _ _ rfl) (by simp [Value.oneCell']) (by omega) (by unfold maxLen; omega) (by omega) (by simp) _ rfl ?_
    intro gw capw w9 hown9 hgr9 hat9 hlt9
    simp only [Act.put, List.setIfInBounds_toArray, List.set_cons_zero, List.set_cons_succ]
    have b9 : ∀ k, k < w7.heap.size → w9.heap[k]? = w7.heap[k]? := fun k hk => (hgr9.block k (by simp; omega) (by simp [Value.ownBlock])).trans (Below.heap_alloc w7 _ k hk)
    have s9 : w9.cell? ⟨s0, 0, none⟩ = some (.pointer (some ⟨X, 0, none⟩)) := (World.cell?_of_block (w := w7) (b9 s0 l7s)).trans s7
    have c79 : w9.cell? ⟨X, 7, none⟩ = some (.slice none 0 0) := (World.cell?_of_block (w := w7) (b9 X l7x)).trans c7
    have u79 : w9.frozen? ⟨X, 7, none⟩ = false := (World.frozen?_of_block (w := w7) (b9 X l7x)).trans u7
    have z9 : w7.heap.size ≤ w9.heap.size := by have := hgr9.size; simp at this; omega
    have l9x : X < w9.heap.size := by omega
    refine hK.out _ _ ?_ (fun hHeld => ?_)
    · exact s9
    clear hK K
    refine tkA (i := 8) (oi := ⟨_, _, _, _, _, _⟩) ?_
    simp only [putA, List.set]
    refine tkA (i := 9) (oi := ⟨_, _, _, _, _, _⟩) ?_
    simp only [putA, List.set]
    refine wpAnyH_ready (rs := [10]) (by kernel_rfl) (by simp) ?_
    refine AllReadyH.cons rfl (fun K hK => ?_) AllReadyH.nil
    go_simp
    refine hK.out _ _ ?_ (fun hHeld => ?_)
    · exact (World.cell?_of_block (w := w9) (Below.heap_setCell _ _ _ _ (by show s0 ≠ X; omega))).trans s9
    clear hK K
    refine wpAnyH_done (by kernel_rfl) ?_ _
    have hB29 : Below w2.heap.size w2 w9 := ((hB27.alloc hB27.size _).drew).grown hgr9 (by have := hB27.size; simp; omega) (fun q e => by cases e)
    have hIX2 : IB ≠ X := fun e => by have hm := h.men; rw [← e] at hm; exact not_map h.im hm
    have hmX : Mods (fun k => k = X) w9 (w9.setCell ⟨X, 7, none⟩ (.slice (some ⟨gw, 0, none⟩) 1 capw)) := (Mods.refl (fun k => k = X) w9).setCell ⟨X, 7, none⟩ (fun _ => rfl) _
    have hIm10 := ((h1.im.mods hm2' (fun e => h.ne e.symm)).below hB29 (by omega)).mods hmX hIX2
    obtain ⟨w11, hst, him11, hm11, hz11⟩ := in_store hIm10 (by omega) (y := 1) (B := TB) (by unfold natOk; omega)
    replace hst : (Instr.mapUpdate 66 (.map (some IB)) (.int .i64 1) (.pointer (some ⟨TB, 0, none⟩))).run Tryz.prog (w9.setCell ⟨X, 7, none⟩ (.slice (some ⟨gw, 0, none⟩) 1 capw)) = .ok () w11 := hst
    have kX9 : Blk 69 w9 X _ := (b9 X l7x).trans kX7
    have c69 := kX9.cell 6
    simp only [List.getElem?_cons_zero, List.getElem?_cons_succ] at c69
    have hsX : s0 ≠ X := by omega
    have hXs : X ≠ s0 := by omega
    have l9s : s0 < w9.heap.size := by omega
    have hz11' : w9.heap.size ≤ w11.heap.size := by have := hm11.size; simp [World.setCell] at this; exact this
    have HZ11 := Lib.hid hz11
    clear hz11 hHeld
    go_wp2
    go_ret
    have h27 : w2.heap.size ≤ w7.heap.size := hB27.size
    have hTX : TB ≠ X := by omega
    have kT11 : TkAt w11 TB T := by
      refine ⟨_, ((show Blk 90 w9 TB _ from (b9 TB kT7.lt).trans kT7).mods hmX hTX).mods hm11 (fun e => ?_), ?_⟩
      · exact not_map hIm10 (by rw [← e]; exact (show Blk 90 w9 TB _ from (b9 TB kT7.lt).trans kT7).mods hmX hTX)
      · have o1 := own_mods (own_mods (own_below ho2 hB29) hmX (fun q hq e => by have := (ho2.lt q hq).1; have e2 : w1.drew.heap.size = s0 + 2 := z1; omega)) hm11 (fun q hq e => by have := (ho2.lt q hq).1; have e2 : w1.drew.heap.size = s0 + 2 := z1; omega)
        have o2 := own_mono o1 (Nat.zero_le _)
        rw [HT.out]
        exact o2
    have mT : Mods (fun k => k = CB ∨ k = IB ∨ k = X) w w11 := by
      have a1 : Mods (fun k => k = CB ∨ k = IB ∨ k = X) w w1 := (Mods.of_below hB1).mono (fun i hi e => by rw [← HS0.out] at hi; omega)
      have a2 := (a1.trans hm2' (fun i _ e => .inl e)).trans_below hB29 (by rw [← HS0.out]; omega)
      exact (a2.trans hmX (fun i _ e => .inr (.inr e))).trans hm11 (fun i _ e => .inr (.inl e))
    refine ⟨rfl, TB, .slice (some ⟨gw, 0, none⟩) 1 capw, by rw [← HS0.out]; omega, by have := kT11.lt; exact this, ⟨?_, ?_, ?_, him11.mono (by omega), h.ne, ?_⟩, ?_, mT⟩
    · exact ((show Blk 69 w9 X _ from (b9 X l7x).trans kX7).set 7 _).mods hm11 (fun e => hIX2 e.symm)
    · refine { h.img with rd := fun k hk => (mT.cell h.img.lt ?_).trans (h.img.rd k hk) }
      have hr := h.img.rd 0 (by have := h.img.n; have := h.img.ok.total_pos; omega)
      rintro (e | e | e)
      · subst e; exact rd_not_map h.cl hr
      · subst e; exact rd_not_map h.im hr
      · exact h.img_ne hout (fun _ _ e => by cases e) e
    · exact ((hcl2.below hB29 (by omega)).mods hmX (fun e => hXC e.symm)).mods hm11 h.ne
    · intro x B e
      by_cases hx : x = 1
      · simp only [hx, if_true, Option.some.injEq] at e ⊢
        rw [← e]
        refine ⟨?_, trivial, by have h1 := h.men.lt; have h2 : w.heap.size ≤ TB := (by rw [← HS0.out]; omega); omega⟩
        have := kT11
        rw [HT.out] at this
        exact this
      · simp only [if_neg hx] at e ⊢
        refine ⟨(h.tks x B e).1.mods mT (fun k hk _ ⟨ys, fr, hh⟩ => ?_), (h.tks x B e).2⟩
        rcases hk with hk | hk | hk
        · subst hk; rcases hh with hh | hh <;> exact not_map h.cl hh
        · subst hk; rcases hh with hh | hh <;> exact not_map h.im hh
        · subst hk; rcases hh with hh | hh <;> (have hm := h.men; rw [show w.heap[k]? = _ from hm] at hh; exact absurd (tag_inj hh) (by decide))
    · have o1 := own_mods (own_mods hown9 hmX (fun q hq e => by have := (hown9.lt q hq).1; omega)) hm11 (fun q hq e => by have := (hown9.lt q hq).1; omega)
      exact own_mono o1 (by rw [← HS0.out]; omega)
  refine AllReadyH.cons rfl (fun K hK => ?_) AllReadyH.nil
  go_simp
  refine hK.out _ _ ?_ (fun hHeld => ?_)
  · exact (c7a _ _ _ l7s).trans s7
  clear hK K
  have c7b := fun ob => (c7a ob X 7 l7x).trans c7
  refine wpAnyH_ready (rs := [4]) (by kernel_rfl) (by simp) ?_
  refine AllReadyH.cons rfl (fun K hK => ?_) AllReadyH.nil
  go_simp
  refine hK.out _ _ ?_ (fun hHeld => ?_)
  · exact (c7a _ _ _ l7s).trans s7
  clear hK K c7b
  have al : ∀ (ob : Obj) (k q : Nat), k < w7.heap.size → (w7.alloc ob).cell? ⟨k, q, none⟩ = w7.cell? ⟨k, q, none⟩ := fun ob k q hk => World.cell?_of_block (w := w7) (Below.heap_alloc _ _ _ hk)
  refine wpAnyH_ready (rs := [7]) (by kernel_rfl) (by simp) ?_
  refine AllReadyH.cons rfl (fun K hK => ?_) AllReadyH.nil
  refine step_append_lies _ rfl _ _ 67 rfl w7.heap.size 70 jT (.pointer none) 1 8 Tryz.underlying67 hjT hj0 hj1 hj2 rfl (by decide) (.slice none 0 0) 0 [] rfl (World.ownsRow_nil _ _ _ _) ⟨w7.heap.size, 0, none⟩ 1 1 [.pointer (some ⟨TB, 0, none⟩)] rfl rfl (cells_newL w7 _ _ _ rfl) (by simp [Value.oneCell']) (by omega) (by unfold maxLen; omega) (by omega) (by simp) _ rfl ?_
  intro gw capw w9 hown9 hgr9 hat9 hlt9
  simp only [Act.put, List.setIfInBounds_toArray, List.set_cons_zero, List.set_cons_succ]
  have b9 : ∀ k, k < w7.heap.size → w9.heap[k]? = w7.heap[k]? := fun k hk => (hgr9.block k (by simp; omega) (by simp [Value.ownBlock])).trans (Below.heap_alloc w7 _ k hk)
  have s9 : w9.cell? ⟨s0, 0, none⟩ = some (.pointer (some ⟨X, 0, none⟩)) := (World.cell?_of_block (w := w7) (b9 s0 l7s)).trans s7
  have c79 : w9.cell? ⟨X, 7, none⟩ = some (.slice none 0 0) := (World.cell?_of_block (w := w7) (b9 X l7x)).trans c7
  have u79 : w9.frozen? ⟨X, 7, none⟩ = false := (World.frozen?_of_block (w := w7) (b9 X l7x)).trans u7
  have z9 : w7.heap.size ≤ w9.heap.size := by have := hgr9.size; simp at this; omega
  have l9x : X < w9.heap.size := by omega
  refine hK.out _ _ ?_ (fun hHeld => ?_)
  · exact s9
  clear hK K
  refine tkA (i := 8) (oi := ⟨_, _, _, _, _, _⟩) ?_
  simp only [putA, List.set]
  refine tkA (i := 9) (oi := ⟨_, _, _, _, _, _⟩) ?_
  simp only [putA, List.set]
  refine wpAnyH_ready (rs := [10]) (by kernel_rfl) (by simp) ?_
  refine AllReadyH.cons rfl (fun K hK => ?_) AllReadyH.nil
  go_simp
  refine hK.out _ _ ?_ (fun hHeld => ?_)
  · exact (World.cell?_of_block (w := w9) (Below.heap_setCell _ _ _ _ (by show s0 ≠ X; omega))).trans s9
  clear hK K
  refine wpAnyH_done (by kernel_rfl) ?_ _
  have hB29 : Below w2.heap.size w2 w9 := ((hB27.alloc hB27.size _).drew).grown hgr9 (by have := hB27.size; simp; omega) (fun q e => by cases e)
  have hIX2 : IB ≠ X := fun e => by have hm := h.men; rw [← e] at hm; exact not_map h.im hm
  have hmX : Mods (fun k => k = X) w9 (w9.setCell ⟨X, 7, none⟩ (.slice (some ⟨gw, 0, none⟩) 1 capw)) := (Mods.refl (fun k => k = X) w9).setCell ⟨X, 7, none⟩ (fun _ => rfl) _
  have hIm10 := ((h1.im.mods hm2' (fun e => h.ne e.symm)).below hB29 (by omega)).mods hmX hIX2
  obtain ⟨w11, hst, him11, hm11, hz11⟩ := in_store hIm10 (by omega) (y := 1) (B := TB) (by unfold natOk; omega)
  replace hst : (Instr.mapUpdate 66 (.map (some IB)) (.int .i64 1) (.pointer (some ⟨TB, 0, none⟩))).run Tryz.prog (w9.setCell ⟨X, 7, none⟩ (.slice (some ⟨gw, 0, none⟩) 1 capw)) = .ok () w11 := hst
  have kX9 : Blk 69 w9 X _ := (b9 X l7x).trans kX7
  have c69 := kX9.cell 6
  simp only [List.getElem?_cons_zero, List.getElem?_cons_succ] at c69
  have hsX : s0 ≠ X := by omega
  have hXs : X ≠ s0 := by omega
  have l9s : s0 < w9.heap.size := by omega
  have hz11' : w9.heap.size ≤ w11.heap.size := by have := hm11.size; simp [World.setCell] at this; exact this
  have HZ11 := Lib.hid hz11
  clear hz11 hHeld
  go_wp2
  go_ret
  have h27 : w2.heap.size ≤ w7.heap.size := hB27.size
  have hTX : TB ≠ X := by omega
  have kT11 : TkAt w11 TB T := by
    refine ⟨_, ((show Blk 90 w9 TB _ from (b9 TB kT7.lt).trans kT7).mods hmX hTX).mods hm11 (fun e => ?_), ?_⟩
    · exact not_map hIm10 (by rw [← e]; exact (show Blk 90 w9 TB _ from (b9 TB kT7.lt).trans kT7).mods hmX hTX)
    · have o1 := own_mods (own_mods (own_below ho2 hB29) hmX (fun q hq e => by have := (ho2.lt q hq).1; have e2 : w1.drew.heap.size = s0 + 2 := z1; omega)) hm11 (fun q hq e => by have := (ho2.lt q hq).1; have e2 : w1.drew.heap.size = s0 + 2 := z1; omega)
      have o2 := own_mono o1 (Nat.zero_le _)
      rw [HT.out]
      exact o2
  have mT : Mods (fun k => k = CB ∨ k = IB ∨ k = X) w w11 := by
    have a1 : Mods (fun k => k = CB ∨ k = IB ∨ k = X) w w1 := (Mods.of_below hB1).mono (fun i hi e => by rw [← HS0.out] at hi; omega)
    have a2 := (a1.trans hm2' (fun i _ e => .inl e)).trans_below hB29 (by rw [← HS0.out]; omega)
    exact (a2.trans hmX (fun i _ e => .inr (.inr e))).trans hm11 (fun i _ e => .inr (.inl e))
  refine ⟨rfl, TB, .slice (some ⟨gw, 0, none⟩) 1 capw, by rw [← HS0.out]; omega, by have := kT11.lt; exact this, ⟨?_, ?_, ?_, him11.mono (by omega), h.ne, ?_⟩, ?_, mT⟩
  · exact ((show Blk 69 w9 X _ from (b9 X l7x).trans kX7).set 7 _).mods hm11 (fun e => hIX2 e.symm)
  · refine { h.img with rd := fun k hk => (mT.cell h.img.lt ?_).trans (h.img.rd k hk) }
    have hr := h.img.rd 0 (by have := h.img.n; have := h.img.ok.total_pos; omega)
    rintro (e | e | e)
    · subst e; exact rd_not_map h.cl hr
    · subst e; exact rd_not_map h.im hr
    · exact h.img_ne hout (fun _ _ e => by cases e) e
  · exact ((hcl2.below hB29 (by omega)).mods hmX (fun e => hXC e.symm)).mods hm11 h.ne
  · intro x B e
    by_cases hx : x = 1
    · simp only [hx, if_true, Option.some.injEq] at e ⊢
      rw [← e]
      refine ⟨?_, trivial, by have h1 := h.men.lt; have h2 : w.heap.size ≤ TB := (by rw [← HS0.out]; omega); omega⟩
      have := kT11
      rw [HT.out] at this
      exact this
    · simp only [if_neg hx] at e ⊢
      refine ⟨(h.tks x B e).1.mods mT (fun k hk _ ⟨ys, fr, hh⟩ => ?_), (h.tks x B e).2⟩
      rcases hk with hk | hk | hk
      · subst hk; rcases hh with hh | hh <;> exact not_map h.cl hh
      · subst hk; rcases hh with hh | hh <;> exact not_map h.im hh
      · subst hk; rcases hh with hh | hh <;> (have hm := h.men; rw [show w.heap[k]? = _ from hm] at hh; exact absurd (tag_inj hh) (by decide))
  · have o1 := own_mods (own_mods hown9 hmX (fun q hq e => by have := (hown9.lt q hq).1; omega)) hm11 (fun q hq e => by have := (hown9.lt q hq).1; omega)
    exact own_mono o1 (by rw [← HS0.out]; omega)
end Go.Proofs.YtbeabehebenocaaGreatDoor
end

section
/- mend: a mender takes the root of an image in. -/
namespace Go.Proofs.YtbeabehebenocaaGreatDoor
open Go.RowKit

set_option maxRecDepth 100000 in
set_option maxHeartbeats 4000000 in
theorem root_c (g : Geo) (b o N cap : Nat) (f : Nat → Nat) (X CB IB M : Nat) (out : Value) (c : Nat → Bool) (adr : Nat → Option Nat) (tk : Nat → Tk) (w : World) (h : MAt w g b o N cap f X CB IB M out (.slice none 0 0) c adr tk) (hM : M ≤ 900000000)
    (I : InoN) (hIe : I = inoAt g f 1) (hk : I 0 = 2) (hsz : I 2 = 1024) (hd3 : g.dOk (I 3) = true) (hs1 : g.dOk (I 11) = false) (hs2 : g.dOk (I 12) = false) (hfresh : adr 1 = none) (d : Nat) (L : List Ptr) (hL : L = (keepR g 1 c (ptrsI I)).1) (hLd : L = [⟨0, 0, 0, d⟩]) (hout : ∀ k q, out ≠ .int k q) :
    Calls Tryz.prog 28 #[.pointer (some ⟨X, 0, none⟩)] w fun e w' => e = .returned (.tuple #[]) ∧ ∃ B v, w.heap.size ≤ B ∧ B < w'.heap.size ∧
      MAt w' g b o N cap f X CB IB (M + 10) out v (keepR g 1 c (ptrsI I)).2 (fun x => if x = 1 then some B else adr x)
        (fun x => if x = 1 then ⟨1, I, L, 1, false, 0⟩ else tk x) ∧ w'.ownsRow w.heap.size 70 1 v 1 [.pointer (some ⟨B, 0, none⟩)] ∧ Mods (fun k => k = CB ∨ k = IB ∨ k = X) w w' := by
  have AC := as_c g X b o N cap 1 f w h.img (h.men.cell 0) (h.men.cell 1) (h.men.cell 2) (h.men.cell 3)
  rw [← hIe] at AC
  have hIb : ∀ k, I k < 4294967296 := fun k => by rw [hIe]; exact inoAt_lt h.img 1 k
  have TD := fun W (hW : MAt W g b o N cap f X CB IB M out (.slice none 0 0) c adr tk) => taked_c g b o N cap f X CB IB M out c adr tk W hW hM I hIb hk hsz hs1 hs2 hfresh d L hL hLd hout
  unfold inoV at AC TD
  rw [hk, hsz] at AC
  rw [hk, hsz] at TD
  have HTD := Lib.hid TD
  have lX := h.men.lt
  clear TD hIe hL hLd hk hsz hIb
  go_enter Tryz.func28, Tryz.ntmps28
  go_wp2_with (go_at_call 48; refine AC.mono ?_; rintro e w2 ⟨rfl, hb2⟩)
  obtain ⟨w3, hw3⟩ : ∃ W, W = w2.alloc (.cells #[.int .i64 2, .int .i64 (I 1 : Nat), .int .i64 1024, .int .i64 (I 3 : Nat), .int .i64 (I 4 : Nat), .int .i64 (I 5 : Nat), .int .i64 (I 6 : Nat), .int .i64 (I 7 : Nat), .int .i64 (I 8 : Nat), .int .i64 (I 9 : Nat), .int .i64 (I 10 : Nat), .int .i64 (I 11 : Nat), .int .i64 (I 12 : Nat)] 40) := ⟨_, rfl⟩
  obtain ⟨q, hq⟩ : ∃ q, q = w2.heap.size := ⟨_, rfl⟩
  have k3 : Blk 40 w3 q [.int .i64 2, .int .i64 (I 1 : Nat), .int .i64 1024, .int .i64 (I 3 : Nat), .int .i64 (I 4 : Nat), .int .i64 (I 5 : Nat), .int .i64 (I 6 : Nat), .int .i64 (I 7 : Nat), .int .i64 (I 8 : Nat), .int .i64 (I 9 : Nat), .int .i64 (I 10 : Nat), .int .i64 (I 11 : Nat), .int .i64 (I 12 : Nat)] := by rw [hw3, hq]; exact Blk.newL [.int .i64 2, .int .i64 (I 1 : Nat), .int .i64 1024, .int .i64 (I 3 : Nat), .int .i64 (I 4 : Nat), .int .i64 (I 5 : Nat), .int .i64 (I 6 : Nat), .int .i64 (I 7 : Nat), .int .i64 (I 8 : Nat), .int .i64 (I 9 : Nat), .int .i64 (I 10 : Nat), .int .i64 (I 11 : Nat), .int .i64 (I 12 : Nat)]
  have hB23 : Below w2.heap.size w2 w3 := by rw [hw3]; exact (Below.refl _ _).alloc (Nat.le_refl _) _
  have h3 : MAt w3 g b o N cap f X CB IB M out (.slice none 0 0) c adr tk := (h.below hb2).below hB23
  have hB3 : Below w.heap.size w w3 := hb2.trans (hB23.mono hb2.size)
  rw [← hw3]
  simp only [← hq]
  have HQ := Lib.hid hq
  clear hw3 hq AC
  have y0 := k3.cell 0; have y2 := k3.cell 2; have y3 := k3.cell 3
  simp only [List.getElem?_cons_zero, List.getElem?_cons_succ] at y0 y2 y3
  refine wp_region_held_drew (S := (fun w' => w'.cell? ⟨q, 0, none⟩ = some (.int .i64 2) ∧ w'.cell? ⟨q, 2, none⟩ = some (.int .i64 1024) ∧ w'.cell? ⟨q, 3, none⟩ = some (.int .i64 (I 3 : Nat)) ∧ w'.cell? ⟨X, 0, none⟩ = some (.int .i64 (g.gr : Nat)) ∧ w'.cell? ⟨X, 1, none⟩ = some (.int .i64 (g.ino : Nat)) ∧ w'.cell? ⟨X, 2, none⟩ = some (.int .i64 (g.da : Nat)) ∧ w'.cell? ⟨X, 3, none⟩ = some (.slice (some ⟨b, o, none⟩) N cap))) (by kernel_rfl) ⟨y0, y2, y3, h3.men.cell 0, h3.men.cell 1, h3.men.cell 2, h3.men.cell 3⟩ (fun hHeld => ?_)
  refine tkA (i := 0) (oi := ⟨_, _, _, _, _, _⟩) ?_
  simp only [putA, List.set]
  refine tkA (i := 1) (oi := ⟨_, _, _, _, _, _⟩) ?_
  simp only [putA, List.set]
  refine tkA (i := 2) (oi := ⟨_, _, _, _, _, _⟩) ?_
  simp only [putA, List.set]
  refine tkA (i := 3) (oi := ⟨_, _, _, _, _, _⟩) ?_
  simp only [putA, List.set]
  refine tkA (i := 4) (oi := ⟨_, _, _, _, _, _⟩) ?_
  simp only [putA, List.set]
  refine tkA (i := 5) (oi := ⟨_, _, _, _, _, _⟩) ?_
  simp only [putA, List.set]
  refine tkA (i := 6) (oi := ⟨_, _, _, _, _, _⟩) ?_
  simp only [putA, List.set]
  refine tkA (i := 7) (oi := ⟨_, _, _, _, _, _⟩) ?_
  simp only [putA, List.set]
  refine tkA (i := 8) (oi := ⟨_, _, _, _, _, _⟩) ?_
  simp only [putA, List.set]
  refine tkA (i := 9) (oi := ⟨_, _, _, _, _, _⟩) ?_
  simp only [putA, List.set]
  refine tkA (i := 10) (oi := ⟨_, _, _, _, _, _⟩) ?_
  simp only [putA, List.set]
  refine tkA (i := 11) (oi := ⟨_, _, _, _, _, _⟩) ?_
  simp only [putA, List.set]
  refine tkA (i := 12) (oi := ⟨_, _, _, _, _, _⟩) ?_
  simp only [putA, List.set]
  refine tkA (i := 13) (oi := ⟨_, _, _, _, _, _⟩) ?_
  simp only [putA, List.set]
  refine tkA (i := 14) (oi := ⟨_, _, _, _, _, _⟩) ?_
  simp only [putA, List.set]
  refine tkA (i := 15) (oi := ⟨_, _, _, _, _, _⟩) ?_
  simp only [putA, List.set]
  refine wpAnyH_ready (rs := [16]) (by kernel_rfl) (by simp) ?_
  refine AllReadyH.cons rfl (fun K hK => ?_) AllReadyH.nil
  go_simp
  go_wp2_with (go_at_call 49; refine (idata_c g h.img.ok _ (I 3) _).mono ?_; rintro e w4 ⟨rfl, hb4⟩; have h4 := h3.drew.below hb4; have k4 := k3.drew.below hb4 k3.lt)
  refine hK.out _ _ ?_ (fun hHeld => ?_)
  · exact ⟨k4.cell 0, k4.cell 2, k4.cell 3, h4.men.cell 0, h4.men.cell 1, h4.men.cell 2, h4.men.cell 3⟩
  clear hK K
  refine tkA (i := 17) (oi := ⟨_, _, _, _, _, _⟩) ?_
  simp only [putA, List.set]
  refine wpAnyH_done (by kernel_rfl) ?_ _
  have hB4 : Below w.heap.size w w4 := hB3.drew.trans (hb4.mono hB3.size)
  have y := fun k => k4.cell k
  have x0 := y 0
  have x1 := y 1
  have x2 := y 2
  have x3 := y 3
  have x4 := y 4
  have x5 := y 5
  have x6 := y 6
  have x7 := y 7
  have x8 := y 8
  have x9 := y 9
  have x10 := y 10
  have x11 := y 11
  have x12 := y 12
  simp only [List.getElem?_cons_zero, List.getElem?_cons_succ] at x0 x1 x2 x3 x4 x5 x6 x7 x8 x9 x10 x11 x12
  have lq4 := k4.lt
  clear y y0 y2 y3 hHeld
  go_wp2_with (go_at_call 50; refine (HTD.out w4 h4).mono ?_; rintro e w5 ⟨rfl, B, v, hBl, hBs, h5, hown, hm5⟩)
  refine bodyPost_ret (results_none rfl _ _ _) rfl ?_
  have a1 : Mods (fun k => k = CB ∨ k = IB ∨ k = X) w w4 := (Mods.of_below hB4).mono (fun i hi e => by omega)
  have hz := hB4.size
  exact ⟨rfl, B, v, by omega, hBs, h5, own_mono hown hz, a1.trans hm5 (fun i _ e => e)⟩
end Go.Proofs.YtbeabehebenocaaGreatDoor
end

section
/- mend: the second pass of a repair: the root's entries. -/
namespace Go.Proofs.YtbeabehebenocaaGreatDoor
open Go.RowKit

def wayN (X : Nat) (wr : World) : Nat := match wr.cell? ⟨X, 7, none⟩ with | some (.slice _ n _) => n | _ => 0
set_option maxRecDepth 100000 in
set_option maxHeartbeats 4000000 in
theorem rep1_c (g : Geo) (b o N cap : Nat) (f : Nat → Nat) (X CB IB M : Nat) (gw capw : Nat) (c : Nat → Bool) (ins : Nat → Option Tk) (ti TB G capo d YB : Nat) (fo fo2 : Nat → Nat) (DF : DS) (w : World)
    (h : MS w g b o N cap f X CB IB M (.slice (some ⟨G, 0, none⟩) N capo) (.slice (some ⟨gw, 0, none⟩) 1 capw) c ins ti TB) (hY : Blk 63 w YB [.pointer (some ⟨X, 0, none⟩)]) (hgw : w.cell? ⟨gw, 0, none⟩ = some (.pointer (some ⟨TB, 0, none⟩))) (hcw : 1 ≤ capw)
    (ho : w.ownsRow (b + 1) 5 1 (.slice (some ⟨G, 0, none⟩) N capo) N (bytesL fo N))
    (DC : ∀ W way', MS W g b o N cap f X CB IB M (.slice (some ⟨G, 0, none⟩) N capo) way' c ins ti TB → W.ownsRow (b + 1) 5 1 (.slice (some ⟨G, 0, none⟩) N capo) N (bytesL fo N) →
      Calls Tryz.prog 30 #[.pointer (some ⟨X, 0, none⟩), .pointer (some ⟨TB, 0, none⟩)] W fun e w' => e = .returned (.tuple #[]) ∧ MS w' g b o N cap f X CB IB (M + 320) (.slice (some ⟨G, 0, none⟩) N capo) way' DF.c DF.ins ti TB ∧ w'.ownsRow (b + 1) 5 1 (.slice (some ⟨G, 0, none⟩) N capo) N (bytesL fo2 N) ∧ Mods (fun i => DMods W X CB IB i ∨ i = G) W w') :
    Calls Tryz.prog 29 #[.pointer (some ⟨YB, 0, none⟩)] w fun e w' => e = .returned (.tuple #[]) ∧ ∃ A k, MS w' g b o N cap f X CB IB (M + 320) (.slice (some ⟨G, 0, none⟩) N capo) (.slice A 0 k) DF.c DF.ins ti TB ∧ w'.ownsRow (b + 1) 5 1 (.slice (some ⟨G, 0, none⟩) N capo) N (bytesL fo2 N) ∧ Mods (fun i => DMods w X CB IB i ∨ i = G ∨ i = X) w w' := by
  obtain ⟨adr, tk, hA, hi, ha⟩ := id h
  have x7 := hA.men.cell 7; have u7 := hA.men.frozen 7; have y0 := hY.cell 0
  simp only [List.getElem?_cons_zero, List.getElem?_cons_succ] at x7 y0
  have lX := hA.men.lt; have lY := hY.lt; have lg := lt_of_cell hgw
  have hYX : YB ≠ X := fun e => by
    have hm : w.heap[X]? = _ := hA.men
    rw [← e, show w.heap[YB]? = _ from hY] at hm
    exact absurd (tag_inj hm) (by decide)
  have hGX : G ≠ X := fun e => by
    obtain ⟨ys, fr, hg1⟩ := own_tag ho
    rw [e, show w.heap[X]? = _ from hA.men] at hg1
    exact absurd (tag_inj hg1) (by decide)
  go_enter Tryz.func29, Tryz.ntmps29
  go_wp2
  go_loopw [1] (fun _ wr => (wr = w) ∨ (∃ wv, MS wr g b o N cap f X CB IB (M + 320) (.slice (some ⟨G, 0, none⟩) N capo) wv DF.c DF.ins ti TB ∧ (∃ A k, wv = .slice A 0 k) ∧ wr.ownsRow (b + 1) 5 1 (.slice (some ⟨G, 0, none⟩) N capo) N (bytesL fo2 N) ∧ Mods (fun i => DMods w X CB IB i ∨ i = G ∨ i = X) w wr)) (fun _ wr => wayN X wr)
  case atStart => exact .inl rfl
  case round =>
    rcases hrel with hw | ⟨wv, h3, ⟨A, k, rfl⟩, o3, m3⟩
    rotate_left
    · have y0' : wr.cell? ⟨YB, 0, none⟩ = some (.pointer (some ⟨X, 0, none⟩)) := by
        refine (m3.cell lY (fun e => ?_)).trans y0
        rcases e with (e | e | ⟨⟨ys, fr, e⟩, hXi⟩ | e) | e | e
        · subst e; exact not_map hA.cl hY
        · subst e; exact not_map hA.im hY
        · rw [show w.heap[YB]? = _ from hY] at e; exact absurd (tag_inj e) (by decide)
        · omega
        · obtain ⟨ys, fr, hg1⟩ := own_tag ho
          rw [← e, show w.heap[YB]? = _ from hY] at hg1
          exact absurd (tag_inj hg1) (by decide)
        · exact hYX e
      obtain ⟨adr3, tk3, hA3, _⟩ := id h3
      have x73 := hA3.men.cell 7
      simp only [List.getElem?_cons_zero, List.getElem?_cons_succ] at x73
      have lX3 := hA3.men.lt
      have lY3 := Nat.lt_of_lt_of_le lY m3.size
      clear x7 y0 hA3
      go_wp2
      go_end0
      exact ⟨rfl, A, k, h3, o3, m3⟩
    obtain rfl := hw.symm
    by_cases hc1 : capw = 1
    · subst hc1
      go_wp2
      refine wp_region_held_drew (S := (fun w' => w'.cell? ⟨YB, 0, none⟩ = some (.pointer (some ⟨X, 0, none⟩)))) (by kernel_rfl) y0 (fun hHeld => ?_)
      refine tkA (i := 0) (oi := ⟨_, _, _, _, _, _⟩) ?_
      simp only [putA, List.set]
      refine tkA (i := 1) (oi := ⟨_, _, _, _, _, _⟩) ?_
      simp only [putA, List.set]
      refine tkA (i := 2) (oi := ⟨_, _, _, _, _, _⟩) ?_
      simp only [putA, List.set]
      refine tkA (i := 3) (oi := ⟨_, _, _, _, _, _⟩) ?_
      simp only [putA, List.set]
      refine wpAnyH_ready (rs := [4]) (by kernel_rfl) (by simp) ?_
      refine AllReadyH.cons rfl (fun K hK => ?_) AllReadyH.nil
      go_simp
      refine hK.out _ _ ?_ (fun hHeld => ?_)
      · exact y0
      clear hK K
      refine tkA (i := 5) (oi := ⟨_, _, _, _, _, _⟩) ?_
      simp only [putA, List.set]
      refine tkA (i := 6) (oi := ⟨_, _, _, _, _, _⟩) ?_
      simp only [putA, List.set]
      refine tkA (i := 7) (oi := ⟨_, _, _, _, _, _⟩) ?_
      simp only [putA, List.set]
      refine wpAnyH_ready (rs := [8]) (by kernel_rfl) (by simp) ?_
      refine AllReadyH.cons rfl (fun K hK => ?_) AllReadyH.nil
      go_simp
      refine hK.out _ _ ?_ (fun hHeld => ?_)
      · exact (World.cell?_of_block (w := w) (Below.heap_setCell _ _ _ _ hYX)).trans y0
      clear hK K
      refine wpAnyH_done (by kernel_rfl) ?_ _
      have h2 := h.setWay (fun _ _ e => by cases e) (fun _ _ e => by cases e) (.slice (some ⟨gw, 0, none⟩) 0 0)
      have o2 := own_mods ho ((Mods.refl (fun k => k = X) w).setCell ⟨X, 7, none⟩ (fun _ => rfl) (.slice (some ⟨gw, 0, none⟩) 0 0)) (fun q hq e => hGX (by rw [← e]; exact Option.some.inj hq))
      have DC2 := DC _ _ (h2.below (Below.refl _ _).drew) (own_below o2 (Below.refl _ _).drew)
      clear hHeld
      go_wp2_with (go_at_call 30; refine DC2.mono ?_; rintro e w3 ⟨rfl, h3, o3, m3⟩)
      go_roundw
      case rel =>
        refine .inr ⟨_, h3, ⟨_, _, rfl⟩, o3, ?_⟩
        have m1 : Mods (fun i => DMods w X CB IB i ∨ i = G ∨ i = X) w (w.setCell ⟨X, 7, none⟩ (.slice (some ⟨gw, 0, none⟩) 0 0)) := (Mods.refl _ w).setCell ⟨X, 7, none⟩ (fun _ => .inr (.inr rfl)) _
        refine m1.drew.trans m3 (fun i hi e => ?_)
        rcases e with (e | e | ⟨⟨ys, fr, e⟩, hXi⟩ | e) | e
        · exact .inl (.inl e)
        · exact .inl (.inr (.inl e))
        · by_cases hx : i = X
          · exact .inr (.inr hx)
          · have e2 : w.heap[i]? = _ := (Below.heap_setCell w ⟨X, 7, none⟩ _ i hx).symm.trans e
            exact .inl (.inr (.inr (.inl ⟨⟨ys, fr, e2⟩, hXi⟩)))
        · have e2 : (w.setCell ⟨X, 7, none⟩ (.slice (some ⟨gw, 0, none⟩) 0 0)).heap.size ≤ i := e
          simp [World.setCell] at e2; omega
        · exact .inr (.inl e)
      case measure =>
        obtain ⟨adr3, tk3, hA3, _⟩ := h3
        have z7 := hA3.men.cell 7
        simp only [List.getElem?_cons_zero, List.getElem?_cons_succ] at z7
        unfold wayN
        rw [z7, x7]
        simp
    · have hc2 : (1 : Int) ≤ (capw : Int) := by omega
      go_wp2
      refine wp_region_held_drew (S := (fun w' => w'.cell? ⟨YB, 0, none⟩ = some (.pointer (some ⟨X, 0, none⟩)))) (by kernel_rfl) y0 (fun hHeld => ?_)
      refine tkA (i := 0) (oi := ⟨_, _, _, _, _, _⟩) ?_
      simp only [putA, List.set]
      refine tkA (i := 1) (oi := ⟨_, _, _, _, _, _⟩) ?_
      simp only [putA, List.set]
      refine tkA (i := 2) (oi := ⟨_, _, _, _, _, _⟩) ?_
      simp only [putA, List.set]
      refine tkA (i := 3) (oi := ⟨_, _, _, _, _, _⟩) ?_
      simp only [putA, List.set]
      refine wpAnyH_ready (rs := [4]) (by kernel_rfl) (by simp) ?_
      refine AllReadyH.cons rfl (fun K hK => ?_) AllReadyH.nil
      go_simp
      refine hK.out _ _ ?_ (fun hHeld => ?_)
      · exact y0
      clear hK K
      refine tkA (i := 5) (oi := ⟨_, _, _, _, _, _⟩) ?_
      simp only [putA, List.set]
      refine tkA (i := 6) (oi := ⟨_, _, _, _, _, _⟩) ?_
      simp only [putA, List.set]
      refine tkA (i := 7) (oi := ⟨_, _, _, _, _, _⟩) ?_
      simp only [putA, List.set]
      refine wpAnyH_ready (rs := [8]) (by kernel_rfl) (by simp) ?_
      refine AllReadyH.cons rfl (fun K hK => ?_) AllReadyH.nil
      go_simp
      refine hK.out _ _ ?_ (fun hHeld => ?_)
      · exact (World.cell?_of_block (w := w) (Below.heap_setCell _ _ _ _ hYX)).trans y0
      clear hK K
      refine wpAnyH_done (by kernel_rfl) ?_ _
      have h2 := h.setWay (fun _ _ e => by cases e) (fun _ _ e => by cases e) (.slice (some ⟨gw, 1, none⟩) 0 (capw - 1))
      have o2 := own_mods ho ((Mods.refl (fun k => k = X) w).setCell ⟨X, 7, none⟩ (fun _ => rfl) (.slice (some ⟨gw, 1, none⟩) 0 (capw - 1))) (fun q hq e => hGX (by rw [← e]; exact Option.some.inj hq))
      have DC2 := DC _ _ (h2.below (Below.refl _ _).drew) (own_below o2 (Below.refl _ _).drew)
      clear hHeld
      go_wp2_with (go_at_call 30; refine DC2.mono ?_; rintro e w3 ⟨rfl, h3, o3, m3⟩)
      go_roundw
      case rel =>
        refine .inr ⟨_, h3, ⟨_, _, rfl⟩, o3, ?_⟩
        have m1 : Mods (fun i => DMods w X CB IB i ∨ i = G ∨ i = X) w (w.setCell ⟨X, 7, none⟩ (.slice (some ⟨gw, 1, none⟩) 0 (capw - 1))) := (Mods.refl _ w).setCell ⟨X, 7, none⟩ (fun _ => .inr (.inr rfl)) _
        refine m1.drew.trans m3 (fun i hi e => ?_)
        rcases e with (e | e | ⟨⟨ys, fr, e⟩, hXi⟩ | e) | e
        · exact .inl (.inl e)
        · exact .inl (.inr (.inl e))
        · by_cases hx : i = X
          · exact .inr (.inr hx)
          · have e2 : w.heap[i]? = _ := (Below.heap_setCell w ⟨X, 7, none⟩ _ i hx).symm.trans e
            exact .inl (.inr (.inr (.inl ⟨⟨ys, fr, e2⟩, hXi⟩)))
        · have e2 : (w.setCell ⟨X, 7, none⟩ (.slice (some ⟨gw, 1, none⟩) 0 (capw - 1))).heap.size ≤ i := e
          simp [World.setCell] at e2; omega
        · exact .inr (.inl e)
      case measure =>
        obtain ⟨adr3, tk3, hA3, _⟩ := h3
        have z7 := hA3.men.cell 7
        simp only [List.getElem?_cons_zero, List.getElem?_cons_succ] at z7
        unfold wayN
        rw [z7, x7]
        simp

end Go.Proofs.YtbeabehebenocaaGreatDoor
end
