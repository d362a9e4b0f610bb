/- Part of the road to RpCard: Dir, Del. -/
import Derived.Test.YtbeabehebenocaaGreatDoorRpo08
import Derived.Test.YtbeabehebenocaaGreatDoorRpo06
import Derived.Test.YtbeabehebenocaaGreatDoorRpo07
set_option linter.all false
set_option linter.unusedSimpArgs false
set_option linter.unusedVariables false
set_option linter.unusedSectionVars false
section
/- mend: a mender goes over the root's entries. -/
namespace Go.Proofs.YtbeabehebenocaaGreatDoor
open Go.RowKit

/-- entries that are made anew -/
theorem rowE_made (w : World) : RowE (w.alloc (.cells (madeCells #[.int .i64 0, .string ⟨#[]⟩] 64) 43)) w.heap.size (fun _ => (0, ⟨#[]⟩)) := by
  refine ⟨(madeCells #[.int .i64 0, .string ⟨#[]⟩] 64).toList, heap_alloc_new w _, by simp [madeCells], fun j hj => ?_⟩
  refine ⟨?_, ?_⟩
  · simp [madeCells, show j * 2 < 64 by omega, show j * 2 % 2 = 0 by omega]
  · simp [madeCells, show j * 2 + 1 < 64 by omega, show (j * 2 + 1) % 2 = 1 by omega]
set_option maxRecDepth 1000000 in
set_option maxHeartbeats 8000000 in
theorem dir_c {z : Bool} (g : Geo) (b o N cap : Nat) (f : Nat → Nat) (X CB IB M : Nat) (way : Value) (c : Nat → Bool) (ins : Nat → Option Tk) (ti TB G capo d : Nat) (fo : Nat → Nat) (t : Tk) (w : World)
    (h : MS w g b o N cap f X CB IB M (.slice (some ⟨G, 0, none⟩) N capo) way c ins ti TB) (hM : M ≤ 800000000) (ht : ins ti = some t) (hL : t.L = [⟨0, 0, 0, d⟩]) (hsz : t.i 2 = 1024) (han : t.anew = z) (hd : d < g.total) (hti0 : 0 < ti ∧ ti < 4294967296) (hpar0 : 0 < t.parent ∧ t.parent < 4294967296) (hN : N = g.total * 1024)
    (ho : w.ownsRow (b + 1) 5 1 (.slice (some ⟨G, 0, none⟩) N capo) N (bytesL fo N)) (hcapo : capo ≤ 9223372036854775807)
    (E0 : Nat → Nat × ByteArray) (hE0 : E0 = if z = true then fun _ => (0, ⟨#[]⟩) else blkE (fun j => f (d * 1024 + j))) (hEok : ∀ j, j < 32 → (E0 j).1 < 4294967296 ∧ (E0 j).2.size ≤ 1000000 ∧ entOk (E0 j).1 (E0 j).2 = true) (hPl : ∀ j, 2 ≤ j → j < 32 → (E0 j).1 = ti ∨ Plain g f (E0 j).1) (DF : DS) (hDF : DF = dirF g f ti t.parent E0 ⟨c, updT ins ti { t with links := 2 }, fun _ => false, E0⟩ 32) :
    Calls Tryz.prog 30 #[.pointer (some ⟨X, 0, none⟩), .pointer (some ⟨TB, 0, none⟩)] w fun e w' => e = .returned (.tuple #[]) ∧
      MS w' g b o N cap f X CB IB (M + 320) (.slice (some ⟨G, 0, none⟩) N capo) way DF.c DF.ins ti TB ∧
      w'.ownsRow (b + 1) 5 1 (.slice (some ⟨G, 0, none⟩) N capo) N (bytesL (putF fo (d * 1024) 1024 (pbF DF.E 32)) N) ∧ Mods (fun i => DMods w X CB IB i ∨ i = G) w w' := by
  have HDF := Lib.hid hDF
  have hNd : d * 1024 + 1024 ≤ N := by omega
  have hNb : N ≤ 9000000 := by
    obtain ⟨adr, tk, hA, _⟩ := h
    have := hA.img.ok.total_le; omega
  clear hDF hN
  have hti : natOk ti := by unfold natOk; omega
  have hpar : natOk t.parent := by unfold natOk; omega
  obtain ⟨adr, tk, hA, hins, hadr⟩ := h
  have htk : tk ti = t := by have := hins ti; rw [ht, hadr] at this; simpa using this.symm
  obtain ⟨⟨kv, hT, hTo⟩, hTi, hTX⟩ := hA.tks ti TB hadr
  rw [htk] at hT hTo hTi
  have f17 := hT.frozen 17
  have a17 := hT.cell 17
  have lT := hT.lt
  unfold tkV at a17
  simp only [List.getElem?_cons_zero, List.getElem?_cons_succ] at a17
  have hA1 := hA.links hadr 2 (u := .int .i64 2) rfl
  rw [htk] at hA1
  obtain ⟨w1, hw1⟩ : ∃ W, W = w.setCell ⟨TB, 17, none⟩ (.int .i64 2) := ⟨_, rfl⟩
  rw [← hw1] at hA1
  obtain ⟨t2, ht2⟩ : ∃ t2, t2 = { t with links := 2 } := ⟨_, rfl⟩
  obtain ⟨tk1, htk1⟩ : ∃ tk1, tk1 = fun y => if y = ti then { t with links := 2 } else tk y := ⟨_, rfl⟩
  rw [← htk1] at hA1
  have htk2 : tk1 ti = t2 := by rw [htk1, ht2]; simp
  have hA2 : MAt (w1.alloc (.map #[] 0)) g b o N cap f X CB IB M (.slice (some ⟨G, 0, none⟩) N capo) way c adr tk1 := hA1.below ((Below.refl _ _).alloc (Nat.le_refl _) _)
  have hT2 := (hA2.tks ti TB hadr).1
  rw [htk2] at hT2
  have BC := tblocks_c TB t2 _ hT2 (by rw [ht2, hL]; simp) (by
    rw [ht2, hL]
    intro p hp
    simp only [List.mem_singleton] at hp
    subst hp
    have := hA.img.ok.total_le
    exact ⟨by unfold natOk; show (0 : Nat) < 9223372036854775808; omega, by unfold natOk; show d < 9223372036854775808; omega⟩)
  rw [hw1] at BC
  have a1w : w1.heap.size = w.heap.size := by rw [hw1]; simp [World.setCell]
  have HW1 := Lib.hid hw1; have HT2 := Lib.hid ht2; have HTK1 := Lib.hid htk1
  have a3 : ∀ W, TkAt W TB t2 → W.cell? ⟨TB, 3, none⟩ = some (.int .i64 1024) ∧ W.cell? ⟨TB, 18 - 2, none⟩ = some (.bool z) ∧ W.cell? ⟨TB, 0, none⟩ = some (.int .i64 (ti : Nat)) ∧ W.cell? ⟨TB, 15, none⟩ = some (.int .i64 (t.parent : Nat)) := fun W hW => by
    obtain ⟨v, hv, _⟩ := hW
    rw [hv.cell, hv.cell, hv.cell, hv.cell, HT2.out]
    refine ⟨?_, ?_, ?_, ?_⟩ <;> simp [tkV, hsz, han, hTi]
  have hsz1 : (w.setCell ⟨TB, 17, none⟩ (.int .i64 2)).heap.size = w.heap.size := by simp [World.setCell]
  have hmm := @run_makeMap Tryz.prog
  have CC : ∀ W, Calls Tryz.prog 53 #[.int .i64 1024] W fun e w' => e = .returned (.int .i64 1) ∧ W = w' := fun W => by have := count_c 1024 (by omega) W; rw [show countN 1024 = 1 from by decide] at this; exact this
  clear hw1 ht2 htk1
  go_enter Tryz.func30, Tryz.ntmps30
  go_wp2_with (first
    | (go_at_call 52
       refine BC.mono ?_
       rintro e w3 ⟨AB, rfl, hABl, hAM, hb3⟩
       obtain ⟨hc3, hf3⟩ := bcell hb3
       have hA3 := hA2.below (by rw [HW1.out]; exact hb3)
       have hT3 := (hA3.tks ti TB hadr).1
       rw [htk2] at hT3
       obtain ⟨e3, e16, e0, e15⟩ := a3 _ hT3
       have lT3 := hT3.lt
       clear hc3 hf3)
    | (go_at_call 53; refine (CC _).mono ?_; rintro e w' ⟨rfl, rfl⟩))
  -- LOOP
  obtain ⟨D0, hD0⟩ : ∃ D0 : DS, D0 = ⟨c, updT ins ti t2, fun _ => false, E0⟩ := ⟨_, rfl⟩
  have HE0 := Lib.hid hE0; have HD0 := Lib.hid hD0
  simp only [World.size_alloc, hsz1] at hABl hb3
  clear hE0 hD0
  have hAM3 := hAM
  have hAM3d : IntM w3.drew AB t2.L.length (atF t2.L) := MapG.below hAM (Below.refl _ _).drew hAM.lt
  have HL0 : ∀ W, IntM W AB t2.L.length (atF t2.L) → (Instr.lookup 92 (.map (some AB)) (.int .i64 0) false).run Tryz.prog W = .ok (.int .i64 (d : Nat)) W := fun W hW => by
    have := int_look hW (y := 0) (by unfold natOk; omega)
    have e : ((atF t2.L 0).getD 0) = d := by rw [HT2.out]; simp [hL, atF, atS]
    rw [e] at this
    exact this
  obtain ⟨FIN, hFIN⟩ : ∃ FIN : World → Prop, FIN = fun wr => MS wr g b o N cap f X CB IB (M + 320) (.slice (some ⟨G, 0, none⟩) N capo) way DF.c DF.ins ti TB ∧ wr.ownsRow (b + 1) 5 1 (.slice (some ⟨G, 0, none⟩) N capo) N (bytesL (putF fo (d * 1024) 1024 (pbF DF.E 32)) N) ∧ Mods (fun i => DMods w X CB IB i ∨ i = G) w wr := ⟨_, rfl⟩
  have hpar2 : ∀ k D, k ≤ 32 → D = dirF g f ti t.parent E0 D0 k → ∀ (tk2 : Nat → Tk) (adr2 : Nat → Option Nat), (∀ x, D.ins x = (adr2 x).map fun _ => tk2 x) → adr2 ti = some TB → (tk2 ti).parent = t.parent := fun k D _ hDk tk2 adr2 h1 h2 => by
    have h3 := dirF_par g f ti t.parent E0 D0 (t0 := t2) (by rw [HD0.out]; show updT ins ti t2 ti = some t2; simp [updT]) k
    rw [← hDk, h1 ti, h2] at h3
    have := h3 _ rfl
    rw [this, HT2.out]
  go_loopw [24] (fun i' wr => (i' = .int .i64 0 ∧ wr = w3) ∨ (i' = .int .i64 1 ∧ FIN wr)) (fun i' _ => 1 - (intOf i').toNat)
  case atStart => exact .inl ⟨rfl, rfl⟩
  case round =>
    rcases hrel with ⟨rfl, hw⟩ | ⟨rfl, hfin⟩
    rotate_left
    · go_wp2
      go_end0
      rw [hFIN] at hfin
      exact ⟨rfl, hfin⟩
    obtain rfl := hw.symm
    go_wp2
    refine wp_region_held_drew (S := (fun w' => w'.cell? ⟨X, 0, none⟩ = some (.int .i64 (g.gr : Nat)) ∧ w'.cell? ⟨X, 1, none⟩ = some (.int .i64 (g.ino : Nat)) ∧ w'.cell? ⟨X, 2, none⟩ = some (.int .i64 (g.da : Nat)) ∧ w'.cell? ⟨X, 3, none⟩ = some (.slice (some ⟨b, o, none⟩) N cap) ∧ (Instr.lookup 92 (.map (some AB)) (.int .i64 0) false).run Tryz.prog w' = .ok (.int .i64 (d : Nat)) w')) (by kernel_rfl) ⟨hA3.men.cell 0, hA3.men.cell 1, hA3.men.cell 2, hA3.men.cell 3, HL0 _ hAM3d⟩ (fun hHeld => ?_)
    refine tkA (i := 0) (oi := ⟨_, _, _, _, _, _⟩) ?_
    simp only [putA, List.set]
    refine tkA (i := 1) (oi := ⟨_, _, _, _, _, _⟩) ?_
    simp only [putA, List.set]
    refine tkA (i := 2) (oi := ⟨_, _, _, _, _, _⟩) ?_
    simp only [putA, List.set]
    refine tkA (i := 3) (oi := ⟨_, _, _, _, _, _⟩) ?_
    simp only [putA, List.set]
    refine tkA (i := 4) (oi := ⟨_, _, _, _, _, _⟩) ?_
    simp only [putA, List.set]
    refine tkA (i := 5) (oi := ⟨_, _, _, _, _, _⟩) ?_
    simp only [putA, List.set]
    refine tkA (i := 6) (oi := ⟨_, _, _, _, _, _⟩) ?_
    simp only [putA, List.set]
    refine wpAnyH_ready (rs := [7]) (by kernel_rfl) (by simp) ?_
    refine AllReadyH.cons rfl (fun K hK => ?_) AllReadyH.nil
    go_simp
    go_wp2_with (go_at_call 35; refine (iblock_c g hA3.img.ok b o N cap d hA3.img.n hA3.img.nc hA3.img.capb hd _).mono ?_; rintro e w4 ⟨rfl, hb4⟩; have hA4 := hA3.drew.below hb4; have hM4 : IntM w4 AB t2.L.length (atF t2.L) := MapG.below hAM3d hb4 hAM3.lt)
    refine hK.out _ _ ?_ (fun hHeld => ?_)
    · exact ⟨hA4.men.cell 0, hA4.men.cell 1, hA4.men.cell 2, hA4.men.cell 3, HL0 _ hM4⟩
    clear hK K
    refine wpAnyH_ready (rs := [8]) (by kernel_rfl) (by simp) ?_
    refine AllReadyH.cons rfl (fun K hK => ?_) AllReadyH.nil
    go_simp
    go_wp2_with (go_at_call 54; refine (eblock_c b (o + d * 1024) 1024 (fun j => f (d * 1024 + j)) (fun j => hA3.img.byte _) _ (hA4.img.blk hd) (by omega) (by omega)).mono ?_; rintro e w5o ⟨lv, rfl, hown5, hb5o⟩; obtain ⟨lbo, lcapo, rfl, hlb5o, hE5o⟩ := RowE.of_own hown5; have hA5o := hA4.below hb5o; have hM5o : IntM w5o AB t2.L.length (atF t2.L) := MapG.below hM4 hb5o hM4.lt)
    refine hK.out _ _ ?_ (fun hHeld => ?_)
    · exact ⟨hA5o.men.cell 0, hA5o.men.cell 1, hA5o.men.cell 2, hA5o.men.cell 3, HL0 _ hM5o⟩
    clear hK K
    refine tkA (i := 9) (oi := ⟨_, _, _, _, _, _⟩) ?_
    simp only [putA, List.set]
    refine wpAnyH_done (by kernel_rfl) ?_ _
    have hT5o := (hA5o.tks ti TB hadr).1
    rw [htk2] at hT5o
    obtain ⟨_, e16o, _, _⟩ := a3 _ hT5o
    have lT5o := hT5o.lt
    clear hHeld
    obtain ⟨i0, hi0, iz0, iz1, iz2⟩ := info_parts infoE
    have hmE : ∀ w : World, (Instr.makeSlice 58 (.int .i64 32) (.int .i64 32)).run Tryz.prog w = .ok (.slice (some ⟨w.heap.size, 0, none⟩) 32 32) (w.alloc (.cells (madeCells #[.int .i64 0, .string ⟨#[]⟩] 64) 43)) := fun w => by
      have := run_make (P := Tryz.prog) w 58 43 i0 (.agg #[.int .i64 0, .string ⟨#[]⟩]) Tryz.underlying58 hi0 iz0 .i64 .i64 32 32 (by omega) (by omega) (by rw [iz2]; omega) (by omega)
      rw [iz1] at this
      exact this
    go_upto_if 39 with fail
    go_cut [7] (fun s7 wx => ∃ w5 lb lcap, w5 = wx ∧ s7 = .slice (some ⟨lb, 0, none⟩) 32 lcap ∧ w4.heap.size ≤ lb ∧ RowE w5 lb E0 ∧ Below w5o.heap.size w5o w5)
    case first =>
      by_cases hzz : z = true
      · subst hzz
        have HHE := Lib.hid (HE0.out)
        have HHB := Lib.hid hb5o
        go_wp2_with fail
        go_meet
        refine ⟨_, _, _, rfl, rfl, HHB.out.size, ?_, (Below.refl _ _).alloc (Nat.le_refl _) _⟩
        rw [HHE.out, if_pos trivial]
        exact rowE_made w5o
      · have hzf : z = false := by simpa using hzz
        subst hzf
        have HHE := Lib.hid (HE0.out)
        go_wp2_with fail
        go_meet
        refine ⟨_, _, _, rfl, rfl, hlb5o, ?_, Below.refl _ _⟩
        rw [HHE.out, if_neg (by decide)]
        exact hE5o
    case rest =>
    obtain ⟨w5, lb, lcap, rfl, rfl, hlb5, hE5, hb6⟩ := hcut
    have hb5 : Below w4.heap.size w4 w5 := hb5o.trans (hb6.mono hb5o.size)
    have hA5 := hA4.below hb5
    have hM5 : IntM w5 AB t2.L.length (atF t2.L) := MapG.below hM4 hb5 hM4.lt
    clear hmE e16o lT5o hT5o hE5o hlb5o hA5o hM5o
    have HB : Below (w.heap.size + 1) ((w.setCell ⟨TB, 17, none⟩ (.int .i64 2)).alloc (.map #[] 0)) w5 := by
      have b1 : Below (w.heap.size + 1) w3 w4 := by have h1 := (Below.refl w3.heap.size w3).drew.trans hb4; exact h1.mono (by have := hb3.size; simp only [World.size_alloc, hsz1] at this; exact this)
      exact (hb3.trans b1).trans (hb5.mono (by have h1 := hb3.size; have h2 := b1.size; simp only [World.size_alloc, hsz1] at h1; omega))
    have hGT : G ≠ TB := fun e => by
      obtain ⟨ys, fr, hg1⟩ := own_tag ho
      rw [e, show w.heap[TB]? = _ from hT] at hg1
      exact absurd (tag_inj hg1) (by decide)
    have dA : DA w b X CB IB w.heap.size AB lb := ⟨hA.img.lt, hA.men.lt, hA.cl.lt, hA.im.lt, Nat.le_refl _, by omega, by have h1 := hb3.size; have h2 := hb4.size; simp only [World.size_alloc, hsz1] at h1; have h3 : w3.heap.size ≤ w4.heap.size := h2; omega, by omega⟩
    have dI : DI w g b o N cap f X CB IB M way ti TB G capo fo w.heap.size AB lb t2.L.length (atF t2.L) D0 0 0 w5 := by
      refine ⟨⟨adr, tk1, ?_, fun x => ?_, hadr⟩, ?_, hM5, ?_, ?_, ?_⟩
      · rw [HD0.out]; exact hA5
      · rw [HD0.out]
        show updT ins ti t2 x = _
        unfold updT
        by_cases hx : x = ti
        · subst hx; simp [hadr, htk2]
        · simp only [if_neg hx]; rw [hins x, HTK1.out]; simp [hx]
      · rw [HD0.out]
        have h1 : NameM ((w.setCell ⟨TB, 17, none⟩ (.int .i64 2)).alloc (.map #[] 0)) w.heap.size 0 (fun _ => false) := by
          have := MapG.made (kt := 9) (R := plainElem Tryz.prog 4) (mk := strK) (ok := strOk) (w.setCell ⟨TB, 17, none⟩ (.int .i64 2))
          rw [hsz1] at this
          exact this
        exact MapG.below h1 HB (by omega)
      · rw [HD0.out]; exact hE5
      · have h1 : (w.setCell ⟨TB, 17, none⟩ (.int .i64 2)).ownsRow (b + 1) 5 1 (.slice (some ⟨G, 0, none⟩) N capo) N (bytesL fo N) := own_mods ho ((Mods.refl (fun k => k = TB) w).setCell ⟨TB, 17, none⟩ (fun _ => rfl) _) (fun q hq e => hGT (by rw [← e]; exact Option.some.inj hq))
        have h2 := h1.alloc (.map #[] 0)
        exact own_below h2 (by rw [World.size_alloc, hsz1]; exact HB)
      · have h1 : Mods (DMods w X CB IB) w (w.setCell ⟨TB, 17, none⟩ (.int .i64 2)) := (Mods.refl _ w).setCell ⟨TB, 17, none⟩ (fun _ => .inr (.inr (.inl ⟨⟨_, _, hT⟩, hTX⟩))) _
        exact (h1.alloc _).trans_below HB (by omega)
    have hT5 := (hA5.tks ti TB hadr).1
    rw [htk2] at hT5
    obtain ⟨_, e16', _, _⟩ := a3 _ hT5
    have lT5 := hT5.lt
    have HFIN := Lib.hid hFIN
    have HT := Lib.hid hT
    clear hFIN hT hA hA1 hA2 hA3 hA4 hA5 hT2 hT3 hTo hins hM5 hM4 hAM hAM3 hAM3d hown5 hlb5 hE5 HB BC f17 a17 lT e3 e16 e0 e15 lT3 hb5 hb4
    go_wp2
    go_loopw [43] (fun i' wr => ∃ k : Nat, k ≤ 32 ∧ i' = .int .i64 k ∧ ∃ kn, kn ≤ k ∧ DI w g b o N cap f X CB IB M way ti TB G capo fo w.heap.size AB lb t2.L.length (atF t2.L) (dirF g f ti t.parent E0 D0 k) kn k wr) (fun i' _ => 32 - (intOf i').toNat)
    case atStart => exact ⟨0, by omega, rfl, 0, Nat.le_refl _, dI⟩
    case round =>
      obtain ⟨k, hk, rfl, kn, hkn, hI⟩ := hrel
      obtain ⟨D, hD⟩ : ∃ D, D = dirF g f ti t.parent E0 D0 k := ⟨_, rfl⟩
      rw [← hD] at hI
      have hsz5 := hI.lt
      by_cases hlt : k < 32
      · have hEk : D.E k = E0 k := by rw [hD, dirF_later g f ti t.parent E0 D0 k k (Nat.le_refl _), HD0.out]
        obtain ⟨r0, r1⟩ := hI.ro.rd k hlt
        rw [hEk] at r0 r1
        obtain ⟨x, hx⟩ : ∃ x, x = (E0 k).1 := ⟨_, rfl⟩
        obtain ⟨s, hs⟩ : ∃ s, s = (E0 k).2 := ⟨_, rfl⟩
        obtain ⟨v1, v2, v3⟩ := hEok k hlt
        rw [← hx] at r0 v1 v3
        rw [← hs] at r1 v2 v3
        have lro := hI.ro.lt
        have fr0 := hI.ro.frozen (k * 2); have fr1 := hI.ro.frozen (k * 2 + 1)
        have hnext : dirF g f ti t.parent E0 D0 (k + 1) = dirS g f ti t.parent E0 k D := by rw [hD]; rfl
        by_cases hk2 : k < 2
        · have q1 : (k : Int) < 2 := by omega
          obtain ⟨adr2, tk2, hA2, hi2, ha2⟩ := hI.ms
          have lTB := (hA2.tks ti TB ha2).1.lt
          have hdS : dirS g f ti t.parent E0 k D = { D with E := setE D.E k (if k = 0 then (ti, ⟨#[46]⟩) else (t.parent, ⟨#[46, 46]⟩)) } := by unfold dirS; rw [if_pos hk2]
          have HI := Lib.hid hI; have HDS := Lib.hid hdS; have HNX := Lib.hid hnext
          obtain ⟨⟨kv2, hT2w, _⟩, hTi2, _⟩ := hA2.tks ti TB ha2
          have TBlb : TB ≠ lb := fun e => by
            obtain ⟨xs, hbl, _⟩ := hI.ro
            have hbl2 : wr.heap[lb]? = _ := hbl
            rw [← e, show wr.heap[TB]? = _ from hT2w] at hbl2
            exact absurd (tag_inj hbl2) (by decide)
          have hpd : (tk2 ti).parent = t.parent := hpar2 k D hk hD tk2 adr2 hi2 ha2
          have g0 : wr.cell? ⟨TB, 0, none⟩ = some (.int .i64 (ti : Nat)) := by rw [hT2w.cell]; simp [tkV, hTi2]
          have g15 : wr.cell? ⟨TB, 15, none⟩ = some (.int .i64 (t.parent : Nat)) := by rw [hT2w.cell]; simp [tkV, hpd]
          have AL : ∀ (W : World) (ob : Obj) (q : Nat), TB < W.heap.size → (W.alloc ob).cell? ⟨TB, q, none⟩ = W.cell? ⟨TB, q, none⟩ := fun W ob q h => World.cell?_of_block (w := W) (Below.heap_alloc _ _ _ h)
          have SL : ∀ (W : World) (q a : Nat) (v : Value), (W.setCell ⟨lb, a, none⟩ v).cell? ⟨TB, q, none⟩ = W.cell? ⟨TB, q, none⟩ := fun W q a v => World.cell?_of_block (w := W) (Below.heap_setCell _ _ _ _ TBlb)
          have SZ : ∀ (W : World) (a : Nat) (v : Value), (W.setCell ⟨lb, a, none⟩ v).heap.size = W.heap.size := fun W a v => by simp [World.setCell]
          obtain ⟨u0, hu0⟩ := hI.ro.rd k hlt
          have c0 : wr.cell? ⟨lb, k * 2, none⟩ = some (.int .i64 (x : Int)) := r0
          have c1 : wr.cell? ⟨lb, k * 2 + 1, none⟩ = some (.string s) := r1
          have HX := Lib.hid hx; have HS := Lib.hid hs; have HD := Lib.hid hD
          clear hI hA2 hi2 hdS hnext u0 hu0 hx hs hD hEk hT2w hTi2 hpd
          have HAL := Lib.hid AL; have HSL := Lib.hid SL; have HSZ := Lib.hid SZ
          have HSQ := Lib.hid (show ∀ (W : World) (k q a : Nat) (v : Value), k ≠ lb → (W.setCell ⟨lb, a, none⟩ v).cell? ⟨k, q, none⟩ = W.cell? ⟨k, q, none⟩ from fun W k q a v h => World.cell?_of_block (w := W) (Below.heap_setCell _ _ _ _ h))
          clear AL SL SZ
          have bA : ∀ (o1 o2 o3 : Obj), (((wr.alloc o1).alloc o2).alloc o3).heap[lb]? = wr.heap[lb]? := fun o1 o2 o3 => (Below.heap_alloc _ _ _ (by simp; omega)).trans ((Below.heap_alloc _ _ _ (by simp; omega)).trans (Below.heap_alloc _ _ _ lro))
          have e0 : ∀ (o1 o2 o3 : Obj), (((wr.alloc o1).alloc o2).alloc o3).cell? ⟨lb, k * 2, none⟩ = some (.int .i64 (x : Int)) := fun o1 o2 o3 => (World.cell?_of_block (w := wr) (bA o1 o2 o3)).trans c0
          have e1 : ∀ (o1 o2 o3 : Obj), (((wr.alloc o1).alloc o2).alloc o3).cell? ⟨lb, k * 2 + 1, none⟩ = some (.string s) := fun o1 o2 o3 => (World.cell?_of_block (w := wr) (bA o1 o2 o3)).trans c1
          have h0 : ∀ (o1 o2 o3 : Obj), (((wr.alloc o1).alloc o2).alloc o3).frozen? ⟨lb, k * 2, none⟩ = false := fun o1 o2 o3 => (World.frozen?_of_block (w := wr) (bA o1 o2 o3)).trans fr0
          have h1 : ∀ (o1 o2 o3 : Obj), (((wr.alloc o1).alloc o2).alloc o3).frozen? ⟨lb, k * 2 + 1, none⟩ = false := fun o1 o2 o3 => (World.frozen?_of_block (w := wr) (bA o1 o2 o3)).trans fr1
          clear bA r0 r1
          rcases (show k = 0 ∨ k = 1 by omega) with rfl | rfl
          · simp only [Nat.reduceMul, Nat.reduceAdd, Nat.zero_mul, Nat.zero_add] at c0 c1 fr0 fr1 e0 e1 h0 h1
            go_wp2
            refine wp_region_held_drew (S := (fun w' => w'.cell? ⟨TB, 0, none⟩ = some (.int .i64 (ti : Nat)) ∧ w'.cell? ⟨TB, 15, none⟩ = some (.int .i64 (t.parent : Nat)))) (by kernel_rfl) ⟨(HAL.out _ _ _ lTB).trans g0, (HAL.out _ _ _ lTB).trans g15⟩ (fun hHeld => ?_)
            refine tkA (i := 0) (oi := ⟨_, _, _, _, _, _⟩) ?_
            simp only [putA, List.set]
            refine tkA (i := 1) (oi := ⟨_, _, _, _, _, _⟩) ?_
            simp only [putA, List.set]
            refine tkA (i := 2) (oi := ⟨_, _, _, _, _, _⟩) ?_
            simp only [putA, List.set]
            refine tkA (i := 3) (oi := ⟨_, _, _, _, _, _⟩) ?_
            simp only [putA, List.set]
            refine tkA (i := 4) (oi := ⟨_, _, _, _, _, _⟩) ?_
            simp only [putA, List.set]
            refine tkA (i := 5) (oi := ⟨_, _, _, _, _, _⟩) ?_
            simp only [putA, List.set]
            refine tkA (i := 6) (oi := ⟨_, _, _, _, _, _⟩) ?_
            simp only [putA, List.set]
            refine tkA (i := 7) (oi := ⟨_, _, _, _, _, _⟩) ?_
            simp only [putA, List.set]
            refine tkA (i := 8) (oi := ⟨_, _, _, _, _, _⟩) ?_
            simp only [putA, List.set]
            refine tkA (i := 9) (oi := ⟨_, _, _, _, _, _⟩) ?_
            simp only [putA, List.set]
            refine tkA (i := 11) (oi := ⟨_, _, _, _, _, _⟩) ?_
            simp only [putA, List.set]
            refine tkA (i := 15) (oi := ⟨_, _, _, _, _, _⟩) ?_
            simp only [putA, List.set]
            refine wpAnyH_ready (rs := [10, 14]) (by kernel_rfl) (by simp) ?_
            refine AllReadyH.cons rfl (fun K hK => ?_) ?_
            · go_simp
              refine hK.out _ _ ?_ (fun hHeld => ?_)
              · exact ⟨(HAL.out _ _ _ (by simp; omega)).trans ((HAL.out _ _ _ lTB).trans g0), (HAL.out _ _ _ (by simp; omega)).trans ((HAL.out _ _ _ lTB).trans g15)⟩
              clear hK K
              have bA := Blk.newAt (e := 3) (w := wr.alloc (.cells #[.int .i64 (x : Int), .string s] 43)) (B := wr.heap.size + 1) [.int .i64 (ti : Nat), .int .i64 (t.parent : Nat)] (by simp)
              have bA0 := bA.cell 0; have bA1 := bA.cell 1
              simp only [List.getElem?_cons_zero, List.getElem?_cons_succ] at bA0 bA1
              refine anyH_mono (fun (w' : World) => w'.cell? ⟨TB, 0, none⟩ = some (.int .i64 (ti : Nat)) ∧ w'.cell? ⟨TB, 15, none⟩ = some (.int .i64 (t.parent : Nat)) ∧ w'.cell? ⟨wr.heap.size + 1, 0, none⟩ = some (.int .i64 (ti : Nat)) ∧ w'.cell? ⟨wr.heap.size + 1, 1, none⟩ = some (.int .i64 (t.parent : Nat))) (fun w h => ⟨h.1, h.2.1⟩) _ _ _ _ ?_
              have hHeld2 := hHeld.1; have hHeld3 := hHeld.2
              replace hHeld : (fun (w' : World) => w'.cell? ⟨TB, 0, none⟩ = some (.int .i64 (ti : Nat)) ∧ w'.cell? ⟨TB, 15, none⟩ = some (.int .i64 (t.parent : Nat)) ∧ w'.cell? ⟨wr.heap.size + 1, 0, none⟩ = some (.int .i64 (ti : Nat)) ∧ w'.cell? ⟨wr.heap.size + 1, 1, none⟩ = some (.int .i64 (t.parent : Nat))) _ := ⟨hHeld2, hHeld3, bA0, bA1⟩
              refine tkA (i := 12) (oi := ⟨_, _, _, _, _, _⟩) ?_
              simp only [putA, List.set]
              refine tkA (i := 13) (oi := ⟨_, _, _, _, _, _⟩) ?_
              simp only [putA, List.set]
              refine wpAnyH_ready (rs := [14]) (by kernel_rfl) (by simp) ?_
              refine AllReadyH.cons rfl (fun K hK => ?_) AllReadyH.nil
              go_simp
              have bB := Blk.newAt (e := 9) (w := (wr.alloc (.cells #[.int .i64 (x : Int), .string s] 43)).alloc (.cells [.int .i64 (ti : Nat), .int .i64 (t.parent : Nat)].toArray 3)) (B := wr.heap.size + 1 + 1) [.string ⟨#[46]⟩, .string ⟨#[46, 46]⟩] (by simp)
              have bC := bA.alloc (.cells [.string ⟨#[46]⟩, .string ⟨#[46, 46]⟩].toArray 9)
              have bB0 := bB.cell 0; have bB1 := bB.cell 1; have bC0 := bC.cell 0; have bC1 := bC.cell 1
              simp only [List.getElem?_cons_zero, List.getElem?_cons_succ] at bB0 bB1 bC0 bC1
              refine hK.out _ _ ?_ (fun hHeld => ?_)
              · exact ⟨(HAL.out _ _ _ (by simp; omega)).trans ((HAL.out _ _ _ (by simp; omega)).trans ((HAL.out _ _ _ lTB).trans g0)), (HAL.out _ _ _ (by simp; omega)).trans ((HAL.out _ _ _ (by simp; omega)).trans ((HAL.out _ _ _ lTB).trans g15)), bC0, bC1⟩
              clear hK K
              refine anyH_mono (fun (w' : World) => w'.cell? ⟨TB, 0, none⟩ = some (.int .i64 (ti : Nat)) ∧ w'.cell? ⟨TB, 15, none⟩ = some (.int .i64 (t.parent : Nat)) ∧ w'.cell? ⟨wr.heap.size + 1, 0, none⟩ = some (.int .i64 (ti : Nat)) ∧ w'.cell? ⟨wr.heap.size + 1, 1, none⟩ = some (.int .i64 (t.parent : Nat)) ∧ w'.cell? ⟨wr.heap.size + 1 + 1, 0, none⟩ = some (.string ⟨#[46]⟩) ∧ w'.cell? ⟨wr.heap.size + 1 + 1, 1, none⟩ = some (.string ⟨#[46, 46]⟩)) (fun w h => ⟨h.1, h.2.1, h.2.2.1, h.2.2.2.1⟩) _ _ _ _ ?_
              have hHeld4 : (fun (w' : World) => w'.cell? ⟨TB, 0, none⟩ = some (.int .i64 (ti : Nat)) ∧ w'.cell? ⟨TB, 15, none⟩ = some (.int .i64 (t.parent : Nat)) ∧ w'.cell? ⟨wr.heap.size + 1, 0, none⟩ = some (.int .i64 (ti : Nat)) ∧ w'.cell? ⟨wr.heap.size + 1, 1, none⟩ = some (.int .i64 (t.parent : Nat)) ∧ w'.cell? ⟨wr.heap.size + 1 + 1, 0, none⟩ = some (.string ⟨#[46]⟩) ∧ w'.cell? ⟨wr.heap.size + 1 + 1, 1, none⟩ = some (.string ⟨#[46, 46]⟩)) _ := ⟨hHeld.1, hHeld.2.1, hHeld.2.2.1, hHeld.2.2.2, bB0, bB1⟩
              refine tkA (i := 16) (oi := ⟨_, _, _, _, _, _⟩) ?_
              simp only [putA, List.set]
              refine tkA (i := 17) (oi := ⟨_, _, _, _, _, _⟩) ?_
              simp only [putA, List.set]
              refine tkA (i := 18) (oi := ⟨_, _, _, _, _, _⟩) ?_
              simp only [putA, List.set]
              refine tkA (i := 19) (oi := ⟨_, _, _, _, _, _⟩) ?_
              simp only [putA, List.set]
              refine wpAnyH_ready (rs := [20]) (by kernel_rfl) (by simp) ?_
              refine AllReadyH.cons rfl (fun K hK => ?_) AllReadyH.nil
              go_simp
              refine hK.out _ _ ?_ (fun hHeld => ?_)
              · exact ⟨(HSQ.out _ _ _ _ _ (by omega)).trans ((HSQ.out _ _ _ _ _ (by omega)).trans hHeld4.1), (HSQ.out _ _ _ _ _ (by omega)).trans ((HSQ.out _ _ _ _ _ (by omega)).trans hHeld4.2.1), (HSQ.out _ _ _ _ _ (by omega)).trans ((HSQ.out _ _ _ _ _ (by omega)).trans hHeld4.2.2.1), (HSQ.out _ _ _ _ _ (by omega)).trans ((HSQ.out _ _ _ _ _ (by omega)).trans hHeld4.2.2.2.1), (HSQ.out _ _ _ _ _ (by omega)).trans ((HSQ.out _ _ _ _ _ (by omega)).trans hHeld4.2.2.2.2.1), (HSQ.out _ _ _ _ _ (by omega)).trans ((HSQ.out _ _ _ _ _ (by omega)).trans hHeld4.2.2.2.2.2)⟩
              clear hK K
              refine wpAnyH_done (by kernel_rfl) ?_ _
              clear hHeld hHeld2 hHeld3 hHeld4 bA bB bC bA0 bA1 bB0 bB1 bC0 bC1
              go_wp2
              go_roundw
              case rel =>
                refine ⟨0 + 1, by omega, by go_num, kn, by omega, ?_⟩
                have hdd : dirS g f ti t.parent E0 0 D = { D with E := setE D.E 0 (ti, ⟨#[46]⟩) } := HDS.out
                rw [HNX.out, hdd]
                exact ((HI.out.below ((((Below.refl _ wr).alloc (Nat.le_refl _) _).alloc (by simp) _).alloc (by simp; omega) _)).entry dA (by omega) _ _).below (Below.refl _ _).drew
              case measure => simp [intOf]
            refine AllReadyH.cons rfl (fun K hK => ?_) AllReadyH.nil
            go_simp
            refine hK.out _ _ ?_ (fun hHeld => ?_)
            · exact ⟨(HAL.out _ _ _ (by simp; omega)).trans ((HAL.out _ _ _ lTB).trans g0), (HAL.out _ _ _ (by simp; omega)).trans ((HAL.out _ _ _ lTB).trans g15)⟩
            clear hK K
            have bA := Blk.newAt (e := 9) (w := wr.alloc (.cells #[.int .i64 (x : Int), .string s] 43)) (B := wr.heap.size + 1) [.string ⟨#[46]⟩, .string ⟨#[46, 46]⟩] (by simp)
            have bA0 := bA.cell 0; have bA1 := bA.cell 1
            simp only [List.getElem?_cons_zero, List.getElem?_cons_succ] at bA0 bA1
            refine anyH_mono (fun (w' : World) => w'.cell? ⟨TB, 0, none⟩ = some (.int .i64 (ti : Nat)) ∧ w'.cell? ⟨TB, 15, none⟩ = some (.int .i64 (t.parent : Nat)) ∧ w'.cell? ⟨wr.heap.size + 1, 0, none⟩ = some (.string ⟨#[46]⟩) ∧ w'.cell? ⟨wr.heap.size + 1, 1, none⟩ = some (.string ⟨#[46, 46]⟩)) (fun w h => ⟨h.1, h.2.1⟩) _ _ _ _ ?_
            have hHeld2 := hHeld.1; have hHeld3 := hHeld.2
            replace hHeld : (fun (w' : World) => w'.cell? ⟨TB, 0, none⟩ = some (.int .i64 (ti : Nat)) ∧ w'.cell? ⟨TB, 15, none⟩ = some (.int .i64 (t.parent : Nat)) ∧ w'.cell? ⟨wr.heap.size + 1, 0, none⟩ = some (.string ⟨#[46]⟩) ∧ w'.cell? ⟨wr.heap.size + 1, 1, none⟩ = some (.string ⟨#[46, 46]⟩)) _ := ⟨hHeld2, hHeld3, bA0, bA1⟩
            refine tkA (i := 16) (oi := ⟨_, _, _, _, _, _⟩) ?_
            simp only [putA, List.set]
            refine tkA (i := 17) (oi := ⟨_, _, _, _, _, _⟩) ?_
            simp only [putA, List.set]
            refine wpAnyH_ready (rs := [10]) (by kernel_rfl) (by simp) ?_
            refine AllReadyH.cons rfl (fun K hK => ?_) AllReadyH.nil
            go_simp
            have bB := Blk.newAt (e := 3) (w := (wr.alloc (.cells #[.int .i64 (x : Int), .string s] 43)).alloc (.cells [.string ⟨#[46]⟩, .string ⟨#[46, 46]⟩].toArray 9)) (B := wr.heap.size + 1 + 1) [.int .i64 (ti : Nat), .int .i64 (t.parent : Nat)] (by simp)
            have bC := bA.alloc (.cells [.int .i64 (ti : Nat), .int .i64 (t.parent : Nat)].toArray 3)
            have bB0 := bB.cell 0; have bB1 := bB.cell 1; have bC0 := bC.cell 0; have bC1 := bC.cell 1
            simp only [List.getElem?_cons_zero, List.getElem?_cons_succ] at bB0 bB1 bC0 bC1
            refine hK.out _ _ ?_ (fun hHeld => ?_)
            · exact ⟨(HAL.out _ _ _ (by simp; omega)).trans ((HAL.out _ _ _ (by simp; omega)).trans ((HAL.out _ _ _ lTB).trans g0)), (HAL.out _ _ _ (by simp; omega)).trans ((HAL.out _ _ _ (by simp; omega)).trans ((HAL.out _ _ _ lTB).trans g15)), bC0, bC1⟩
            clear hK K
            refine anyH_mono (fun (w' : World) => w'.cell? ⟨TB, 0, none⟩ = some (.int .i64 (ti : Nat)) ∧ w'.cell? ⟨TB, 15, none⟩ = some (.int .i64 (t.parent : Nat)) ∧ w'.cell? ⟨wr.heap.size + 1, 0, none⟩ = some (.string ⟨#[46]⟩) ∧ w'.cell? ⟨wr.heap.size + 1, 1, none⟩ = some (.string ⟨#[46, 46]⟩) ∧ w'.cell? ⟨wr.heap.size + 1 + 1, 0, none⟩ = some (.int .i64 (ti : Nat)) ∧ w'.cell? ⟨wr.heap.size + 1 + 1, 1, none⟩ = some (.int .i64 (t.parent : Nat))) (fun w h => ⟨h.1, h.2.1, h.2.2.1, h.2.2.2.1⟩) _ _ _ _ ?_
            have hHeld4 : (fun (w' : World) => w'.cell? ⟨TB, 0, none⟩ = some (.int .i64 (ti : Nat)) ∧ w'.cell? ⟨TB, 15, none⟩ = some (.int .i64 (t.parent : Nat)) ∧ w'.cell? ⟨wr.heap.size + 1, 0, none⟩ = some (.string ⟨#[46]⟩) ∧ w'.cell? ⟨wr.heap.size + 1, 1, none⟩ = some (.string ⟨#[46, 46]⟩) ∧ w'.cell? ⟨wr.heap.size + 1 + 1, 0, none⟩ = some (.int .i64 (ti : Nat)) ∧ w'.cell? ⟨wr.heap.size + 1 + 1, 1, none⟩ = some (.int .i64 (t.parent : Nat))) _ := ⟨hHeld.1, hHeld.2.1, hHeld.2.2.1, hHeld.2.2.2, bB0, bB1⟩
            refine tkA (i := 12) (oi := ⟨_, _, _, _, _, _⟩) ?_
            simp only [putA, List.set]
            refine tkA (i := 13) (oi := ⟨_, _, _, _, _, _⟩) ?_
            simp only [putA, List.set]
            refine tkA (i := 18) (oi := ⟨_, _, _, _, _, _⟩) ?_
            simp only [putA, List.set]
            refine tkA (i := 19) (oi := ⟨_, _, _, _, _, _⟩) ?_
            simp only [putA, List.set]
            refine wpAnyH_ready (rs := [20]) (by kernel_rfl) (by simp) ?_
            refine AllReadyH.cons rfl (fun K hK => ?_) AllReadyH.nil
            go_simp
            refine hK.out _ _ ?_ (fun hHeld => ?_)
            · exact ⟨(HSQ.out _ _ _ _ _ (by omega)).trans ((HSQ.out _ _ _ _ _ (by omega)).trans hHeld4.1), (HSQ.out _ _ _ _ _ (by omega)).trans ((HSQ.out _ _ _ _ _ (by omega)).trans hHeld4.2.1), (HSQ.out _ _ _ _ _ (by omega)).trans ((HSQ.out _ _ _ _ _ (by omega)).trans hHeld4.2.2.1), (HSQ.out _ _ _ _ _ (by omega)).trans ((HSQ.out _ _ _ _ _ (by omega)).trans hHeld4.2.2.2.1), (HSQ.out _ _ _ _ _ (by omega)).trans ((HSQ.out _ _ _ _ _ (by omega)).trans hHeld4.2.2.2.2.1), (HSQ.out _ _ _ _ _ (by omega)).trans ((HSQ.out _ _ _ _ _ (by omega)).trans hHeld4.2.2.2.2.2)⟩
            clear hK K
            refine wpAnyH_done (by kernel_rfl) ?_ _
            clear hHeld hHeld2 hHeld3 hHeld4 bA bB bC bA0 bA1 bB0 bB1 bC0 bC1
            go_wp2
            go_roundw
            case rel =>
              refine ⟨0 + 1, by omega, by go_num, kn, by omega, ?_⟩
              have hdd : dirS g f ti t.parent E0 0 D = { D with E := setE D.E 0 (ti, ⟨#[46]⟩) } := HDS.out
              rw [HNX.out, hdd]
              exact ((HI.out.below ((((Below.refl _ wr).alloc (Nat.le_refl _) _).alloc (by simp) _).alloc (by simp; omega) _)).entry dA (by omega) _ _).below (Below.refl _ _).drew
            case measure => simp [intOf]
          · simp only [Nat.reduceMul, Nat.reduceAdd, Nat.zero_mul, Nat.zero_add] at c0 c1 fr0 fr1 e0 e1 h0 h1
            go_wp2
            refine wp_region_held_drew (S := (fun w' => w'.cell? ⟨TB, 0, none⟩ = some (.int .i64 (ti : Nat)) ∧ w'.cell? ⟨TB, 15, none⟩ = some (.int .i64 (t.parent : Nat)))) (by kernel_rfl) ⟨(HAL.out _ _ _ lTB).trans g0, (HAL.out _ _ _ lTB).trans g15⟩ (fun hHeld => ?_)
            refine tkA (i := 0) (oi := ⟨_, _, _, _, _, _⟩) ?_
            simp only [putA, List.set]
            refine tkA (i := 1) (oi := ⟨_, _, _, _, _, _⟩) ?_
            simp only [putA, List.set]
            refine tkA (i := 2) (oi := ⟨_, _, _, _, _, _⟩) ?_
            simp only [putA, List.set]
            refine tkA (i := 3) (oi := ⟨_, _, _, _, _, _⟩) ?_
            simp only [putA, List.set]
            refine tkA (i := 4) (oi := ⟨_, _, _, _, _, _⟩) ?_
            simp only [putA, List.set]
            refine tkA (i := 5) (oi := ⟨_, _, _, _, _, _⟩) ?_
            simp only [putA, List.set]
            refine tkA (i := 6) (oi := ⟨_, _, _, _, _, _⟩) ?_
            simp only [putA, List.set]
            refine tkA (i := 7) (oi := ⟨_, _, _, _, _, _⟩) ?_
            simp only [putA, List.set]
            refine tkA (i := 8) (oi := ⟨_, _, _, _, _, _⟩) ?_
            simp only [putA, List.set]
            refine tkA (i := 9) (oi := ⟨_, _, _, _, _, _⟩) ?_
            simp only [putA, List.set]
            refine tkA (i := 11) (oi := ⟨_, _, _, _, _, _⟩) ?_
            simp only [putA, List.set]
            refine tkA (i := 15) (oi := ⟨_, _, _, _, _, _⟩) ?_
            simp only [putA, List.set]
            refine wpAnyH_ready (rs := [10, 14]) (by kernel_rfl) (by simp) ?_
            refine AllReadyH.cons rfl (fun K hK => ?_) ?_
            · go_simp
              refine hK.out _ _ ?_ (fun hHeld => ?_)
              · exact ⟨(HAL.out _ _ _ (by simp; omega)).trans ((HAL.out _ _ _ lTB).trans g0), (HAL.out _ _ _ (by simp; omega)).trans ((HAL.out _ _ _ lTB).trans g15)⟩
              clear hK K
              have bA := Blk.newAt (e := 3) (w := wr.alloc (.cells #[.int .i64 (x : Int), .string s] 43)) (B := wr.heap.size + 1) [.int .i64 (ti : Nat), .int .i64 (t.parent : Nat)] (by simp)
              have bA0 := bA.cell 0; have bA1 := bA.cell 1
              simp only [List.getElem?_cons_zero, List.getElem?_cons_succ] at bA0 bA1
              refine anyH_mono (fun (w' : World) => w'.cell? ⟨TB, 0, none⟩ = some (.int .i64 (ti : Nat)) ∧ w'.cell? ⟨TB, 15, none⟩ = some (.int .i64 (t.parent : Nat)) ∧ w'.cell? ⟨wr.heap.size + 1, 0, none⟩ = some (.int .i64 (ti : Nat)) ∧ w'.cell? ⟨wr.heap.size + 1, 1, none⟩ = some (.int .i64 (t.parent : Nat))) (fun w h => ⟨h.1, h.2.1⟩) _ _ _ _ ?_
              have hHeld2 := hHeld.1; have hHeld3 := hHeld.2
              replace hHeld : (fun (w' : World) => w'.cell? ⟨TB, 0, none⟩ = some (.int .i64 (ti : Nat)) ∧ w'.cell? ⟨TB, 15, none⟩ = some (.int .i64 (t.parent : Nat)) ∧ w'.cell? ⟨wr.heap.size + 1, 0, none⟩ = some (.int .i64 (ti : Nat)) ∧ w'.cell? ⟨wr.heap.size + 1, 1, none⟩ = some (.int .i64 (t.parent : Nat))) _ := ⟨hHeld2, hHeld3, bA0, bA1⟩
              refine tkA (i := 12) (oi := ⟨_, _, _, _, _, _⟩) ?_
              simp only [putA, List.set]
              refine tkA (i := 13) (oi := ⟨_, _, _, _, _, _⟩) ?_
              simp only [putA, List.set]
              refine wpAnyH_ready (rs := [14]) (by kernel_rfl) (by simp) ?_
              refine AllReadyH.cons rfl (fun K hK => ?_) AllReadyH.nil
              go_simp
              have bB := Blk.newAt (e := 9) (w := (wr.alloc (.cells #[.int .i64 (x : Int), .string s] 43)).alloc (.cells [.int .i64 (ti : Nat), .int .i64 (t.parent : Nat)].toArray 3)) (B := wr.heap.size + 1 + 1) [.string ⟨#[46]⟩, .string ⟨#[46, 46]⟩] (by simp)
              have bC := bA.alloc (.cells [.string ⟨#[46]⟩, .string ⟨#[46, 46]⟩].toArray 9)
              have bB0 := bB.cell 0; have bB1 := bB.cell 1; have bC0 := bC.cell 0; have bC1 := bC.cell 1
              simp only [List.getElem?_cons_zero, List.getElem?_cons_succ] at bB0 bB1 bC0 bC1
              refine hK.out _ _ ?_ (fun hHeld => ?_)
              · exact ⟨(HAL.out _ _ _ (by simp; omega)).trans ((HAL.out _ _ _ (by simp; omega)).trans ((HAL.out _ _ _ lTB).trans g0)), (HAL.out _ _ _ (by simp; omega)).trans ((HAL.out _ _ _ (by simp; omega)).trans ((HAL.out _ _ _ lTB).trans g15)), bC0, bC1⟩
              clear hK K
              refine anyH_mono (fun (w' : World) => w'.cell? ⟨TB, 0, none⟩ = some (.int .i64 (ti : Nat)) ∧ w'.cell? ⟨TB, 15, none⟩ = some (.int .i64 (t.parent : Nat)) ∧ w'.cell? ⟨wr.heap.size + 1, 0, none⟩ = some (.int .i64 (ti : Nat)) ∧ w'.cell? ⟨wr.heap.size + 1, 1, none⟩ = some (.int .i64 (t.parent : Nat)) ∧ w'.cell? ⟨wr.heap.size + 1 + 1, 0, none⟩ = some (.string ⟨#[46]⟩) ∧ w'.cell? ⟨wr.heap.size + 1 + 1, 1, none⟩ = some (.string ⟨#[46, 46]⟩)) (fun w h => ⟨h.1, h.2.1, h.2.2.1, h.2.2.2.1⟩) _ _ _ _ ?_
              have hHeld4 : (fun (w' : World) => w'.cell? ⟨TB, 0, none⟩ = some (.int .i64 (ti : Nat)) ∧ w'.cell? ⟨TB, 15, none⟩ = some (.int .i64 (t.parent : Nat)) ∧ w'.cell? ⟨wr.heap.size + 1, 0, none⟩ = some (.int .i64 (ti : Nat)) ∧ w'.cell? ⟨wr.heap.size + 1, 1, none⟩ = some (.int .i64 (t.parent : Nat)) ∧ w'.cell? ⟨wr.heap.size + 1 + 1, 0, none⟩ = some (.string ⟨#[46]⟩) ∧ w'.cell? ⟨wr.heap.size + 1 + 1, 1, none⟩ = some (.string ⟨#[46, 46]⟩)) _ := ⟨hHeld.1, hHeld.2.1, hHeld.2.2.1, hHeld.2.2.2, bB0, bB1⟩
              refine tkA (i := 16) (oi := ⟨_, _, _, _, _, _⟩) ?_
              simp only [putA, List.set]
              refine tkA (i := 17) (oi := ⟨_, _, _, _, _, _⟩) ?_
              simp only [putA, List.set]
              refine tkA (i := 18) (oi := ⟨_, _, _, _, _, _⟩) ?_
              simp only [putA, List.set]
              refine tkA (i := 19) (oi := ⟨_, _, _, _, _, _⟩) ?_
              simp only [putA, List.set]
              refine wpAnyH_ready (rs := [20]) (by kernel_rfl) (by simp) ?_
              refine AllReadyH.cons rfl (fun K hK => ?_) AllReadyH.nil
              go_simp
              refine hK.out _ _ ?_ (fun hHeld => ?_)
              · exact ⟨(HSQ.out _ _ _ _ _ (by omega)).trans ((HSQ.out _ _ _ _ _ (by omega)).trans hHeld4.1), (HSQ.out _ _ _ _ _ (by omega)).trans ((HSQ.out _ _ _ _ _ (by omega)).trans hHeld4.2.1), (HSQ.out _ _ _ _ _ (by omega)).trans ((HSQ.out _ _ _ _ _ (by omega)).trans hHeld4.2.2.1), (HSQ.out _ _ _ _ _ (by omega)).trans ((HSQ.out _ _ _ _ _ (by omega)).trans hHeld4.2.2.2.1), (HSQ.out _ _ _ _ _ (by omega)).trans ((HSQ.out _ _ _ _ _ (by omega)).trans hHeld4.2.2.2.2.1), (HSQ.out _ _ _ _ _ (by omega)).trans ((HSQ.out _ _ _ _ _ (by omega)).trans hHeld4.2.2.2.2.2)⟩
              clear hK K
              refine wpAnyH_done (by kernel_rfl) ?_ _
              clear hHeld hHeld2 hHeld3 hHeld4 bA bB bC bA0 bA1 bB0 bB1 bC0 bC1
              go_wp2
              go_roundw
              case rel =>
                refine ⟨1 + 1, by omega, by go_num, kn, by omega, ?_⟩
                have hdd : dirS g f ti t.parent E0 1 D = { D with E := setE D.E 1 (t.parent, ⟨#[46, 46]⟩) } := HDS.out
                rw [HNX.out, hdd]
                exact ((HI.out.below ((((Below.refl _ wr).alloc (Nat.le_refl _) _).alloc (by simp) _).alloc (by simp; omega) _)).entry dA (by omega) _ _).below (Below.refl _ _).drew
              case measure => simp [intOf]
            refine AllReadyH.cons rfl (fun K hK => ?_) AllReadyH.nil
            go_simp
            refine hK.out _ _ ?_ (fun hHeld => ?_)
            · exact ⟨(HAL.out _ _ _ (by simp; omega)).trans ((HAL.out _ _ _ lTB).trans g0), (HAL.out _ _ _ (by simp; omega)).trans ((HAL.out _ _ _ lTB).trans g15)⟩
            clear hK K
            have bA := Blk.newAt (e := 9) (w := wr.alloc (.cells #[.int .i64 (x : Int), .string s] 43)) (B := wr.heap.size + 1) [.string ⟨#[46]⟩, .string ⟨#[46, 46]⟩] (by simp)
            have bA0 := bA.cell 0; have bA1 := bA.cell 1
            simp only [List.getElem?_cons_zero, List.getElem?_cons_succ] at bA0 bA1
            refine anyH_mono (fun (w' : World) => w'.cell? ⟨TB, 0, none⟩ = some (.int .i64 (ti : Nat)) ∧ w'.cell? ⟨TB, 15, none⟩ = some (.int .i64 (t.parent : Nat)) ∧ w'.cell? ⟨wr.heap.size + 1, 0, none⟩ = some (.string ⟨#[46]⟩) ∧ w'.cell? ⟨wr.heap.size + 1, 1, none⟩ = some (.string ⟨#[46, 46]⟩)) (fun w h => ⟨h.1, h.2.1⟩) _ _ _ _ ?_
            have hHeld2 := hHeld.1; have hHeld3 := hHeld.2
            replace hHeld : (fun (w' : World) => w'.cell? ⟨TB, 0, none⟩ = some (.int .i64 (ti : Nat)) ∧ w'.cell? ⟨TB, 15, none⟩ = some (.int .i64 (t.parent : Nat)) ∧ w'.cell? ⟨wr.heap.size + 1, 0, none⟩ = some (.string ⟨#[46]⟩) ∧ w'.cell? ⟨wr.heap.size + 1, 1, none⟩ = some (.string ⟨#[46, 46]⟩)) _ := ⟨hHeld2, hHeld3, bA0, bA1⟩
            refine tkA (i := 16) (oi := ⟨_, _, _, _, _, _⟩) ?_
            simp only [putA, List.set]
            refine tkA (i := 17) (oi := ⟨_, _, _, _, _, _⟩) ?_
            simp only [putA, List.set]
            refine wpAnyH_ready (rs := [10]) (by kernel_rfl) (by simp) ?_
            refine AllReadyH.cons rfl (fun K hK => ?_) AllReadyH.nil
            go_simp
            have bB := Blk.newAt (e := 3) (w := (wr.alloc (.cells #[.int .i64 (x : Int), .string s] 43)).alloc (.cells [.string ⟨#[46]⟩, .string ⟨#[46, 46]⟩].toArray 9)) (B := wr.heap.size + 1 + 1) [.int .i64 (ti : Nat), .int .i64 (t.parent : Nat)] (by simp)
            have bC := bA.alloc (.cells [.int .i64 (ti : Nat), .int .i64 (t.parent : Nat)].toArray 3)
            have bB0 := bB.cell 0; have bB1 := bB.cell 1; have bC0 := bC.cell 0; have bC1 := bC.cell 1
            simp only [List.getElem?_cons_zero, List.getElem?_cons_succ] at bB0 bB1 bC0 bC1
            refine hK.out _ _ ?_ (fun hHeld => ?_)
            · exact ⟨(HAL.out _ _ _ (by simp; omega)).trans ((HAL.out _ _ _ (by simp; omega)).trans ((HAL.out _ _ _ lTB).trans g0)), (HAL.out _ _ _ (by simp; omega)).trans ((HAL.out _ _ _ (by simp; omega)).trans ((HAL.out _ _ _ lTB).trans g15)), bC0, bC1⟩
            clear hK K
            refine anyH_mono (fun (w' : World) => w'.cell? ⟨TB, 0, none⟩ = some (.int .i64 (ti : Nat)) ∧ w'.cell? ⟨TB, 15, none⟩ = some (.int .i64 (t.parent : Nat)) ∧ w'.cell? ⟨wr.heap.size + 1, 0, none⟩ = some (.string ⟨#[46]⟩) ∧ w'.cell? ⟨wr.heap.size + 1, 1, none⟩ = some (.string ⟨#[46, 46]⟩) ∧ w'.cell? ⟨wr.heap.size + 1 + 1, 0, none⟩ = some (.int .i64 (ti : Nat)) ∧ w'.cell? ⟨wr.heap.size + 1 + 1, 1, none⟩ = some (.int .i64 (t.parent : Nat))) (fun w h => ⟨h.1, h.2.1, h.2.2.1, h.2.2.2.1⟩) _ _ _ _ ?_
            have hHeld4 : (fun (w' : World) => w'.cell? ⟨TB, 0, none⟩ = some (.int .i64 (ti : Nat)) ∧ w'.cell? ⟨TB, 15, none⟩ = some (.int .i64 (t.parent : Nat)) ∧ w'.cell? ⟨wr.heap.size + 1, 0, none⟩ = some (.string ⟨#[46]⟩) ∧ w'.cell? ⟨wr.heap.size + 1, 1, none⟩ = some (.string ⟨#[46, 46]⟩) ∧ w'.cell? ⟨wr.heap.size + 1 + 1, 0, none⟩ = some (.int .i64 (ti : Nat)) ∧ w'.cell? ⟨wr.heap.size + 1 + 1, 1, none⟩ = some (.int .i64 (t.parent : Nat))) _ := ⟨hHeld.1, hHeld.2.1, hHeld.2.2.1, hHeld.2.2.2, bB0, bB1⟩
            refine tkA (i := 12) (oi := ⟨_, _, _, _, _, _⟩) ?_
            simp only [putA, List.set]
            refine tkA (i := 13) (oi := ⟨_, _, _, _, _, _⟩) ?_
            simp only [putA, List.set]
            refine tkA (i := 18) (oi := ⟨_, _, _, _, _, _⟩) ?_
            simp only [putA, List.set]
            refine tkA (i := 19) (oi := ⟨_, _, _, _, _, _⟩) ?_
            simp only [putA, List.set]
            refine wpAnyH_ready (rs := [20]) (by kernel_rfl) (by simp) ?_
            refine AllReadyH.cons rfl (fun K hK => ?_) AllReadyH.nil
            go_simp
            refine hK.out _ _ ?_ (fun hHeld => ?_)
            · exact ⟨(HSQ.out _ _ _ _ _ (by omega)).trans ((HSQ.out _ _ _ _ _ (by omega)).trans hHeld4.1), (HSQ.out _ _ _ _ _ (by omega)).trans ((HSQ.out _ _ _ _ _ (by omega)).trans hHeld4.2.1), (HSQ.out _ _ _ _ _ (by omega)).trans ((HSQ.out _ _ _ _ _ (by omega)).trans hHeld4.2.2.1), (HSQ.out _ _ _ _ _ (by omega)).trans ((HSQ.out _ _ _ _ _ (by omega)).trans hHeld4.2.2.2.1), (HSQ.out _ _ _ _ _ (by omega)).trans ((HSQ.out _ _ _ _ _ (by omega)).trans hHeld4.2.2.2.2.1), (HSQ.out _ _ _ _ _ (by omega)).trans ((HSQ.out _ _ _ _ _ (by omega)).trans hHeld4.2.2.2.2.2)⟩
            clear hK K
            refine wpAnyH_done (by kernel_rfl) ?_ _
            clear hHeld hHeld2 hHeld3 hHeld4 bA bB bC bA0 bA1 bB0 bB1 bC0 bC1
            go_wp2
            go_roundw
            case rel =>
              refine ⟨1 + 1, by omega, by go_num, kn, by omega, ?_⟩
              have hdd : dirS g f ti t.parent E0 1 D = { D with E := setE D.E 1 (t.parent, ⟨#[46, 46]⟩) } := HDS.out
              rw [HNX.out, hdd]
              exact ((HI.out.below ((((Below.refl _ wr).alloc (Nat.le_refl _) _).alloc (by simp) _).alloc (by simp; omega) _)).entry dA (by omega) _ _).below (Below.refl _ _).drew
            case measure => simp [intOf]
        · have hk2' : ¬ ((k : Int) < 2) := by omega
          have hPx : D.ins x = none → Plain g f x := fun hnone => by
            rcases hPl k (by omega) hlt with h1 | h1
            · exfalso
              obtain ⟨adr', tk', _, h2, h3⟩ := hI.ms
              rw [hx, h1, h2 ti, h3] at hnone
              simp at hnone
            · rw [hx]; exact h1
          have SC := stays_c g b o N cap f X CB IB (M + 10 * k) _ way D.c D.ins ti TB (wr.alloc (.cells #[.int .i64 (x : Int), .string s] 43)) (hI.ms.below ((Below.refl _ _).alloc (Nat.le_refl _) _)) w.heap.size x kn s D.nm (hI.nm.alloc _) (by unfold strOk maxLen; omega) (by unfold natOk; omega) (by omega) hPx
          have hI1 := hI.below ((Below.refl _ wr).alloc (Nat.le_refl _) (.cells #[.int .i64 (x : Int), .string s] 43))
          have HD := Lib.hid hD; have HX := Lib.hid hx; have HS := Lib.hid hs; have HNX := Lib.hid hnext; have HV3 := Lib.hid v3; have HI1 := Lib.hid hI1; have HRI := Lib.hid hI
          cases hst : stayF g f ti D.c D.ins D.nm x s with
          | none =>
            have hdS : dirS g f ti t.parent E0 k D = { D with E := setE D.E k (0, ⟨#[]⟩) } := by unfold dirS; rw [if_neg hk2, ← HX.out, ← HS.out, hst]
            rw [hst] at SC
            have HDS := Lib.hid hdS
            clear hD hx hs hnext v3 hI1 hI hdS hst hPx hEk
            go_wp2_with (go_at_call 55; refine SC.mono ?_; rintro e w2 ⟨hno, -⟩; obtain ⟨rfl, hb2⟩ := hno rfl; obtain ⟨hc2, hf2⟩ := bcell hb2; have hz2 : wr.heap.size < w2.heap.size := by (have := hb2.size; simp at this; omega))
            go_roundw
            case rel =>
              refine ⟨k + 1, by omega, by go_num, kn, by omega, ?_⟩
              rw [HNX.out, HDS.out]
              exact (HI1.out.below hb2).entry dA hlt 0 ⟨#[]⟩
            case measure => simp [intOf]; omega
          | some r =>
            have hdS : dirS g f ti t.parent E0 k D = { D with c := r.1, ins := r.2, nm := fun s' => D.nm s' || decide (s' = s) } := by unfold dirS; rw [if_neg hk2, ← HX.out, ← HS.out, hst]
            rw [hst] at SC
            have HDS := Lib.hid hdS
            clear hD hx hs hnext v3 hI1 hI hdS hst hPx hEk
            go_wp2_with (first
              | go_at_call 55
                refine SC.mono ?_
                rintro e w2 ⟨-, hyes⟩
                obtain ⟨rfl, hms2, hm2⟩ := hyes r rfl
                have hI2 := HI1.out.step dA hm2 (fun i h _ => h) (k2 := k + 1) (by rw [show M + 10 * (k + 1) = M + 10 * k + 10 by omega]; exact hms2)
                have hbx0 : Blk 43 (wr.alloc (.cells #[.int .i64 (x : Int), .string s] 43)) wr.heap.size [.int .i64 (x : Int), .string s] := Blk.newL _
                have hbx : Blk 43 w2 wr.heap.size [.int .i64 (x : Int), .string s] := hbx0.mods hm2 (fun e => by
                  rcases e with e | e | ⟨⟨ys, fr, e⟩, _⟩
                  · have := dA.c; omega
                  · have := dA.i; omega
                  · rw [show (wr.alloc _).heap[wr.heap.size]? = _ from hbx0] at e; exact absurd (tag_inj e) (by decide))
                have hbc := hbx.cell 1
                simp only [List.getElem?_cons_zero, List.getElem?_cons_succ] at hbc
                have hbl := hbx.lt
                obtain ⟨w6, hst6, hnm6, hm6, hz6⟩ := name_store hI2.nm (by omega) (s := s) (by unfold strOk maxLen; omega)
                have HI2 := Lib.hid hI2; have HZ6 := Lib.hid hz6
                clear hI2 hz6 hbx0 hbx)
            go_roundw
            case rel =>
              refine ⟨k + 1, by omega, by go_num, kn + 1, by omega, ?_⟩
              rw [HNX.out, HDS.out]
              exact HI2.out.named dA hm6 hnm6
            case measure => simp [intOf]; omega
      · obtain rfl : k = 32 := by omega
        have hoks := dirF_ok g f ti t.parent E0 D0 hti0 hpar0 (by rw [HD0.out]; exact hEok) 32
        rw [← hD] at hoks
        have PB := pblock_c lb 32 lcap D.E wr rfl hoks hI.ro.rd
        obtain ⟨adr2, tk2, hA2, hi2, ha2⟩ := hI.ms
        have hGb := (hI.ow.lt G rfl).1
        have HD := Lib.hid hD; have HI := Lib.hid hI
        have XC := fun W (h4 : W.cell? ⟨X, 4, none⟩ = some (.slice (some ⟨G, 0, none⟩) N capo)) hg (B6 c6 : Nat) (hr : RdB W B6 0 1024 (pbF D.E 32)) => xput_c X B6 0 c6 G (b + 1) N capo d fo (pbF D.E 32) W h4 hg (by omega) hcapo (by omega) hr
        have hx4 : wr.cell? ⟨X, 4, none⟩ = some (.slice (some ⟨G, 0, none⟩) N capo) := hA2.men.cell 4
        have lX := hA2.men.lt
        clear hD hI hoks hA2 hi2
        go_wp2_with (first
          | go_at_call 56
            refine PB.mono ?_
            rintro e w6 ⟨B6, c6, rfl, hown6, hb6⟩
            have hlk := HL0 w6 (MapG.below HI.out.am hb6 HI.out.am.lt)
            obtain ⟨g6, cap6, he6, _, _, _, hr6⟩ := own_rd hown6 (by omega)
            cases he6
            have hx46 := (hb6.cell (p := ⟨X, 4, none⟩) lX).trans hx4
            have how6 := own_below HI.out.ow hb6
            have HO6 := Lib.hid hown6; have HB6 := Lib.hid hb6; have HR6 := Lib.hid hr6; have HW6 := Lib.hid how6
            clear hown6 hb6 hr6 how6
          | go_at_call 57
            refine (XC _ hx46 HW6.out _ _ HR6.out).mono ?_
            rintro e w7 ⟨rfl, hown7, hm7⟩)
        go_roundw
        case rel =>
          refine .inr ⟨by go_num, ?_⟩
          have e : DF = D := by rw [HDF.out, HD.out, HD0.out, HT2.out]
          rw [HFIN.out, e]
          have hI6 := HI.out.below HB6.out
          obtain ⟨ys, fr, htg⟩ := own_tag hI6.ow
          obtain ⟨adr3, tk3, hA3, _⟩ := id hI6.ms
          refine ⟨hI6.ms.keep hm7 (by omega) (fun e => ?_) (fun e => ?_) (fun e => ?_) (fun j hj _ => ?_), hown7, (hI6.md.mono (fun i _ h => Or.inl h)).trans hm7 (fun i _ e => .inr e)⟩
          · have := hA3.men
            rw [← e, show w6.heap[X]? = _ from this] at htg
            exact absurd (tag_inj htg) (by decide)
          · subst e; exact not_map hA3.cl htg
          · subst e; exact not_map hA3.im htg
          · rintro ⟨ys2, fr2, h2⟩
            subst hj
            rcases h2 with h2 | h2 <;> (rw [htg] at h2; exact absurd (tag_inj h2) (by decide))
        case measure => simp [intOf]
end Go.Proofs.YtbeabehebenocaaGreatDoor
end

section
/- mend: nothing is given up where no pointer lies behind the end. -/
namespace Go.Proofs.YtbeabehebenocaaGreatDoor
open Go.RowKit

theorem takein_c (MB XB m : Nat) (p : Ptr) (w : World) (h : w.cell? ⟨MB, 0, none⟩ = some (.int .i64 (m : Nat))) (hp : p.first < m) :
    Calls Tryz.prog 75 #[.agg #[.int .i64 p.lv, .int .i64 (p.n : Nat), .int .i64 (p.first : Nat), .int .i64 (p.tgt : Nat)], .pointer (some ⟨MB, 0, none⟩), .pointer (some ⟨XB, 0, none⟩)] w fun e w' => e = .returned (.bool false) ∧ Below w.heap.size w w' := by
  have hl := lt_of_cell h
  have h1 : ¬ ((m : Int) ≤ (p.first : Int)) := by omega
  go_enter Tryz.func75, Tryz.ntmps75
  go_wp2
  go_ret
  exact ⟨rfl, (Below.refl _ _).alloc (Nat.le_refl _) _⟩

set_option maxRecDepth 100000 in
set_option maxHeartbeats 2000000 in
theorem index_c (MB XB m cap : Nat) (A : Option Addr) (L : List Ptr) (w : World) (hL : L.length ≤ 1000000) (h : w.cell? ⟨MB, 0, none⟩ = some (.int .i64 (m : Nat))) (hp : ∀ p ∈ L, p.first < m)
    (hr : ∀ k p, L[k]? = some p → ∃ b, A = some ⟨b, 0, none⟩ ∧ b < w.heap.size ∧ w.cell? ⟨b, k * 4, none⟩ = some (.int .i64 p.lv) ∧ w.cell? ⟨b, k * 4 + 1, none⟩ = some (.int .i64 (p.n : Nat)) ∧ w.cell? ⟨b, k * 4 + 2, none⟩ = some (.int .i64 (p.first : Nat)) ∧ w.cell? ⟨b, k * 4 + 3, none⟩ = some (.int .i64 (p.tgt : Nat))) :
    Calls Tryz.prog 98 #[.slice A L.length cap, .func (.func 75) #[] #[.pointer (some ⟨MB, 0, none⟩), .pointer (some ⟨XB, 0, none⟩)]] w fun e w' => e = .returned (.int .i64 (-1)) ∧ Below w.heap.size w w' := by
  obtain ⟨n, hn⟩ : ∃ n, n = L.length := ⟨_, rfl⟩
  rw [← hn] at hL ⊢
  have hl := lt_of_cell h
  have HN := Lib.hid hn; have HR := Lib.hid hr; have H := Lib.hid h
  clear hn hr h
  go_enter Tryz.func98, Tryz.ntmps98
  go_wp2
  go_loopw [5, 8] (fun _ i' wr => ∃ k : Nat, k ≤ n ∧ i' = .int .i64 k ∧ Below w.heap.size w wr) (fun _ i' _ => n - (intOf i').toNat)
  case atStart => exact ⟨0, by omega, rfl, Below.refl _ _⟩
  case round =>
    obtain ⟨k, hk, rfl, hB⟩ := hrel
    have hs := hB.size
    by_cases hlt : k < n
    · obtain ⟨p, hpk⟩ : ∃ p, L[k]? = some p := ⟨L[k]'(by rw [← HN.out]; exact hlt), List.getElem?_eq_getElem _⟩
      obtain ⟨b, rfl, hbl, c0, c1, c2, c3⟩ := HR.out k p hpk
      have hpm := hp p (List.mem_of_getElem? hpk)
      have hc := fun q => (hB.cell (p := ⟨b, q, none⟩) hbl)
      have d0 := (hc _).trans c0; have d1 := (hc _).trans c1; have d2 := (hc _).trans c2; have d3 := (hc _).trans c3
      have hbl2 : b < wr.heap.size := by omega
      have TC := takein_c MB XB m p wr ((hB.cell (p := ⟨MB, 0, none⟩) hl).trans H.out) hpm
      clear c0 c1 c2 c3 hc hp hpk
      go_wp2_with (go_at_call 75; refine TC.mono ?_; rintro e w2 ⟨rfl, hb2⟩)
      go_roundw
      case rel => exact ⟨k + 1, by omega, by go_num, hB.trans (hb2.mono hs)⟩
      case measure => simp [intOf]; omega
    · obtain rfl : k = n := by omega
      go_wp2
      go_ret
      exact ⟨rfl, hB⟩

theorem delete_c (MB XB m cap : Nat) (A : Option Addr) (L : List Ptr) (w : World) (hL : L.length ≤ 1000000) (h : w.cell? ⟨MB, 0, none⟩ = some (.int .i64 (m : Nat))) (hp : ∀ p ∈ L, p.first < m)
    (hr : ∀ k p, L[k]? = some p → ∃ b, A = some ⟨b, 0, none⟩ ∧ b < w.heap.size ∧ w.cell? ⟨b, k * 4, none⟩ = some (.int .i64 p.lv) ∧ w.cell? ⟨b, k * 4 + 1, none⟩ = some (.int .i64 (p.n : Nat)) ∧ w.cell? ⟨b, k * 4 + 2, none⟩ = some (.int .i64 (p.first : Nat)) ∧ w.cell? ⟨b, k * 4 + 3, none⟩ = some (.int .i64 (p.tgt : Nat))) :
    Calls Tryz.prog 74 #[.slice A L.length cap, .func (.func 75) #[] #[.pointer (some ⟨MB, 0, none⟩), .pointer (some ⟨XB, 0, none⟩)]] w fun e w' => e = .returned (.slice A L.length cap) ∧ Below w.heap.size w w' := by
  have IC := index_c MB XB m cap A L w hL h hp hr
  clear hr hp
  go_enter Tryz.func74, Tryz.ntmps74
  go_wp2_with (go_at_call 98; refine IC.mono ?_; rintro e w2 ⟨rfl, hb2⟩)
  go_ret
  exact ⟨rfl, hb2⟩
end Go.Proofs.YtbeabehebenocaaGreatDoor
end
