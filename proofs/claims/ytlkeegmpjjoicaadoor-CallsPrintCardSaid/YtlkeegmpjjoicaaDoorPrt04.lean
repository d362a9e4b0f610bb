/- Part of the road to ClPrintCard: ClLawP, ClPrintRow. -/
import Derived.Test.YtlkeegmpjjoicaaDoorPrt03
import Derived.Test.YtlkeegmpjjoicaaDoorPrt02
set_option linter.all false
set_option linter.unusedSimpArgs false
set_option linter.unusedVariables false
set_option linter.unusedSectionVars false
section
/- CallsPrint, walked. -/
namespace Go.Proofs.YtlkeegmpjjoicaaDoor
open Go.RowKit

theorem print_ne (c : CV) (hk : known c.kind = true) : (baL (printL c)).size ≠ 0 := by
  rw [← sz, baL_toList]
  unfold printL piecesL
  rw [hk, if_pos rfl, Lib.join_length]
  have := wd_ne' hk
  intro e
  have h1 : (wd c.kind.toNat).data.toList.length = 0 := by
    simp only [Lib.lens, List.map_cons, List.sum_cons] at e; omega
  exact this (List.length_eq_zero_iff.1 h1)
theorem print_un (c : CV) (hk : known c.kind = false) : baL (printL c) = ⟨#[]⟩ := by unfold printL; rw [hk]; rfl
structure Ints (c : CV) : Prop where
  k : intOk c.kind
  o : intOk c.off
  n : intOk c.n
set_option maxRecDepth 100000 in
set_option maxHeartbeats 4000000 in
theorem law_print_far (c : CV) (va : Option Addr) (vc : Nat) (w : World) (hG : Gl w) (hfar : 2000 < c.path.size ∨ 2000 < c.to.size ∨ 10000 < c.dat.length) :
    Calls Tryd.prog 3 #[.agg #[.int .i64 c.kind, .string c.path, .string c.to, .int .i64 c.off, .int .i64 c.n, .slice va c.dat.length vc]] w fun e w' => e = .returned (.bool true) ∧ Below w.heap.size w w' := by
  obtain ⟨W1, hW1⟩ : ∃ W1, W1 = w.alloc (.cells #[.int .i64 c.kind, .string c.path, .string c.to, .int .i64 c.off, .int .i64 c.n, .slice va c.dat.length vc] 24) := ⟨_, rfl⟩
  have hb1 : Below w.heap.size w W1 := by rw [hW1]; exact (Below.refl _ _).alloc (Nat.le_refl _) _
  have hk1 : Blk 24 W1 w.heap.size (callL c (.slice va c.dat.length vc)) := by rw [hW1]; exact Blk.new w _
  have HG1 := Lib.hid (hG.below hb1); have HB1 := Lib.hid hb1; have HK1 := Lib.hid hk1; have HF := Lib.hid hfar
  rw [hW1] at HG1 HB1 HK1
  have ARM : True := trivial
  clear hG hb1 hk1 hfar hW1 W1
  rcases Nat.lt_or_ge 2000 c.path.size with h1 | h1
  · have t1 : decide (2000 < (c.path.size : Int)) = true := by simp; omega
    go_enter Tryd.func3, Tryd.ntmps3
    go_wp2_with (go_at_call 6; refine (alive_c _ HG1.out).mono ?_; rintro e w2 ⟨rfl, hb2⟩; have HB2 := Lib.hid (HB1.out.trans (hb2.mono (by simp))); have HK2 := Lib.hid (HK1.out.below hb2 (by simp)); have hl2 := HK2.out.lt; have c2_0 := HK2.out.cell 0; have c2_1 := HK2.out.cell 1; have c2_2 := HK2.out.cell 2; have c2_3 := HK2.out.cell 3; have c2_4 := HK2.out.cell 4; have c2_5 := HK2.out.cell 5; simp only [callL, List.getElem?_cons_zero, List.getElem?_cons_succ] at c2_0 c2_1 c2_2 c2_3 c2_4 c2_5; clear hb2)
    go_ret
    exact ⟨rfl, HB2.out⟩
  · have t1 : decide (2000 < (c.path.size : Int)) = false := by simp; omega
    rcases Nat.lt_or_ge 2000 c.to.size with h2 | h2
    · have t2 : decide (2000 < (c.to.size : Int)) = true := by simp; omega
      go_enter Tryd.func3, Tryd.ntmps3
      go_wp2_with (go_at_call 6; refine (alive_c _ HG1.out).mono ?_; rintro e w2 ⟨rfl, hb2⟩; have HB2 := Lib.hid (HB1.out.trans (hb2.mono (by simp))); have HK2 := Lib.hid (HK1.out.below hb2 (by simp)); have hl2 := HK2.out.lt; have c2_0 := HK2.out.cell 0; have c2_1 := HK2.out.cell 1; have c2_2 := HK2.out.cell 2; have c2_3 := HK2.out.cell 3; have c2_4 := HK2.out.cell 4; have c2_5 := HK2.out.cell 5; simp only [callL, List.getElem?_cons_zero, List.getElem?_cons_succ] at c2_0 c2_1 c2_2 c2_3 c2_4 c2_5; clear hb2)
      go_ret
      exact ⟨rfl, HB2.out⟩
    · have t2 : decide (2000 < (c.to.size : Int)) = false := by simp; omega
      have t3 : decide (10000 < (c.dat.length : Int)) = true := by have := HF.out; simp; omega
      go_enter Tryd.func3, Tryd.ntmps3
      go_wp2_with (go_at_call 6; refine (alive_c _ HG1.out).mono ?_; rintro e w2 ⟨rfl, hb2⟩; have HB2 := Lib.hid (HB1.out.trans (hb2.mono (by simp))); have HK2 := Lib.hid (HK1.out.below hb2 (by simp)); have hl2 := HK2.out.lt; have c2_0 := HK2.out.cell 0; have c2_1 := HK2.out.cell 1; have c2_2 := HK2.out.cell 2; have c2_3 := HK2.out.cell 3; have c2_4 := HK2.out.cell 4; have c2_5 := HK2.out.cell 5; simp only [callL, List.getElem?_cons_zero, List.getElem?_cons_succ] at c2_0 c2_1 c2_2 c2_3 c2_4 c2_5; clear hb2)
      go_ret
      exact ⟨rfl, HB2.out⟩
set_option maxRecDepth 100000 in
set_option maxHeartbeats 4000000 in
theorem law_print_near (c : CV) (hi : Ints c) (va : Option Addr) (vc : Nat) (w : World) (hG : Gl w) (hv : SlB w (.slice va c.dat.length vc) c.dat) (h1 : c.path.size ≤ 2000) (h2 : c.to.size ≤ 2000) (h3 : c.dat.length ≤ 10000) :
    Calls Tryd.prog 3 #[.agg #[.int .i64 c.kind, .string c.path, .string c.to, .int .i64 c.off, .int .i64 c.n, .slice va c.dat.length vc]] w fun e w' => e = .returned (.bool true) ∧ Below w.heap.size w w' := by
  have hc : Sized c := ⟨by omega, by omega, hi.o.1, hi.o.2, hi.n.1, hi.n.2, by omega⟩
  obtain ⟨W1, hW1⟩ : ∃ W1, W1 = w.alloc (.cells #[.int .i64 c.kind, .string c.path, .string c.to, .int .i64 c.off, .int .i64 c.n, .slice va c.dat.length vc] 24) := ⟨_, rfl⟩
  have hb1 : Below w.heap.size w W1 := by rw [hW1]; exact (Below.refl _ _).alloc (Nat.le_refl _) _
  have hk1 : Blk 24 W1 w.heap.size (callL c (.slice va c.dat.length vc)) := by rw [hW1]; exact Blk.new w _
  have HG1 := Lib.hid (hG.below hb1); have HB1 := Lib.hid hb1; have HK1 := Lib.hid hk1; have HV1 := Lib.hid (hv.below hb1)
  rw [hW1] at HG1 HB1 HK1 HV1
  have t1 : decide (2000 < (c.path.size : Int)) = false := by simp; omega
  have t2 : decide (2000 < (c.to.size : Int)) = false := by simp; omega
  have t3 : decide (10000 < (c.dat.length : Int)) = false := by simp; omega
  clear hG hb1 hk1 hv hW1 W1
  rcases known_ok (k := c.kind) with hk | hk
  · have hne := print_ne c hk
    have he := emptyIff (baL (printL c))
    rw [decide_eq_false hne] at he
    have he2 := toList_ne (baL (printL c)) hne
    have HK := Lib.hid hk
    clear hne hk
    go_enter Tryd.func3, Tryd.ntmps3
    go_wp2_with (first
      | (go_at_call 6; refine (alive_c _ HG1.out).mono ?_; rintro e w2 ⟨rfl, hb2⟩; have HB2 := Lib.hid (HB1.out.trans (hb2.mono (by simp))); have HK2 := Lib.hid (HK1.out.below hb2 (by simp)); have HG2 := Lib.hid (HG1.out.below hb2); have HV2 := Lib.hid (HV1.out.below hb2); have hl2 := HK2.out.lt; have c2_0 := HK2.out.cell 0; have c2_1 := HK2.out.cell 1; have c2_2 := HK2.out.cell 2; have c2_3 := HK2.out.cell 3; have c2_4 := HK2.out.cell 4; have c2_5 := HK2.out.cell 5; simp only [callL, List.getElem?_cons_zero, List.getElem?_cons_succ] at c2_0 c2_1 c2_2 c2_3 c2_4 c2_5; clear hb2)
      | (go_at_call 7; refine (print_c c hc hi.k (.slice va c.dat.length vc) _ HG2.out HV2.out).mono ?_; rintro e w3 ⟨rfl, hb2⟩; have HB3 := Lib.hid (HB2.out.trans (hb2.mono HB2.out.size)); have HK3 := Lib.hid (HK2.out.below hb2 hl2); have HG3 := Lib.hid (HG2.out.below hb2); have HV3 := Lib.hid (HV2.out.below hb2); have hl3 := HK3.out.lt; have c3_0 := HK3.out.cell 0; have c3_1 := HK3.out.cell 1; have c3_2 := HK3.out.cell 2; have c3_3 := HK3.out.cell 3; have c3_4 := HK3.out.cell 4; have c3_5 := HK3.out.cell 5; simp only [callL, List.getElem?_cons_zero, List.getElem?_cons_succ] at c3_0 c3_1 c3_2 c3_3 c3_4 c3_5; clear hb2)
      | (go_at_call 8; refine (rprint_c c hc (.slice va c.dat.length vc) _ HV3.out).mono ?_; rintro e w4 ⟨rfl, hb2⟩; have HB4 := Lib.hid (HB3.out.trans (hb2.mono HB3.out.size)); have HK4 := Lib.hid (HK3.out.below hb2 hl3); have HG4 := Lib.hid (HG3.out.below hb2); have HV4 := Lib.hid (HV3.out.below hb2); have hl4 := HK4.out.lt; clear hb2)
      | (go_at_call 9; refine (read_k c hc hi.k HK.out _ HG4.out).mono ?_; rintro e w5 ⟨ra, rc, rfl, hrv, hb2⟩; have HB5 := Lib.hid (HB4.out.trans (hb2.mono HB4.out.size)); have HK5 := Lib.hid (HK4.out.below hb2 hl4); have HV5 := Lib.hid (HV4.out.below hb2); have HR5 := Lib.hid hrv; have hl5 := HK5.out.lt; clear hb2 hrv))
    obtain ⟨W6, hW6⟩ : ∃ W6, W6 = w5.alloc (.cells #[.int .i64 (clearV c).kind, .string (clearV c).path, .string (clearV c).to, .int .i64 (clearV c).off, .int .i64 (clearV c).n, .slice ra (clearV c).dat.length rc] 24) := ⟨_, rfl⟩
    have hb6 : Below w5.heap.size w5 W6 := by rw [hW6]; exact (Below.refl _ _).alloc (Nat.le_refl _) _
    have hk6 := HK5.out.below hb6 hl5
    have hr6 : Blk 24 W6 w5.heap.size (callL (clearV c) (.slice ra (clearV c).dat.length rc)) := by rw [hW6]; exact Blk.new w5 _
    have hv6 := HV5.out.below hb6
    have hrv6 := HR5.out.below hb6
    have HB6 := Lib.hid (HB5.out.trans (hb6.mono HB5.out.size))
    rw [← hW6]
    clear hW6 hb6
    have p0 := hk6.cell 0; have p1 := hk6.cell 1; have p2 := hk6.cell 2; have p3 := hk6.cell 3; have p4 := hk6.cell 4; have p5 := hk6.cell 5
    have r0 := hr6.cell 0; have r1 := hr6.cell 1; have r2 := hr6.cell 2; have r3 := hr6.cell 3; have r4 := hr6.cell 4; have r5 := hr6.cell 5
    simp only [callL, List.getElem?_cons_zero, List.getElem?_cons_succ] at p0 p1 p2 p3 p4 p5 r0 r1 r2 r3 r4 r5
    have hlk := hk6.lt; have hlr := hr6.lt
    refine wp_calm ?_
    have hq : (fun (w' : World) => w'.cell? ⟨w.heap.size, 0, none⟩ = some (.int .i64 c.kind) ∧ w'.cell? ⟨w.heap.size, 1, none⟩ = some (.string c.path) ∧ w'.cell? ⟨w.heap.size, 2, none⟩ = some (.string c.to) ∧ w'.cell? ⟨w.heap.size, 3, none⟩ = some (.int .i64 c.off) ∧ w'.cell? ⟨w.heap.size, 4, none⟩ = some (.int .i64 c.n) ∧ w'.cell? ⟨w.heap.size, 5, none⟩ = some (.slice va c.dat.length vc) ∧ w'.cell? ⟨w5.heap.size, 0, none⟩ = some (.int .i64 (clearV c).kind) ∧ w'.cell? ⟨w5.heap.size, 1, none⟩ = some (.string (clearV c).path) ∧ w'.cell? ⟨w5.heap.size, 2, none⟩ = some (.string (clearV c).to) ∧ w'.cell? ⟨w5.heap.size, 3, none⟩ = some (.int .i64 (clearV c).off) ∧ w'.cell? ⟨w5.heap.size, 4, none⟩ = some (.int .i64 (clearV c).n) ∧ w'.cell? ⟨w5.heap.size, 5, none⟩ = some (.slice ra (clearV c).dat.length rc)) W6.drew := ⟨p0, p1, p2, p3, p4, p5, r0, r1, r2, r3, r4, r5⟩
    refine wp_region_held_drew (S := (fun (w' : World) => w'.cell? ⟨w.heap.size, 0, none⟩ = some (.int .i64 c.kind) ∧ w'.cell? ⟨w.heap.size, 1, none⟩ = some (.string c.path) ∧ w'.cell? ⟨w.heap.size, 2, none⟩ = some (.string c.to) ∧ w'.cell? ⟨w.heap.size, 3, none⟩ = some (.int .i64 c.off) ∧ w'.cell? ⟨w.heap.size, 4, none⟩ = some (.int .i64 c.n) ∧ w'.cell? ⟨w.heap.size, 5, none⟩ = some (.slice va c.dat.length vc) ∧ w'.cell? ⟨w5.heap.size, 0, none⟩ = some (.int .i64 (clearV c).kind) ∧ w'.cell? ⟨w5.heap.size, 1, none⟩ = some (.string (clearV c).path) ∧ w'.cell? ⟨w5.heap.size, 2, none⟩ = some (.string (clearV c).to) ∧ w'.cell? ⟨w5.heap.size, 3, none⟩ = some (.int .i64 (clearV c).off) ∧ w'.cell? ⟨w5.heap.size, 4, none⟩ = some (.int .i64 (clearV c).n) ∧ w'.cell? ⟨w5.heap.size, 5, none⟩ = some (.slice ra (clearV c).dat.length rc))) (by kernel_rfl) hq (fun hHeld => ?_)
    refine wpAnyH_take (i := 0) (oi := ⟨_, _, _, _, _, _⟩) (v := ?_) rfl (by kernel_rfl) (by kernel_rfl) (by kernel_rfl) (fun _ _ _ h => h) (Or.inl ⟨by kernel_rfl, ?_⟩) (by assumption) ?_
    rotate_left
    · (intro w hSw; (try dsimp only at hSw); go_simp; first | done | with_reducible rfl)
    simp only [Act.put, List.setIfInBounds_toArray, List.set_cons_zero, List.set_cons_succ]
    refine wpAnyH_ready (rs := [1]) (by kernel_rfl) (by simp) ?_
    refine AllReadyH.cons rfl (fun K hK => ?_) AllReadyH.nil
    go_simp
    refine (num_c _ _).mono ?_
    rintro e w7 ⟨rfl, rfl⟩
    refine hK.out _ _ ?_ (fun hHeld => ?_)
    · exact hq
    clear hK K
    refine wpAnyH_take (i := 2) (oi := ⟨_, _, _, _, _, _⟩) (v := ?_) rfl (by kernel_rfl) (by kernel_rfl) (by kernel_rfl) (fun _ _ _ h => h) (Or.inl ⟨by kernel_rfl, ?_⟩) (by assumption) ?_
    rotate_left
    · (intro w hSw; (try dsimp only at hSw); go_simp; first | done | with_reducible rfl)
    simp only [Act.put, List.setIfInBounds_toArray, List.set_cons_zero, List.set_cons_succ]
    refine wpAnyH_take (i := 3) (oi := ⟨_, _, _, _, _, _⟩) (v := ?_) rfl (by kernel_rfl) (by kernel_rfl) (by kernel_rfl) (fun _ _ _ h => h) (Or.inl ⟨by kernel_rfl, ?_⟩) (by assumption) ?_
    rotate_left
    · (intro w hSw; (try dsimp only at hSw); go_simp; first | done | with_reducible rfl)
    simp only [Act.put, List.setIfInBounds_toArray, List.set_cons_zero, List.set_cons_succ]
    refine wpAnyH_take (i := 4) (oi := ⟨_, _, _, _, _, _⟩) (v := ?_) rfl (by kernel_rfl) (by kernel_rfl) (by kernel_rfl) (fun _ _ _ h => h) (Or.inl ⟨by kernel_rfl, ?_⟩) (by assumption) ?_
    rotate_left
    · (intro w hSw; (try dsimp only at hSw); go_simp; first | done | with_reducible rfl)
    simp only [Act.put, List.setIfInBounds_toArray, List.set_cons_zero, List.set_cons_succ]
    refine wpAnyH_take (i := 5) (oi := ⟨_, _, _, _, _, _⟩) (v := ?_) rfl (by kernel_rfl) (by kernel_rfl) (by kernel_rfl) (fun _ _ _ h => h) (Or.inl ⟨by kernel_rfl, ?_⟩) (by assumption) ?_
    rotate_left
    · (intro w hSw; (try dsimp only at hSw); go_simp; first | done | with_reducible rfl)
    simp only [Act.put, List.setIfInBounds_toArray, List.set_cons_zero, List.set_cons_succ]
    refine wpAnyH_ready (rs := [6]) (by kernel_rfl) (by simp) ?_
    refine AllReadyH.cons rfl (fun K hK => ?_) AllReadyH.nil
    go_simp
    refine (clear_c c HK.out va vc W6.drew hv6).mono ?_
    rintro e w7 ⟨v', rfl, hv7, hb7⟩
    have hb7' := below_undrew hb7
    have hq7 : (fun (w' : World) => w'.cell? ⟨w.heap.size, 0, none⟩ = some (.int .i64 c.kind) ∧ w'.cell? ⟨w.heap.size, 1, none⟩ = some (.string c.path) ∧ w'.cell? ⟨w.heap.size, 2, none⟩ = some (.string c.to) ∧ w'.cell? ⟨w.heap.size, 3, none⟩ = some (.int .i64 c.off) ∧ w'.cell? ⟨w.heap.size, 4, none⟩ = some (.int .i64 c.n) ∧ w'.cell? ⟨w.heap.size, 5, none⟩ = some (.slice va c.dat.length vc) ∧ w'.cell? ⟨w5.heap.size, 0, none⟩ = some (.int .i64 (clearV c).kind) ∧ w'.cell? ⟨w5.heap.size, 1, none⟩ = some (.string (clearV c).path) ∧ w'.cell? ⟨w5.heap.size, 2, none⟩ = some (.string (clearV c).to) ∧ w'.cell? ⟨w5.heap.size, 3, none⟩ = some (.int .i64 (clearV c).off) ∧ w'.cell? ⟨w5.heap.size, 4, none⟩ = some (.int .i64 (clearV c).n) ∧ w'.cell? ⟨w5.heap.size, 5, none⟩ = some (.slice ra (clearV c).dat.length rc)) w7 := by
      have g : ∀ b o, b < W6.heap.size → w7.cell? ⟨b, o, none⟩ = W6.cell? ⟨b, o, none⟩ := fun b o h => hb7'.cell (p := ⟨b, o, none⟩) h
      exact ⟨(g _ _ hlk).trans p0, (g _ _ hlk).trans p1, (g _ _ hlk).trans p2, (g _ _ hlk).trans p3, (g _ _ hlk).trans p4, (g _ _ hlk).trans p5, (g _ _ hlr).trans r0, (g _ _ hlr).trans r1, (g _ _ hlr).trans r2, (g _ _ hlr).trans r3, (g _ _ hlr).trans r4, (g _ _ hlr).trans r5⟩
    refine hK.out _ _ ?_ (fun hHeld => ?_)
    · exact hq7
    clear hK K
    refine wpAnyH_ready (rs := [7]) (by kernel_rfl) (by simp) ?_
    refine AllReadyH.cons rfl (fun K hK => ?_) AllReadyH.nil
    go_simp
    refine (same_c (clearV c) _ v' w7 (hrv6.below hb7') hv7).mono ?_
    rintro e w8 ⟨rfl, hb8⟩
    refine hK.out _ _ ?_ (fun hHeld => ?_)
    · have g : ∀ b o, b < w7.heap.size → w8.cell? ⟨b, o, none⟩ = w7.cell? ⟨b, o, none⟩ := fun b o h => hb8.cell (p := ⟨b, o, none⟩) h
      have l7 := hb7'.size
      obtain ⟨a0, a1, a2, a3, a4, a5, b0, b1, b2, b3, b4, b5⟩ := hq7
      exact ⟨(g _ _ (by omega)).trans a0, (g _ _ (by omega)).trans a1, (g _ _ (by omega)).trans a2, (g _ _ (by omega)).trans a3, (g _ _ (by omega)).trans a4, (g _ _ (by omega)).trans a5, (g _ _ (by omega)).trans b0, (g _ _ (by omega)).trans b1, (g _ _ (by omega)).trans b2, (g _ _ (by omega)).trans b3, (g _ _ (by omega)).trans b4, (g _ _ (by omega)).trans b5⟩
    clear hK K
    refine wpAnyH_take (i := 8) (oi := ⟨_, _, _, _, _, _⟩) (v := ?_) rfl (by kernel_rfl) (by kernel_rfl) (by kernel_rfl) (fun _ _ _ h => h) (Or.inl ⟨by kernel_rfl, ?_⟩) (by assumption) ?_
    rotate_left
    · (intro w hSw; (try dsimp only at hSw); go_simp; first | done | with_reducible rfl)
    simp only [Act.put, List.setIfInBounds_toArray, List.set_cons_zero, List.set_cons_succ]
    refine wpAnyH_take (i := 9) (oi := ⟨_, _, _, _, _, _⟩) (v := ?_) rfl (by kernel_rfl) (by kernel_rfl) (by kernel_rfl) (fun _ _ _ h => h) (Or.inl ⟨by kernel_rfl, ?_⟩) (by assumption) ?_
    rotate_left
    · (intro w hSw; (try dsimp only at hSw); go_simp; first | done | with_reducible rfl)
    simp only [Act.put, List.setIfInBounds_toArray, List.set_cons_zero, List.set_cons_succ]
    refine wpAnyH_done (by kernel_rfl) ?_ _
    refine calm_of ?_
    go_wp2
    go_ret
    exact ⟨rfl, HB6.out.trans ((hb7'.mono HB6.out.size).trans (hb8.mono (by have := HB6.out.size; have := hb7'.size; omega)))⟩
  · have hu := print_un c hk
    have hemp2 : (baL (printL c)).toList = [] := by rw [hu, ByteArray.toList_eq]
    have hemp3 : ((baL (printL c)).toList == []) = true := by rw [hemp2]; rfl
    have hemp : (baL (printL c)).toList.isEmpty = true := by rw [hemp2]; rfl
    have HU := Lib.hid hu; have HK := Lib.hid hk
    clear hu hk
    go_enter Tryd.func3, Tryd.ntmps3
    go_wp2_with (first
      | (go_at_call 6; refine (alive_c _ HG1.out).mono ?_; rintro e w2 ⟨rfl, hb2⟩; have HB2 := Lib.hid (HB1.out.trans (hb2.mono (by simp))); have HK2 := Lib.hid (HK1.out.below hb2 (by simp)); have HG2 := Lib.hid (HG1.out.below hb2); have HV2 := Lib.hid (HV1.out.below hb2); have hl2 := HK2.out.lt; have c2_0 := HK2.out.cell 0; have c2_1 := HK2.out.cell 1; have c2_2 := HK2.out.cell 2; have c2_3 := HK2.out.cell 3; have c2_4 := HK2.out.cell 4; have c2_5 := HK2.out.cell 5; simp only [callL, List.getElem?_cons_zero, List.getElem?_cons_succ] at c2_0 c2_1 c2_2 c2_3 c2_4 c2_5; clear hb2)
      | (go_at_call 7; refine (print_c c hc hi.k (.slice va c.dat.length vc) _ HG2.out HV2.out).mono ?_; rintro e w3 ⟨rfl, hb2⟩; have HB3 := Lib.hid (HB2.out.trans (hb2.mono HB2.out.size)); have HK3 := Lib.hid (HK2.out.below hb2 hl2); have HG3 := Lib.hid (HG2.out.below hb2); have HV3 := Lib.hid (HV2.out.below hb2); have hl3 := HK3.out.lt; have c3_0 := HK3.out.cell 0; have c3_1 := HK3.out.cell 1; have c3_2 := HK3.out.cell 2; have c3_3 := HK3.out.cell 3; have c3_4 := HK3.out.cell 4; have c3_5 := HK3.out.cell 5; simp only [callL, List.getElem?_cons_zero, List.getElem?_cons_succ] at c3_0 c3_1 c3_2 c3_3 c3_4 c3_5; clear hb2)
      | (go_at_call 8; refine (rprint_c c hc (.slice va c.dat.length vc) _ HV3.out).mono ?_; rintro e w4 ⟨rfl, hb2⟩; have HB4 := Lib.hid (HB3.out.trans (hb2.mono HB3.out.size)); have HK4 := Lib.hid (HK3.out.below hb2 hl3); have HG4 := Lib.hid (HG3.out.below hb2); have HV4 := Lib.hid (HV3.out.below hb2); have hl4 := HK4.out.lt; clear hb2)
      | (go_at_call 9; refine (read_u c hc hi.k HK.out _ HG4.out).mono ?_; rintro e w5 ⟨rfl, hb2⟩; have HB5 := Lib.hid (HB4.out.trans (hb2.mono HB4.out.size)); clear hb2)
      | (go_at_call 10; refine (num_c _ _).mono ?_; rintro e w6 ⟨rfl, rfl⟩))
    go_ret
    exact ⟨rfl, HB5.out.alloc HB5.out.size _⟩
end Go.Proofs.YtlkeegmpjjoicaaDoor
end

section
/- CallsPrint answers true for every call, and the call reads as it did. No condition beyond the tables. -/
namespace Go.Proofs.YtlkeegmpjjoicaaDoor
open Go.ChangeShapes Go.WideShapes Go.ChangeAt Go.RowKit
set_option maxRecDepth 100000

theorem print_any (c : CV) (hi : Ints c) (va : Option Addr) (vc : Nat) (w : World) (hG : Gl w) (hv : SlB w (.slice va c.dat.length vc) c.dat) :
    Calls Tryd.prog 3 #[.agg #[.int .i64 c.kind, .string c.path, .string c.to, .int .i64 c.off, .int .i64 c.n, .slice va c.dat.length vc]] w fun e w' => e = .returned (.bool true) ∧ Below w.heap.size w w' := by
  by_cases h : 2000 < c.path.size ∨ 2000 < c.to.size ∨ 10000 < c.dat.length
  · exact law_print_far c va vc w hG h
  · exact law_print_near c hi va vc w hG hv (by omega) (by omega) (by omega)

theorem printLifted (os : Os) (started : os.Started) (H : Type) (enc : TypeId × Value → H) :
    ReturnsInHanded {} Tryd.checked os 3 .any (fun w args => (Rows.callsPrintSpec.pre enc Tryd.prog Tryd.f3 Rows.callsPrintRow.domain false w args ∧ laidMet Tryd.prog laidL w) ∧ sizedMet enc Tryd.prog Tryd.f3 (OpenSpec.ofChange Rows.callsPrintSpec) false w args)
      (Rows.callsPrintSpec.post enc Tryd.prog Tryd.f3 false true false false) := by
  refine returnsInHanded_of_change_and_shaped (C := Tryd.checked) (X := fun w _ => laidMet Tryd.prog laidL w) (fun _ _ _ hh h => h.of_heap hh) ownKnobNone started (by kernel_rfl) Tryd.func3
    (ChangeSpec.witness_at (enc := enc) (C := Tryd.checked) (os := os) (X := fun w _ => laidMet Tryd.prog laidL w) false (laidWorld os) #[.agg #[.int .i64 0, .string ⟨#[]⟩, .string ⟨#[]⟩, .int .i64 0, .int .i64 0, .slice none 0 0]] 8 rfl (by kernel_rfl) (by kernel_rfl) (by kernel_rfl) (by kernel_rfl) (by kernel_rfl) (laidMet_of_run' 8 (by kernel_rfl) (by kernel_rfl))) ?_
  intro W base args ds gs before hval0 hW hL hsh
  have hval : ∀ (j : Nat) t v, Tryd.f3.params[j]? = some t → args[j]? = some v → Value.okWide Tryd.prog W .any base t v := hval0
  have hW' := hW
  have hlt := fun p hp => hW'.lt p hp
  obtain ⟨p, q, hA0, hV, rfl, hfz, hnd⟩ := hW
  have hA : DataW.TrodAll enc Tryd.prog W 0 (fun _ => true) true Tryd.f3.params.toList args.toList ds p := hA0
  rw [Tryd.params3] at hA hval
  obtain ⟨v0, vs0, d0, ds0, p0, q0, hargs, rfl, rfl, h0, r0⟩ := trodAll_cons hA
  obtain ⟨rfl, rfl, rfl⟩ := trodAll_nil r0
  obtain rfl : args = #[v0] := by cases args; simp_all
  obtain ⟨rfl, rfl⟩ := trodVars_none hV
  obtain ⟨c, va, vc, rfl, wk, wo, wn, hs⟩ := open_call (hval 0 24 v0 rfl rfl) h0
  clear hA0 hval0
  simp only [List.append_nil] at hW' hlt
  refine (print_any c ⟨wk, wo, wn⟩ va vc W (gl_of hsh hL) hs).mono fun e W' ⟨he, hb⟩ => ?_
  subst he
  refine ⟨_, rfl, still_post (pa := _) hW' hb (fun _ _ _ => trodAll_mk1 (shut_bool Tryd.underlying4 true)) (fun sp hsp => ?_) (fun _ _ => rfl) (ok_one (by kernel_rfl) rfl (okWide_bool_mk Tryd.underlying4 true))⟩
  exact trodAll_mk1 (WideElems.Trod_stays laidOut (by kernel_rfl) (of_decide_eq_true (by kernel_rfl)) h0 (fun x hx => hb.same (hlt x hx)) hsp)

theorem print_said : Rows.CallsPrintSaid :=
  OpenClaim.holds_of_wide 3 Tryd.f3 rfl rfl rfl rfl rfl rfl rfl ⟨rfl, rfl, rfl, rfl, rfl⟩ rfl rfl rfl rfl rfl (by kernel_rfl) Tryd.func3 (by kernel_rfl)
    (of_decide_eq_true (by kernel_rfl)) (by unfold Func.isWrapper; first | (rw [if_pos (by decide +kernel)]; kernel_rfl) | (rw [if_neg (by decide +kernel)]; exact ⟨rfl, rfl⟩))
    (fun os started H enc _ => printLifted os started H enc)
end Go.Proofs.YtlkeegmpjjoicaaDoor
end
