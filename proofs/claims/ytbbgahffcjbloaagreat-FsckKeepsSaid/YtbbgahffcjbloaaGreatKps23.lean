/- Part of the road to KeepsRow: RSame, KpP, KpY. -/
import Derived.Test.YtbbgahffcjbloaaGreatKps22
import Derived.Test.YtbbgahffcjbloaaGreatKps14
set_option linter.all false
set_option linter.unusedSimpArgs false
set_option linter.unusedVariables false
set_option linter.unusedSectionVars false
section
/- Two trees that are alike: lockgateref20.Same says so. -/
namespace Go.Proofs.YtbbgahffcjbloaaGreat
open Go.RowKit
theorem ndV_get : ∀ (ps : List (Nd × (Value × Value))) (i : Nat) (p : Nd × (Value × Value)), ps[i]? = some p → ∀ k, k < 6 → (ps.flatMap fun p => ndV p.1 p.2)[i * 6 + k]? = (ndV p.1 p.2)[k]?
  | [], i, p, h, k, hk => by simp at h
  | q :: ps, 0, p, h, k, hk => by
    simp only [List.getElem?_cons_zero, Option.some.injEq] at h
    subst h
    rw [List.flatMap_cons, List.getElem?_append_left (by simp [ndV]; omega)]
    congr 1
    omega
  | q :: ps, i + 1, p, h, k, hk => by
    rw [List.getElem?_cons_succ] at h
    rw [List.flatMap_cons, List.getElem?_append_right (by simp [ndV]; omega), ← ndV_get ps i p h k hk]
    congr 1
    simp [ndV]; omega
theorem NodesAt.form {w : World} {base : Nat} {v : Value} {l : List Nd} (h : NodesAt w base v l) : ∃ A c, v = .slice A l.length c := by
  obtain ⟨xs, _, h, _⟩ := h
  exact own_form h
/-- one node's cells -/
theorem NodesAt.node {w : World} {base n c : Nat} {A : Option Addr} {l : List Nd} (h : NodesAt w base (.slice A n c) l) (i : Nat) (nd : Nd) (hi : l[i]? = some nd) : ∃ G x, A = some ⟨G, 0, none⟩ ∧ G < w.heap.size ∧ (∀ k, k < 6 → w.cell? ⟨G, i * 6 + k, none⟩ = (ndV nd x)[k]?) ∧ NodeAt w base nd x := by
  obtain ⟨xs, hx1, ho, hx3⟩ := h
  have hl := (List.getElem?_eq_some_iff.1 hi).1
  obtain ⟨x, hx⟩ : ∃ x, xs[i]? = some x := ⟨_, List.getElem?_eq_getElem (by omega)⟩
  obtain ⟨G, c2, hA, _⟩ := own_some ho (by omega)
  cases hA
  have hz : (l.zip xs)[i]? = some (nd, x) := by rw [List.getElem?_zip_eq_some]; exact ⟨hi, hx⟩
  refine ⟨G, x, rfl, row_lt ho rfl, fun k hk => ?_, hx3 i nd x hi hx⟩
  have hk6 : k < (ndV nd x).length := hk
  have h1 : (ndV nd x)[k]? = some ((ndV nd x)[k]) := List.getElem?_eq_getElem hk6
  have h2 := ndV_get (l.zip xs) i (nd, x) hz k hk
  rw [h1] at h2 ⊢
  exact own_at ho h2
set_option maxRecDepth 1000000 in
set_option maxHeartbeats 8000000 in
theorem rsame_c (w : World) (v v' : Value) (l : List Nd) (h : NodesAt w 0 v l) (h' : NodesAt w 0 v' l) (hl : l.length ≤ 100000) (hby : ∀ nd ∈ l, ∀ p ∈ nd.blocks, ∀ j, p.2 j < 256) :
    Calls Tryz.prog 18 #[v, v'] w fun e w' => e = .returned (.bool true) ∧ Below w.heap.size w w' := by
  obtain ⟨A, c, rfl⟩ := h.form
  obtain ⟨A', c', rfl⟩ := h'.form
  have HBY := Lib.hid hby
  clear hby
  have HN := Lib.hid h; have HN' := Lib.hid h'
  clear h h'
  go_enter Tryz.func18, Tryz.ntmps18
  go_wp2_with fail
  go_loopw [5] (fun i' wr => ∃ i : Nat, i ≤ l.length ∧ i' = .int .i64 i ∧ ∃ wq, wq = wr ∧ Below w.heap.size w wq) (fun i' _ => l.length - (intOf i').toNat)
  case atStart => exact ⟨0, Nat.zero_le _, rfl, _, rfl, Below.refl _ _⟩
  case round =>
    obtain ⟨i, hi, rfl, wx, rfl, hBx⟩ := hrel
    by_cases hlt : i < l.length
    · obtain ⟨nd, hnd⟩ : ∃ nd, l[i]? = some nd := ⟨_, List.getElem?_eq_getElem hlt⟩
      obtain ⟨G, x, hA, lG, gc, hx⟩ := HN.out.node i nd hnd
      obtain ⟨G', x', hA', lG', gc', hx'⟩ := HN'.out.node i nd hnd
      cases hA
      cases hA'
      obtain ⟨P, S⟩ := x
      obtain ⟨P', S'⟩ := x'
      obtain ⟨pa, pc, hpe⟩ := own_form hx.parts.ex.choose_spec.1
      obtain ⟨sa, sc, hse⟩ := own_form hx.slots
      obtain ⟨pa', pc', hpe'⟩ := own_form hx'.parts.ex.choose_spec.1
      obtain ⟨sa', sc', hse'⟩ := own_form hx'.slots
      dsimp only at hpe hse hpe' hse'
      subst hpe hse hpe' hse'
      have tc := fun k (hk : k < 6) => (hBx.cell (p := ⟨G, i * 6 + k, none⟩) lG).trans (gc k hk)
      have tc' := fun k (hk : k < 6) => (hBx.cell (p := ⟨G', i * 6 + k, none⟩) lG').trans (gc' k hk)
      have a0 := tc 0 (by omega); have a1 := tc 1 (by omega); have a2 := tc 2 (by omega); have a3 := tc 3 (by omega); have a4 := tc 4 (by omega); have a5 := tc 5 (by omega)
      have b0 := tc' 0 (by omega); have b1 := tc' 1 (by omega); have b2 := tc' 2 (by omega); have b3 := tc' 3 (by omega); have b4 := tc' 4 (by omega); have b5 := tc' 5 (by omega)
      simp only [ndV, List.getElem?_cons_zero, List.getElem?_cons_succ, Nat.add_zero] at a0 a1 a2 a3 a4 a5 b0 b1 b2 b3 b4 b5
      have hzx := hBx.size
      have HND := Lib.hid (HBY.out nd (List.mem_of_getElem? hnd))
      have lgx : G < wx.heap.size := by omega
      have lgx' : G' < wx.heap.size := by omega
      have hli : (i : Int) < (l.length : Int) := by omega
      have HX := Lib.hid hx; have HX' := Lib.hid hx'; have HBx := Lib.hid hBx
      clear tc tc' gc gc' hx hx' hBx hnd hlt
      go_upto_block 2 with fail
      obtain ⟨W2, hW2⟩ : ∃ W, W = (wx.alloc (.cells #[.int .i64 (nd.ino : Nat), .int .i64 (nd.kind : Nat), .int .i64 (nd.links : Nat), .int .i64 (nd.size : Nat), .slice pa nd.blocks.length pc, .slice sa nd.slots.length sc] 39)).alloc (.cells #[.int .i64 (nd.ino : Nat), .int .i64 (nd.kind : Nat), .int .i64 (nd.links : Nat), .int .i64 (nd.size : Nat), .slice pa' nd.blocks.length pc', .slice sa' nd.slots.length sc'] 39) := ⟨_, rfl⟩
      have k1 : Blk 39 W2 wx.heap.size [.int .i64 (nd.ino : Nat), .int .i64 (nd.kind : Nat), .int .i64 (nd.links : Nat), .int .i64 (nd.size : Nat), .slice pa nd.blocks.length pc, .slice sa nd.slots.length sc] := by rw [hW2]; exact Blk.fst _ _
      have k2 : Blk 39 W2 (wx.heap.size + 1) [.int .i64 (nd.ino : Nat), .int .i64 (nd.kind : Nat), .int .i64 (nd.links : Nat), .int .i64 (nd.size : Nat), .slice pa' nd.blocks.length pc', .slice sa' nd.slots.length sc'] := by rw [hW2]; exact Blk.snd _ _
      have hBW : Below wx.heap.size wx W2 := by rw [hW2]; exact ((Below.refl _ wx).alloc (Nat.le_refl _) _).alloc (by simp) _
      rw [← hW2]
      have hB2 : Below w.heap.size w W2 := HBx.out.trans (hBW.mono hzx)
      have hz2 := hB2.size
      have HK1 := Lib.hid k1; have HK2 := Lib.hid k2; have HB2 := Lib.hid hB2
      clear hW2 k1 k2 hBW hB2 a0 a1 a2 a3 a4 a5 b0 b1 b2 b3 b4 b5
      go_wp2_with fail
      go_loopw [8] (fun k' wz => ∃ k : Nat, k ≤ nd.slots.length ∧ k' = .int .i64 k ∧ ∃ wq, wq = wz ∧ Below W2.heap.size W2 wq) (fun k' _ => nd.slots.length - (intOf k').toNat)
      case atStart => exact ⟨0, Nat.zero_le _, rfl, _, rfl, Below.refl _ _⟩
      case round =>
        obtain ⟨k, hk, rfl, wk, rfl, hBk⟩ := hrel
        have q1 : wk.cell? ⟨wx.heap.size, 5, none⟩ = _ := (hBk.cell (p := ⟨wx.heap.size, 5, none⟩) HK1.out.lt).trans (HK1.out.cell 5)
        have q2 : wk.cell? ⟨wx.heap.size + 1, 5, none⟩ = _ := (hBk.cell (p := ⟨wx.heap.size + 1, 5, none⟩) HK2.out.lt).trans (HK2.out.cell 5)
        simp only [List.getElem?_cons_zero, List.getElem?_cons_succ] at q1 q2
        by_cases hkl : k < nd.slots.length
        · obtain ⟨e, he⟩ : ∃ e, nd.slots[k]? = some e := ⟨_, List.getElem?_eq_getElem hkl⟩
          obtain ⟨g1, g2⟩ := entsV_get _ _ _ he
          have os := HX.out.slots; have os' := HX'.out.slots
          dsimp only at os os'
          obtain ⟨SG, cs, hS, _⟩ := own_some os (by omega)
          cases hS
          obtain ⟨SG', cs', hS', _⟩ := own_some os' (by omega)
          cases hS'
          obtain ⟨_, _, hNc, hcm⟩ := own_len os
          unfold maxLen at hcm
          have hbd : k + 1 ≤ 9223372036854775807 := by omega
          clear hNc hcm
          have hBw : Below w.heap.size w wk := HB2.out.trans (hBk.mono hz2)
          have lS := row_lt os rfl
          have lS' := row_lt os' rfl
          have r1 := (hBw.cell (p := ⟨SG, k * 2, none⟩) lS).trans (own_at os g1)
          have r2 := (hBw.cell (p := ⟨SG, k * 2 + 1, none⟩) lS).trans (own_at os g2)
          have r3 := (hBw.cell (p := ⟨SG', k * 2, none⟩) lS').trans (own_at os' g1)
          have r4 := (hBw.cell (p := ⟨SG', k * 2 + 1, none⟩) lS').trans (own_at os' g2)
          have hkl2 : (k : Int) < (nd.slots.length : Int) := by omega
          have HBk := Lib.hid hBk; have HKL := Lib.hid hkl
          clear hBk os os' hBw g1 g2 he
          go_wp2_with fail
          refine wp_region_held_drew (S := fun (w' : World) => w'.cell? ⟨wx.heap.size, 5, none⟩ = some (.slice (some ⟨SG, 0, none⟩) nd.slots.length sc) ∧ w'.cell? ⟨wx.heap.size + 1, 5, none⟩ = some (.slice (some ⟨SG', 0, none⟩) nd.slots.length sc') ∧ w'.cell? ⟨SG, k * 2, none⟩ = some (.int .i64 (e.1 : Nat)) ∧ w'.cell? ⟨SG, k * 2 + 1, none⟩ = some (.string e.2) ∧ w'.cell? ⟨SG', k * 2, none⟩ = some (.int .i64 (e.1 : Nat)) ∧ w'.cell? ⟨SG', k * 2 + 1, none⟩ = some (.string e.2)) (by kernel_rfl) ⟨q1, q2, r1, r2, r3, r4⟩ (fun hHeld => ?_)
          refine tkA (i := 0) (oi := ⟨_, _, _, _, _, _⟩) (v := ?_) ?_ ?_
          rotate_left
          · (intro w hSw; (try dsimp only at hSw); go_simp; first | done | with_reducible rfl)
          simp only [putA, List.set]
          refine tkA (i := 1) (oi := ⟨_, _, _, _, _, _⟩) (v := ?_) ?_ ?_
          rotate_left
          · (intro w hSw; (try dsimp only at hSw); go_simp; first | done | with_reducible rfl)
          simp only [putA, List.set]
          refine tkA (i := 2) (oi := ⟨_, _, _, _, _, _⟩) (v := ?_) ?_ ?_
          rotate_left
          · (intro w hSw; (try dsimp only at hSw); go_simp; first | done | with_reducible rfl)
          simp only [putA, List.set]
          refine tkA (i := 3) (oi := ⟨_, _, _, _, _, _⟩) (v := ?_) ?_ ?_
          rotate_left
          · (intro w hSw; (try dsimp only at hSw); go_simp; first | done | with_reducible rfl)
          simp only [putA, List.set]
          refine tkA (i := 4) (oi := ⟨_, _, _, _, _, _⟩) (v := ?_) ?_ ?_
          rotate_left
          · (intro w hSw; (try dsimp only at hSw); go_simp; first | done | with_reducible rfl)
          simp only [putA, List.set]
          refine tkA (i := 5) (oi := ⟨_, _, _, _, _, _⟩) (v := ?_) ?_ ?_
          rotate_left
          · (intro w hSw; (try dsimp only at hSw); go_simp; first | done | with_reducible rfl)
          simp only [putA, List.set]
          refine tkA (i := 6) (oi := ⟨_, _, _, _, _, _⟩) (v := ?_) ?_ ?_
          rotate_left
          · (intro w hSw; (try dsimp only at hSw); go_simp; first | done | with_reducible rfl)
          simp only [putA, List.set]
          refine tkA (i := 7) (oi := ⟨_, _, _, _, _, _⟩) (v := ?_) ?_ ?_
          rotate_left
          · (intro w hSw; (try dsimp only at hSw); go_simp; first | done | with_reducible rfl)
          simp only [putA, List.set]
          refine tkA (i := 8) (oi := ⟨_, _, _, _, _, _⟩) (v := ?_) ?_ ?_
          rotate_left
          · (intro w hSw; (try dsimp only at hSw); go_simp; first | done | with_reducible rfl)
          simp only [putA, List.set]
          refine tkA (i := 9) (oi := ⟨_, _, _, _, _, _⟩) (v := ?_) ?_ ?_
          rotate_left
          · (intro w hSw; (try dsimp only at hSw); go_simp; first | done | with_reducible rfl)
          simp only [putA, List.set]
          refine tkA (i := 10) (oi := ⟨_, _, _, _, _, _⟩) (v := ?_) ?_ ?_
          rotate_left
          · (intro w hSw; (try dsimp only at hSw); go_simp; first | done | with_reducible rfl)
          simp only [putA, List.set]
          refine wpAnyH_done (by kernel_rfl) ?_ _
          clear hHeld
          go_wp2_with fail
          go_roundw
          case rel => have := HKL.out; exact ⟨k + 1, by omega, by go_num, _, rfl, HBk.out.drew⟩
          case measure => have := HKL.out; simp [intOf]; omega
        · obtain rfl : k = nd.slots.length := by omega
          have hkl3 : ¬ ((nd.slots.length : Int) < (nd.slots.length : Int)) := by omega
          have HBk := Lib.hid hBk
          clear hBk hkl hk
          go_upto_block 4 with fail
          obtain ⟨W3, hW3⟩ : ∃ W, W = wk := ⟨_, rfl⟩
          rw [← hW3] at HBk
          rw [← hW3]
          clear hW3 q1 q2
          go_wp2_with fail
          go_loopw [9] (fun k' wz => ∃ k : Nat, k ≤ nd.blocks.length ∧ k' = .int .i64 k ∧ ∃ wq, wq = wz ∧ Below W2.heap.size W2 wq) (fun k' _ => nd.blocks.length - (intOf k').toNat)
          case atStart => exact ⟨0, Nat.zero_le _, rfl, _, rfl, HBk.out⟩
          case round =>
            obtain ⟨k, hk, rfl, wk, rfl, hBk⟩ := hrel
            have q1 : wk.cell? ⟨wx.heap.size, 4, none⟩ = _ := (hBk.cell (p := ⟨wx.heap.size, 4, none⟩) HK1.out.lt).trans (HK1.out.cell 4)
            have q2 : wk.cell? ⟨wx.heap.size + 1, 4, none⟩ = _ := (hBk.cell (p := ⟨wx.heap.size + 1, 4, none⟩) HK2.out.lt).trans (HK2.out.cell 4)
            simp only [List.getElem?_cons_zero, List.getElem?_cons_succ] at q1 q2
            by_cases hkl : k < nd.blocks.length
            · obtain ⟨p, hp⟩ : ∃ p, nd.blocks[k]? = some p := ⟨_, List.getElem?_eq_getElem hkl⟩
              obtain ⟨xs, os, hpx⟩ := HX.out.parts
              obtain ⟨xs', os', hpx'⟩ := HX'.out.parts
              obtain ⟨e1, d1, g1, g2, _, g3, _⟩ := hpx k p hp
              obtain ⟨e2, d2, g1', g2', _, g3', _⟩ := hpx' k p hp
              dsimp only at os os'
              obtain ⟨SG, cs, hS, _⟩ := own_some os (by omega)
              cases hS
              obtain ⟨SG', cs', hS', _⟩ := own_some os' (by omega)
              cases hS'
              obtain ⟨_, _, hNc, hcm⟩ := own_len os
              unfold maxLen at hcm
              have hbd : k + 1 ≤ 9223372036854775807 := by omega
              clear hNc hcm
              have hBw : Below w.heap.size w wk := HB2.out.trans (hBk.mono hz2)
              have lS := row_lt os rfl
              have lS' := row_lt os' rfl
              have r1 := (hBw.cell (p := ⟨SG, k * 2, none⟩) lS).trans (own_at os g1)
              have r2 := (hBw.cell (p := ⟨SG, k * 2 + 1, none⟩) lS).trans (own_at os g2)
              have r3 := (hBw.cell (p := ⟨SG', k * 2, none⟩) lS').trans (own_at os' g1')
              have r4 := (hBw.cell (p := ⟨SG', k * 2 + 1, none⟩) lS').trans (own_at os' g2')
              have hb := HND.out p (List.mem_of_getElem? hp)
              have v1 := conv_str (P := Tryz.prog) wk.drew 25 9 5 e1 0 1024 d1 p.2 hb (g3.below hBw.drew) Tryz.underlying25 Tryz.underlying5 Tryz.underlying9
              have v2 := conv_str (P := Tryz.prog) wk.drew 25 9 5 e2 0 1024 d2 p.2 hb (g3'.below hBw.drew) Tryz.underlying25 Tryz.underlying5 Tryz.underlying9
              have hkl2 : (k : Int) < (nd.blocks.length : Int) := by omega
              have HBk := Lib.hid hBk; have HKL := Lib.hid hkl
              clear hBk os os' hBw g1 g2 g1' g2' g3 g3' hp hpx hpx' hb
              go_wp2_with fail
              refine wp_region_held_drew (S := fun (w' : World) => w'.cell? ⟨wx.heap.size, 4, none⟩ = some (.slice (some ⟨SG, 0, none⟩) nd.blocks.length pc) ∧ w'.cell? ⟨wx.heap.size + 1, 4, none⟩ = some (.slice (some ⟨SG', 0, none⟩) nd.blocks.length pc') ∧ w'.cell? ⟨SG, k * 2, none⟩ = some (.int .i64 (p.1 : Nat)) ∧ w'.cell? ⟨SG, k * 2 + 1, none⟩ = some (.slice (some ⟨e1, 0, none⟩) 1024 d1) ∧ w'.cell? ⟨SG', k * 2, none⟩ = some (.int .i64 (p.1 : Nat)) ∧ w'.cell? ⟨SG', k * 2 + 1, none⟩ = some (.slice (some ⟨e2, 0, none⟩) 1024 d2) ∧ (convert 25 9 (.slice (some ⟨e1, 0, none⟩) 1024 d1)).run Tryz.prog w' = .ok (.string (strOf p.2 1024)) w' ∧ (convert 25 9 (.slice (some ⟨e2, 0, none⟩) 1024 d2)).run Tryz.prog w' = .ok (.string (strOf p.2 1024)) w') (by kernel_rfl) ⟨q1, q2, r1, r2, r3, r4, v1, v2⟩ (fun hHeld => ?_)
              refine tkA (i := 0) (oi := ⟨_, _, _, _, _, _⟩) (v := ?_) ?_ ?_
              rotate_left
              · (intro w hSw; (try dsimp only at hSw); go_simp; first | done | with_reducible rfl)
              simp only [putA, List.set]
              refine tkA (i := 1) (oi := ⟨_, _, _, _, _, _⟩) (v := ?_) ?_ ?_
              rotate_left
              · (intro w hSw; (try dsimp only at hSw); go_simp; first | done | with_reducible rfl)
              simp only [putA, List.set]
              refine tkA (i := 2) (oi := ⟨_, _, _, _, _, _⟩) (v := ?_) ?_ ?_
              rotate_left
              · (intro w hSw; (try dsimp only at hSw); go_simp; first | done | with_reducible rfl)
              simp only [putA, List.set]
              refine tkA (i := 3) (oi := ⟨_, _, _, _, _, _⟩) (v := ?_) ?_ ?_
              rotate_left
              · (intro w hSw; (try dsimp only at hSw); go_simp; first | done | with_reducible rfl)
              simp only [putA, List.set]
              refine tkA (i := 4) (oi := ⟨_, _, _, _, _, _⟩) (v := ?_) ?_ ?_
              rotate_left
              · (intro w hSw; (try dsimp only at hSw); go_simp; first | done | with_reducible rfl)
              simp only [putA, List.set]
              refine tkA (i := 5) (oi := ⟨_, _, _, _, _, _⟩) (v := ?_) ?_ ?_
              rotate_left
              · (intro w hSw; (try dsimp only at hSw); go_simp; first | done | with_reducible rfl)
              simp only [putA, List.set]
              refine tkA (i := 6) (oi := ⟨_, _, _, _, _, _⟩) (v := ?_) ?_ ?_
              rotate_left
              · (intro w hSw; (try dsimp only at hSw); go_simp; first | done | with_reducible rfl)
              simp only [putA, List.set]
              refine tkA (i := 7) (oi := ⟨_, _, _, _, _, _⟩) (v := ?_) ?_ ?_
              rotate_left
              · (intro w hSw; (try dsimp only at hSw); go_simp; first | done | with_reducible rfl)
              simp only [putA, List.set]
              refine tkA (i := 8) (oi := ⟨_, _, _, _, _, _⟩) (v := ?_) ?_ ?_
              rotate_left
              · (intro w hSw; (try dsimp only at hSw); go_simp; first | done | with_reducible rfl)
              simp only [putA, List.set]
              refine tkA (i := 9) (oi := ⟨_, _, _, _, _, _⟩) (v := ?_) ?_ ?_
              rotate_left
              · (intro w hSw; (try dsimp only at hSw); go_simp; first | done | with_reducible rfl)
              simp only [putA, List.set]
              refine tkA (i := 10) (oi := ⟨_, _, _, _, _, _⟩) (v := ?_) ?_ ?_
              rotate_left
              · (intro w hSw; (try dsimp only at hSw); go_simp; first | done | with_reducible rfl)
              simp only [putA, List.set]
              refine tkA (i := 11) (oi := ⟨_, _, _, _, _, _⟩) (v := ?_) ?_ ?_
              rotate_left
              · (intro w hSw; (try dsimp only at hSw); go_simp; first | done | with_reducible rfl)
              simp only [putA, List.set]
              refine tkA (i := 12) (oi := ⟨_, _, _, _, _, _⟩) (v := ?_) ?_ ?_
              rotate_left
              · (intro w hSw; (try dsimp only at hSw); go_simp; first | done | with_reducible rfl)
              simp only [putA, List.set]
              refine tkA (i := 13) (oi := ⟨_, _, _, _, _, _⟩) (v := ?_) ?_ ?_
              rotate_left
              · (intro w hSw; (try dsimp only at hSw); go_simp; first | done | with_reducible rfl)
              simp only [putA, List.set]
              refine tkA (i := 14) (oi := ⟨_, _, _, _, _, _⟩) (v := ?_) ?_ ?_
              rotate_left
              · (intro w hSw; (try dsimp only at hSw); go_simp; first | done | with_reducible rfl)
              simp only [putA, List.set]
              refine tkA (i := 15) (oi := ⟨_, _, _, _, _, _⟩) (v := ?_) ?_ ?_
              rotate_left
              · (intro w hSw; (try dsimp only at hSw); go_simp; first | done | with_reducible rfl)
              simp only [putA, List.set]
              refine tkA (i := 16) (oi := ⟨_, _, _, _, _, _⟩) (v := ?_) ?_ ?_
              rotate_left
              · (intro w hSw; (try dsimp only at hSw); go_simp; first | done | with_reducible rfl)
              simp only [putA, List.set]
              refine tkA (i := 17) (oi := ⟨_, _, _, _, _, _⟩) (v := ?_) ?_ ?_
              rotate_left
              · (intro w hSw; (try dsimp only at hSw); go_simp; first | done | with_reducible rfl)
              simp only [putA, List.set]
              refine tkA (i := 18) (oi := ⟨_, _, _, _, _, _⟩) (v := ?_) ?_ ?_
              rotate_left
              · (intro w hSw; (try dsimp only at hSw); go_simp; first | done | with_reducible rfl)
              simp only [putA, List.set]
              refine tkA (i := 19) (oi := ⟨_, _, _, _, _, _⟩) (v := ?_) ?_ ?_
              rotate_left
              · (intro w hSw; (try dsimp only at hSw); go_simp; first | done | with_reducible rfl)
              simp only [putA, List.set]
              refine tkA (i := 20) (oi := ⟨_, _, _, _, _, _⟩) (v := ?_) ?_ ?_
              rotate_left
              · (intro w hSw; (try dsimp only at hSw); go_simp; first | done | with_reducible rfl)
              simp only [putA, List.set]
              refine tkA (i := 21) (oi := ⟨_, _, _, _, _, _⟩) (v := ?_) ?_ ?_
              rotate_left
              · (intro w hSw; (try dsimp only at hSw); go_simp; first | done | with_reducible rfl)
              simp only [putA, List.set]
              refine tkA (i := 22) (oi := ⟨_, _, _, _, _, _⟩) (v := ?_) ?_ ?_
              rotate_left
              · (intro w hSw; (try dsimp only at hSw); go_simp; first | done | with_reducible rfl)
              simp only [putA, List.set]
              refine tkA (i := 23) (oi := ⟨_, _, _, _, _, _⟩) (v := ?_) ?_ ?_
              rotate_left
              · (intro w hSw; (try dsimp only at hSw); go_simp; first | done | with_reducible rfl)
              simp only [putA, List.set]
              refine tkA (i := 24) (oi := ⟨_, _, _, _, _, _⟩) (v := ?_) ?_ ?_
              rotate_left
              · (intro w hSw; (try dsimp only at hSw); go_simp; first | done | with_reducible rfl)
              simp only [putA, List.set]
              refine tkA (i := 25) (oi := ⟨_, _, _, _, _, _⟩) (v := ?_) ?_ ?_
              rotate_left
              · (intro w hSw; (try dsimp only at hSw); go_simp; first | done | with_reducible rfl)
              simp only [putA, List.set]
              refine tkA (i := 26) (oi := ⟨_, _, _, _, _, _⟩) (v := ?_) ?_ ?_
              rotate_left
              · (intro w hSw; (try dsimp only at hSw); go_simp; first | done | with_reducible rfl)
              simp only [putA, List.set]
              refine tkA (i := 27) (oi := ⟨_, _, _, _, _, _⟩) (v := ?_) ?_ ?_
              rotate_left
              · (intro w hSw; (try dsimp only at hSw); go_simp; first | done | with_reducible rfl)
              simp only [putA, List.set]
              refine tkA (i := 28) (oi := ⟨_, _, _, _, _, _⟩) (v := ?_) ?_ ?_
              rotate_left
              · (intro w hSw; (try dsimp only at hSw); go_simp; first | done | with_reducible rfl)
              simp only [putA, List.set]
              refine tkA (i := 29) (oi := ⟨_, _, _, _, _, _⟩) (v := ?_) ?_ ?_
              rotate_left
              · (intro w hSw; (try dsimp only at hSw); go_simp; first | done | with_reducible rfl)
              simp only [putA, List.set]
              refine wpAnyH_done (by kernel_rfl) ?_ _
              clear hHeld
              go_wp2_with fail
              go_roundw
              case rel => have := HKL.out; exact ⟨k + 1, by omega, by go_num, _, rfl, HBk.out.drew⟩
              case measure => have := HKL.out; simp [intOf]; omega
            · obtain rfl : k = nd.blocks.length := by omega
              have hkl4 : ¬ ((nd.blocks.length : Int) < (nd.blocks.length : Int)) := by omega
              have HBk := Lib.hid hBk
              clear hBk hkl hk
              go_wp2_with fail
              go_roundw
              case rel => exact ⟨i + 1, by omega, by go_num, _, rfl, HB2.out.trans (HBk.out.mono hz2)⟩
              case measure => simp [intOf]; omega
    · obtain rfl : i = l.length := by omega
      have hln : ¬ ((l.length : Int) < (l.length : Int)) := by omega
      have HBx := Lib.hid hBx
      clear hBx hlt hi
      go_wp2_with fail
      go_ret
      exact ⟨rfl, HBx.out⟩
end Go.Proofs.YtbbgahffcjbloaaGreat
end

section
/- FsckKeeps: the pure side: the Tree with other links, bits and inodes that nothing names. -/
namespace Go.Proofs.YtbbgahffcjbloaaGreat
open Go.RowKit

/-- the Tree but for a file's links, the heads, the inodes that are not named -/
def KeepH (n : Nat) (h : Nat → Nat) : Prop := (∀ q, h q < 256) ∧ ∀ q, q ≠ 2114 → ¬ (1024 ≤ q ∧ q < 2048) → ¬ (2048 + 64 * (n + 1) ≤ q ∧ q < 3072) → h q = trF 20 n q
theorem KeepH.tree (n : Nat) (hn : n ≤ 9) : KeepH n (trF 20 n) := ⟨trF_lt 20 n (by omega), fun _ _ _ _ => rfl⟩
theorem KeepH.set {n : Nat} {h : Nat → Nat} (H : KeepH n h) (p x : Nat) (hx : x < 256) (hp : p = 2114 ∨ (1024 ≤ p ∧ p < 2048) ∨ (2048 + 64 * (n + 1) ≤ p ∧ p < 3072)) : KeepH n (fun q => if q = p then x else h q) := by
  refine ⟨fun q => ?_, fun q h1 h2 h3 => ?_⟩
  · by_cases e : q = p
    · simp only [if_pos e]; exact hx
    · simp only [if_neg e]; exact H.1 q
  · have e : q ≠ p := fun e => by subst e; rcases hp with a | a | a <;> contradiction
    simp only [if_neg e]
    exact H.2 q h1 h2 h3
theorem KeepH.like {n : Nat} {h : Nat → Nat} (hn : n ≤ 9) (H : KeepH n h) : Like 20 n h := by
  have far : ∀ q, (q < 1024 ∨ 3072 ≤ q) → h q = trF 20 n q := fun q hq => H.2 q (by omega) (by omega) (by omega)
  refine like_of (m := 20) hn H.1 (fun k hk => ?_) (fun x => h (2048 + 64 * x + 2) + 256 * h (2048 + 64 * x + 3)) (fun x => ?_) (fun x hx k hk => ?_) (fun j' h1 h2 k hk => ?_) (fun j' h1 h2 => ?_)
  · rw [far k (by omega)]; exact trF_sup 20 n (by omega) k hk
  · have := H.1 (2048 + 64 * x + 2); have := H.1 (2048 + 64 * x + 3); omega
  · have b2 := H.1 (2048 + 64 * x + 2); have b3 := H.1 (2048 + 64 * x + 3)
    by_cases k2 : k = 2
    · subst k2; rw [(withL_2 (treeI x) _).1]; omega
    · by_cases k3 : k = 3
      · subst k3; rw [(withL_2 (treeI x) _).2]; omega
      · rw [withL_far _ _ k k2 k3, H.2 _ (by omega) (by omega) (by omega), trF_row 20 n hn x (by omega) k hk, if_pos hx]
  · rw [far _ (by omega), trF_erow 20 n hn j' (by omega) k hk, entN_file n j' h1 h2]
  · rw [rootE_no (m := 20) hn h1 h2 (fun k hk => far _ (by omega))]
    exact gone_zero 20 n _
/-- a row of the Tree's bytes is an image -/
theorem tree_img {n : Nat} (hn : n ≤ 9) {W : World} {base G cap : Nat} (ho : W.ownsRow base 5 1 (.slice (some ⟨G, 0, none⟩) 23552 cap) 23552 (bytesL (trF 20 n) 23552)) : ImgOk (geo1 20) G 0 23552 cap (trF 20 n) W := by
  obtain ⟨l1, l2, l3, l4⟩ := own_len ho
  unfold maxLen at l4
  exact ⟨geo1_ok (by decide) (by decide), rfl, l3, by omega, own_rdB ho, trF_lt 20 n (by omega)⟩
/-- the nodes of the Tree -/
def treeNd (n : Nat) : List Nd := rawK (trF 20 n) (fixR (geo1 20) (trF 20 n)) 16
theorem treeRaw {n : Nat} (hn : n ≤ 9) {W : World} {base G cap : Nat} (ho : W.ownsRow base 5 1 (.slice (some ⟨G, 0, none⟩) 23552 cap) 23552 (bytesL (trF 20 n) 23552)) :
    Calls Tryz.prog 12 #[.slice (some ⟨G, 0, none⟩) 23552 cap] W fun e w' => ∃ v, e = .returned (.tuple #[v, .int .i64 0]) ∧ NodesAt w' W.heap.size v (treeNd n) ∧ Below W.heap.size W w' :=
  rraw_c (geo1 20) (trF 20 n) G 0 23552 cap W (tree_img hn ho) ((trF_simpB n hn).raw hn (by decide) (by decide))
theorem partsK_byte {f : Nat → Nat} (hf : ∀ k, f k < 256) (i : InoN) : ∀ k, ∀ p ∈ partsK f i k, ∀ j, p.2 j < 256 := by
  intro k
  induction k with
  | zero => intro p hp; cases hp
  | succ k ih =>
    intro p hp j
    unfold partsK at hp
    split at hp
    · exact ih p hp j
    · rw [List.mem_append] at hp
      rcases hp with hp | hp
      · exact ih p hp j
      · simp only [List.mem_singleton] at hp
        subst hp
        exact hf _
theorem rawK_byte {f : Nat → Nat} (hf : ∀ k, f k < 256) (S : RSt) : ∀ n, ∀ nd ∈ rawK f S n, ∀ p ∈ nd.blocks, ∀ j, p.2 j < 256 := by
  intro n
  induction n with
  | zero => intro nd hnd; cases hnd
  | succ n ih =>
    intro nd hnd p hp j
    unfold rawK at hnd
    split at hnd
    · rename_i t _
      rw [List.mem_append] at hnd
      rcases hnd with hnd | hnd
      · exact ih nd hnd p hp j
      · simp only [List.mem_singleton] at hnd
        subst hnd
        unfold ndF at hp
        dsimp only at hp
        split at hp
        · exact partsK_byte hf _ 8 p hp j
        · cases hp
    · exact ih nd hnd p hp j
end Go.Proofs.YtbbgahffcjbloaaGreat
end

section
/- FsckKeeps: the walk. -/
namespace Go.Proofs.YtbbgahffcjbloaaGreat
open Go.RowKit

set_option maxRecDepth 1000000 in
set_option maxHeartbeats 8000000 in
theorem keeps_yes (n links bit lost : Nat) (w : World) (hn : n ≤ 9) (hl1 : 1 ≤ links) (hl : links ≤ 200) (hbit : bit ≤ 19) (hlost : lost ≤ 15) : Calls Tryz.prog 6 #[.int .i64 n, .int .i64 links, .int .i64 bit, .int .i64 lost] w fun e w' => e = .returned (.bool true) ∧ Below w.heap.size w w' := by
  have AL := alive_c
  have TR := tree_c n hn
  have RP := fun (h : Nat → Nat) (H : KeepH n h) W base G cap ho => lrep_c (m := 20) (n := n) (N := 23552) (h := h) hn (by omega) (by decide) (by decide) (by decide) (fun k hk => head_20 ⟨n, by omega⟩ ⟨k, hk⟩) (H.like hn) (fun q h1 h2 => H.2 q (by omega) (by omega) (by omega)) W base G cap ho
  have RW := fun W base G cap ho => treeRaw (n := n) hn (W := W) (base := base) (G := G) (cap := cap) ho
  have gk : ∀ W : World, Blk 24 (W.alloc (.cells #[.int .i64 1, .int .i64 1, .int .i64 20] 24)) W.heap.size [.int .i64 1, .int .i64 1, .int .i64 20] := fun W => Blk.newL _
  have HAL := Lib.hid AL; have HTR := Lib.hid TR; have HRP := Lib.hid RP; have HRW := Lib.hid RW; have HGK := Lib.hid gk
  have d0 : decide ((n : Int) < 0) = false := by simp
  have d1 : decide ((9 : Int) < (n : Int)) = false := by simp; omega
  have d2 : decide ((links : Int) < 1) = false := by simp; omega
  have d3 : decide ((200 : Int) < (links : Int)) = false := by simp; omega
  have d4 : decide ((bit : Int) < 0) = false := by simp
  have d5 : decide ((19 : Int) < (bit : Int)) = false := by simp; omega
  have d6 : decide ((lost : Int) < 0) = false := by simp
  have d7 : decide ((15 : Int) < (lost : Int)) = false := by simp; omega
  clear AL TR RP RW gk
  go_enter Tryz.func6, Tryz.ntmps6
  go_upto_if 67 with (first
    | (go_at_call 9; refine (HAL.out _).mono ?_; rintro e w1 ⟨rfl, hb1⟩; have HB1 := Lib.hid hb1; have hz1 := hb1.size; have k1 := HGK.out w1; have c0 := k1.cell 0; have c1 := k1.cell 1; have c2 := k1.cell 2; simp only [List.getElem?_cons_zero, List.getElem?_cons_succ] at c0 c1 c2; clear hb1 k1)
    | (go_at_call 10; refine (HTR.out _).mono ?_; rintro e w2 ⟨G, cap, rfl, ho2, hb2⟩; have hz2 := hb2.size; have HO2 := Lib.hid ho2; have HB2 := Lib.hid hb2; clear ho2 hb2)
    | (go_at_call 12; refine (HRW.out _ _ _ _ HO2.out).mono ?_; rintro e w3 ⟨v3, rfl, hn3, hb3⟩; have hz3 := hb3.size; have HN3 := Lib.hid hn3; have HB3 := Lib.hid hb3; clear hn3 hb3))
  obtain ⟨l1, l2, l3, l4⟩ := own_len HO2.out
  unfold maxLen at l4
  have hwG : w.heap.size ≤ G := by simp at l1; omega
  have ho3 := own_below (own_mono HO2.out (base' := w.heap.size) (by simp; omega)) HB3.out
  have hB3 : Below w.heap.size w w3 := ((HB1.out.alloc hz1 _).trans (HB2.out.mono (by simp; omega))).trans (HB3.out.mono (by simp at hz2; omega))
  have HO3 := Lib.hid ho3; have HBW3 := Lib.hid hB3
  clear ho3 hB3 c0 c1 c2 HO2 HB2 HB3 HB1
  go_cut [] (fun w0 => ∃ wq, wq = w0 ∧ ∃ h, KeepH n h ∧ wq.ownsRow w.heap.size 5 1 (.slice (some ⟨G, 0, none⟩) 23552 cap) 23552 (bytesL h 23552) ∧ Mods (fun k => k = G) w3 wq)
  case first =>
    obtain ⟨g1, f1⟩ := own_get HO3.out (i := 2114) (by omega)
    by_cases hn0 : 0 < n
    · have t0 : decide ((0 : Int) < (n : Int)) = true := by simp; omega
      have s1 := own_set HO3.out (i := 2114) (by omega) links (u := .int .u8 (links : Int)) rfl
      have HS1 := Lib.hid s1
      clear s1
      go_wp2_with fail
      go_meet
      exact ⟨_, rfl, _, (KeepH.tree n hn).set 2114 links (by omega) (.inl rfl), HS1.out, set_mods _ _ _ _⟩
    · have t0 : decide ((0 : Int) < (n : Int)) = false := by simp; omega
      go_wp2_with fail
      go_meet
      exact ⟨_, rfl, _, KeepH.tree n hn, HO3.out, Mods.refl _ _⟩
  case rest =>
  obtain ⟨wq, rfl, h, hK, ho, hm⟩ := hcut
  obtain ⟨g1, f1⟩ := own_get ho (i := 1088 + bit / 8) (by omega)
  have lq : G < wq.heap.size := (own_len ho).2.1
  have HK := Lib.hid hK; have HO := Lib.hid ho; have HM := Lib.hid hm
  clear hK ho hm
  go_upto_if 90 with fail
  have s1 := own_set HO.out (i := 1088 + bit / 8) (by omega) (setB (h (1088 + bit / 8)) (bit % 8) true) (u := Value.int IntKind.u8 (bits BinOp.or IntKind.u8 (↑(h (1088 + bit / 8))) (2 ^ (bit % 8) % 256))) (by rw [or_byte _ _ (HK.out.1 _)])
  have kk := HK.out.set (1088 + bit / 8) (setB (h (1088 + bit / 8)) (bit % 8) true) (setB_lt ⟨_, HK.out.1 _⟩ ⟨bit % 8, Nat.mod_lt _ (by decide)⟩ true) (.inr (.inl ⟨by omega, by omega⟩))
  have mm := HM.out.setCell ⟨G, 1088 + bit / 8, none⟩ (fun _ => rfl) (Value.int IntKind.u8 (bits BinOp.or IntKind.u8 (↑(h (1088 + bit / 8))) (2 ^ (bit % 8) % 256)))
  obtain ⟨wb, hwb⟩ : ∃ W, W = wq.setCell ⟨G, 1088 + bit / 8, none⟩ (Value.int IntKind.u8 (bits BinOp.or IntKind.u8 (↑(h (1088 + bit / 8))) (2 ^ (bit % 8) % 256))) := ⟨_, rfl⟩
  rw [← hwb] at s1 mm ⊢
  generalize (fun q => if q = 1088 + bit / 8 then setB (h (1088 + bit / 8)) (bit % 8) true else h q) = h1 at s1 kk
  have HS1 := Lib.hid s1; have HKK := Lib.hid kk; have HMM := Lib.hid mm
  clear s1 kk mm hwb HK HO HM g1 f1
  go_cut [] (fun w0 => ∃ wq, wq = w0 ∧ ∃ h, KeepH n h ∧ wq.ownsRow w.heap.size 5 1 (.slice (some ⟨G, 0, none⟩) 23552 cap) 23552 (bytesL h 23552) ∧ Mods (fun k => k = G) w3 wq)
  case first =>
    by_cases hn0 : n < lost
    · have t0 : decide ((n : Int) < (lost : Int)) = true := by simp; omega
      obtain ⟨g1, f1⟩ := own_get HS1.out (i := 2048 + 64 * lost) (by omega)
      obtain ⟨g2, f2⟩ := own_get HS1.out (i := 2048 + 64 * lost + 2) (by omega)
      have lq : G < wb.heap.size := (own_len HS1.out).2.1
      go_wp2_with fail
      go_meet
      have s1 := own_set HS1.out (i := 2048 + 64 * lost) (by omega) 1 (u := .int .u8 1) rfl
      have s2 := own_set s1 (i := 2048 + 64 * lost + 2) (by omega) 1 (u := .int .u8 1) rfl
      exact ⟨_, rfl, _, (HKK.out.set (2048 + 64 * lost) 1 (by decide) (.inr (.inr ⟨by omega, by omega⟩))).set (2048 + 64 * lost + 2) 1 (by decide) (.inr (.inr ⟨by omega, by omega⟩)), s2, (HMM.out.setCell ⟨G, _, none⟩ (fun _ => rfl) _).setCell ⟨G, _, none⟩ (fun _ => rfl) _⟩
    · have t0 : decide ((n : Int) < (lost : Int)) = false := by simp; omega
      go_wp2_with fail
      go_meet
      exact ⟨_, rfl, _, HKK.out, HS1.out, HMM.out⟩
  case rest =>
  obtain ⟨wc, rfl, h2, hK2, ho2, hm2⟩ := hcut
  have hN3 := (HN3.out.above hm2 (fun k e => by omega)).lower (Nat.zero_le _)
  have hBc : Below w.heap.size w wc := Below.mods HBW3.out hm2 (fun i hi e => by omega) HBW3.out.size
  have hzc := hm2.size
  have HK2 := Lib.hid hK2; have HO2 := Lib.hid ho2; have HN := Lib.hid hN3; have HBC := Lib.hid hBc
  clear hK2 ho2 hm2 hN3 hBc HS1 HKK HMM HN3
  have HBY := Lib.hid (fun nd hnd p hp j => rawK_byte (trF_lt 20 n (by omega)) (fixR (geo1 20) (trF 20 n)) 16 nd hnd p hp j)
  have HLL := Lib.hid (Nat.le_trans (rawK_length (trF 20 n) (fixR (geo1 20) (trF 20 n)) 16) (show 16 ≤ 100000 by decide))
  go_wp2_with (first
    | (go_at_call 11; refine (HRP.out h2 HK2.out _ _ _ _ HO2.out).mono ?_; rintro e w4 ⟨G4, cap4, v4, rfl, ho4, hv4, hb4⟩; obtain ⟨A5, cap5, rfl⟩ := own_slice hv4; have hz4 := hb4.size; have HO4 := Lib.hid ho4; have HB4 := Lib.hid hb4; clear ho4 hv4 hb4)
    | (go_at_call 12; refine (HRW.out _ _ _ _ HO4.out).mono ?_; rintro e w5 ⟨v5, rfl, hn5, hb5⟩; have hz5 := hb5.size; have HN5 := Lib.hid hn5; have HB5 := Lib.hid hb5; clear hn5 hb5)
    | (go_at_call 18; refine (rsame_c w5 v5 v3 (treeNd n) (HN5.out.lower (Nat.zero_le _)) ((HN.out.below HB4.out).below HB5.out) HLL.out HBY.out).mono ?_; rintro e w6 ⟨rfl, hb6⟩; have HB6 := Lib.hid hb6; clear hb6))
  go_ret
  exact ⟨rfl, ((HBC.out.trans (HB4.out.mono (by omega))).trans (HB5.out.mono (by omega))).trans (HB6.out.mono (by omega))⟩
end Go.Proofs.YtbbgahffcjbloaaGreat
end
