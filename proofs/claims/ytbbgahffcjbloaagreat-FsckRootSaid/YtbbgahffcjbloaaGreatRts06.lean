/- Part of the road to RootRow: RClean, RCut, RTake, RTakeD, RRoot. -/
import Derived.Deep.DeepCutAuto
import Derived.Deep.CutBlock
import Derived.Test.YtbbgahffcjbloaaGreatRts05
set_option linter.all false
set_option linter.unusedSimpArgs false
set_option linter.unusedVariables false
set_option linter.unusedSectionVars false
section
/- The reference's repair: an inode as it is taken in (no indirect blocks). -/
namespace Go.Proofs.YtbbgahffcjbloaaGreat
open Go.RowKit

theorem blkNe {e e' : TypeId} {w : World} {A B : Nat} {xs ys : List Value} (h : Blk e w A xs) (h2 : Blk e' w B ys) (hne : e ≠ e') : A ≠ B := fun q => by
  subst q
  unfold Blk at h h2
  rw [h] at h2
  exact hne (tag_inj h2)
theorem put13_more {t : TypeId} {w : World} {B : Nat} {j : InoN} {r : List Value} (i : InoN) (h : Blk t w B (inoL j ++ r)) : Blk t (put13 w B i) B (inoL i ++ r) :=
  ((((((((((((h.set 0 _).set 1 _).set 2 _).set 3 _).set 4 _).set 5 _).set 6 _).set 7 _).set 8 _).set 9 _).set 10 _).set 11 _).set 12 _
theorem cells13m {w : World} {B : Nat} {i : InoN} {t : TypeId} {r : List Value} (h : Blk t w B (inoL i ++ r)) : w.cell? ⟨B, 0, none⟩ = some (.int .i64 (i 0 : Nat)) ∧ w.cell? ⟨B, 1, none⟩ = some (.int .i64 (i 1 : Nat)) ∧ w.cell? ⟨B, 2, none⟩ = some (.int .i64 (i 2 : Nat)) ∧ w.cell? ⟨B, 3, none⟩ = some (.int .i64 (i 3 : Nat)) ∧ w.cell? ⟨B, 4, none⟩ = some (.int .i64 (i 4 : Nat)) ∧ w.cell? ⟨B, 5, none⟩ = some (.int .i64 (i 5 : Nat)) ∧ w.cell? ⟨B, 6, none⟩ = some (.int .i64 (i 6 : Nat)) ∧ w.cell? ⟨B, 7, none⟩ = some (.int .i64 (i 7 : Nat)) ∧ w.cell? ⟨B, 8, none⟩ = some (.int .i64 (i 8 : Nat)) ∧ w.cell? ⟨B, 9, none⟩ = some (.int .i64 (i 9 : Nat)) ∧ w.cell? ⟨B, 10, none⟩ = some (.int .i64 (i 10 : Nat)) ∧ w.cell? ⟨B, 11, none⟩ = some (.int .i64 (i 11 : Nat)) ∧ w.cell? ⟨B, 12, none⟩ = some (.int .i64 (i 12 : Nat)) := by
  refine ⟨?_, ?_, ?_, ?_, ?_, ?_, ?_, ?_, ?_, ?_, ?_, ?_, ?_⟩ <;> rw [h.cell] <;> rfl
theorem put13_mods {s : Nat → Prop} {w w' : World} {B : Nat} (i : InoN) (h : Mods s w w') (hB : w.heap.size ≤ B) : Mods s w (put13 w' B i) := by
  unfold put13
  have hs : ∀ (X : World) (k : Nat) (v : Value), Mods s w X → Mods s w (X.setCell ⟨B, k, none⟩ v) := fun X k v hX => hX.setCell (p := ⟨B, k, none⟩) (fun hl => by simp at hl; omega) v
  exact hs _ _ _ (hs _ _ _ (hs _ _ _ (hs _ _ _ (hs _ _ _ (hs _ _ _ (hs _ _ _ (hs _ _ _ (hs _ _ _ (hs _ _ _ (hs _ _ _ (hs _ _ _ (hs _ _ _ h))))))))))))
theorem put13_other {t : TypeId} {w : World} {B C : Nat} {xs : List Value} (i : InoN) (h : Blk t w C xs) (hne : B ≠ C) : Blk t (put13 w B i) C xs := by
  unfold put13
  have hs : ∀ (X : World) (k : Nat) (v : Value), Blk t X C xs → Blk t (X.setCell ⟨B, k, none⟩ v) C xs := fun X k v hX => hX.other ⟨B, k, none⟩ v hne
  exact hs _ _ _ (hs _ _ _ (hs _ _ _ (hs _ _ _ (hs _ _ _ (hs _ _ _ (hs _ _ _ (hs _ _ _ (hs _ _ _ (hs _ _ _ (hs _ _ _ (hs _ _ _ (hs _ _ _ h))))))))))))
abbrev rest0 : List Value := [.slice none 0 0, .int .i64 0, .slice none 0 0, .slice none 0 0]
theorem mods_of_below {s : Nat → Prop} {w w' : World} (h : Below w.heap.size w w') : Mods s w w' := ⟨h.os, h.tape, h.output, h.size, fun k hk _ => h.block k hk⟩
/-- an inode whose size is cut -/
def cI (I : InoN) : InoN := fun k => if k = 2 then (if I 0 = 2 then min (I 2) 67379200 / 1024 * 1024 else min (I 2) 67379200) else I k
/-- the first k direct pointers, those that are kept alone; the claims -/
def cl8 (g : Geo) (s : Nat) (p : InoN × (Nat → Bool)) : Nat → InoN × (Nat → Bool)
  | 0 => p
  | k + 1 => if keepO g (cl8 g s p k).2 ((cl8 g s p k).1 (3 + k)) k s = true then ((cl8 g s p k).1, fun x => if x = g.dNo ((cl8 g s p k).1 (3 + k)) then true else (cl8 g s p k).2 x) else (fun j => if j = 3 + k then 0 else (cl8 g s p k).1 j, (cl8 g s p k).2)
theorem cl8_far (g : Geo) (s : Nat) (p : InoN × (Nat → Bool)) : ∀ k j, (j < 3 ∨ 3 + k ≤ j) → (cl8 g s p k).1 j = p.1 j
  | 0, _, _ => rfl
  | k + 1, j, h => by
    have ih := cl8_far g s p k j (by omega)
    unfold cl8
    split
    · exact ih
    · show (if j = 3 + k then 0 else _) = _
      rw [if_neg (by omega)]; exact ih
def cleanF (g : Geo) (c : Nat → Bool) (I : InoN) : InoN × (Nat → Bool) :=
  (fun j => if j = 12 then 0 else if j = 11 then 0 else (cl8 g (cI I 2) (cI I, c) 8).1 j, (cl8 g (cI I 2) (cI I, c) 8).2)

set_option maxRecDepth 100000 in
set_option maxHeartbeats 4000000 in
theorem rclean_c (g : Geo) (hg : g.Ok) (R D C cc b o N cap : Nat) (tv ov : Value) (z : Bool) (c : Nat → Bool) (I : InoN) (hI : ∀ k, I k < 4294967296) (h11 : g.dOk (I 11) = false) (h12 : g.dOk (I 12) = false) (w : World) (hR : Rp R D C g.blocks cc tv ov z w) (hD : Dk g D b o N cap w) (hC : Blk 4 w C (boolsL c g.blocks)) :
    Calls Tryz.prog 121 #[.pointer (some ⟨R, 0, none⟩), inoV I] w fun e w' => ∃ B, e = .returned (.pointer (some ⟨B, 0, none⟩)) ∧ w.heap.size ≤ B ∧
      Blk 74 w' B (inoL (cleanF g c I).1 ++ rest0) ∧ Blk 4 w' C (boolsL (cleanF g c I).2 g.blocks) ∧ Mods (· = C) w w' := by
  have hRC : R ≠ C := blkNe hR hC (by decide)
  have hDC : D ≠ C := blkNe hD hC (by decide)
  have lC := hC.lt; have lR := hR.lt; have lD := hD.lt
  obtain ⟨J, hJ⟩ : ∃ J, J = cI I := ⟨_, rfl⟩
  have hJk : ∀ k, k ≠ 2 → J k = I k := fun k hk => by rw [hJ]; unfold cI; rw [if_neg hk]
  have hJb : ∀ k, J k < 4294967296 := fun k => by
    by_cases hk : k = 2
    · rw [hJ, hk]; unfold cI; rw [if_pos rfl]; split <;> omega
    · rw [hJk k hk]; exact hI k
  have hJ2 : J 2 ≤ 67379200 := by rw [hJ]; unfold cI; rw [if_pos rfl]; split <;> omega
  unfold cleanF
  rw [← hJ]
  obtain ⟨K, hK⟩ : ∃ K : Nat → InoN × (Nat → Bool), K = cl8 g (J 2) (J, c) := ⟨_, rfl⟩
  rw [← hK]
  have K0 : K 0 = (J, c) := by rw [hK]; rfl
  have K2 : ∀ k, (K k).1 2 = J 2 := fun k => by rw [hK]; exact cl8_far _ _ _ k 2 (by omega)
  have K11 : (K 8).1 11 = I 11 := by rw [hK]; exact (cl8_far _ _ _ 8 11 (by omega)).trans (hJk 11 (by decide))
  have K12 : (K 8).1 12 = I 12 := by rw [hK]; exact (cl8_far _ _ _ 8 12 (by omega)).trans (hJk 12 (by decide))
  have KS : ∀ k, K (k + 1) = if keepO g (K k).2 ((K k).1 (3 + k)) k (J 2) = true then ((K k).1, fun x => if x = g.dNo ((K k).1 (3 + k)) then true else (K k).2 x) else (fun j => if j = 3 + k then 0 else (K k).1 j, (K k).2) := fun k => by rw [hK]; rfl
  have RK : ∀ W p first (x : Int) c, x = (first : Nat) → first < 100000 → Mods (· = C) w W → Blk 4 W C (boolsL c g.blocks) → Calls Tryz.prog 98 #[.pointer (some ⟨R, 0, none⟩), .int .i64 (p : Nat), .int .i64 x, .int .i64 (J 2 : Nat)] W fun e w' => e = .returned (.bool (keepO g c p first (J 2))) ∧
      Blk 4 w' C (boolsL (fun x => if keepO g c p first (J 2) = true ∧ x = g.dNo p then true else c x) g.blocks) ∧ Mods (· = C) W w' := fun W p first x c hx hf hm hc => by
    subst hx
    exact rkeep_c g hg R D C cc b o N cap p first (J 2) tv ov z c (hJb 2) hf W (hR.mods hm hRC) (hD.mods hm hDC) hc
  have q11 : ∀ c first, keepO g c (I 11) first (J 2) = false := fun c first => by unfold keepO; rw [h11]; rfl
  have q12 : ∀ c first, keepO g c (I 12) first (J 2) = false := fun c first => by unfold keepO; rw [h12]; rfl
  have hC0 : ∀ W, Below w.heap.size w W → Blk 4 W C (boolsL (K 0).2 g.blocks) := fun W hb => by rw [K0]; exact hC.below hb lC
  have HK := Lib.hid K2; have H11 := Lib.hid K11; have H12 := Lib.hid K12; have HKS := Lib.hid KS; have HRK := Lib.hid RK; have Q11 := Lib.hid q11; have Q12 := Lib.hid q12; have HC0 := Lib.hid hC0; have HK0 := Lib.hid K0; have HJB := Lib.hid hJb; have HJ := Lib.hid hJ; have HJK := Lib.hid hJk
  clear hR hD hC hK hJ hJk hI h11 h12 K0 K2 K11 K12 KS RK q11 q12 hC0 hJb
  unfold inoV
  have Zt : ∀ (e : Int), e = (J 2 : Nat) → ([.int .i64 (I 0 : Nat), .int .i64 (I 1 : Nat), .int .i64 e, .int .i64 (I 3 : Nat), .int .i64 (I 4 : Nat), .int .i64 (I 5 : Nat), .int .i64 (I 6 : Nat), .int .i64 (I 7 : Nat), .int .i64 (I 8 : Nat), .int .i64 (I 9 : Nat), .int .i64 (I 10 : Nat), .int .i64 (I 11 : Nat), .int .i64 (I 12 : Nat)] : List Value) = inoL (K 0).1 := fun e he => by
    rw [HK0.out, he, ← HJK.out 0 (by decide), ← HJK.out 1 (by decide), ← HJK.out 3 (by decide), ← HJK.out 4 (by decide), ← HJK.out 5 (by decide), ← HJK.out 6 (by decide), ← HJK.out 7 (by decide), ← HJK.out 8 (by decide), ← HJK.out 9 (by decide), ← HJK.out 10 (by decide), ← HJK.out 11 (by decide), ← HJK.out 12 (by decide)]
    rfl
  have HZ := Lib.hid Zt
  clear Zt
  go_enter Tryz.func121, Tryz.ntmps121
  obtain ⟨x, hx⟩ : ∃ x : Nat, x = min (I 2) 67379200 := ⟨_, rfl⟩
  have xr : ((67379200 : Int) < (I 2 : Int) → (67379200 : Int) = (x : Int)) ∧ (¬ (67379200 : Int) < (I 2 : Int) → (I 2 : Int) = (x : Int)) := ⟨fun h => by omega, fun h => by omega⟩
  have jr : ((I 0 : Int) = 2 → ((x : Int) / 1024 * 1024 = (J 2 : Nat))) ∧ (¬ (I 0 : Int) = 2 → (x : Int) = (J 2 : Nat)) := by
    have e := HJ.out
    have e2 : J 2 = if I 0 = 2 then x / 1024 * 1024 else x := by rw [e, hx]; unfold cI; rw [if_pos rfl]
    constructor
    · intro h; rw [if_pos (by omega)] at e2; omega
    · intro h; rw [if_neg (by omega)] at e2; omega
  have XR := Lib.hid xr; have JR := Lib.hid jr; have HX := Lib.hid hx
  clear xr jr hx
  go_upto_if 16 with fail
  go_cut [] (fun wx => wx = w.alloc (.cells #[.int .i64 (I 0 : Nat), .int .i64 (I 1 : Nat), .int .i64 (x : Nat), .int .i64 (I 3 : Nat), .int .i64 (I 4 : Nat), .int .i64 (I 5 : Nat), .int .i64 (I 6 : Nat), .int .i64 (I 7 : Nat), .int .i64 (I 8 : Nat), .int .i64 (I 9 : Nat), .int .i64 (I 10 : Nat), .int .i64 (I 11 : Nat), .int .i64 (I 12 : Nat)] 56))
  case first =>
    by_cases h : (67379200 : Int) < (I 2 : Int)
    · have E := Lib.hid (XR.out.1 h)
      have t1 : decide ((67379200 : Int) < (I 2 : Int)) = true := by simpa using h
      go_wp2_with fail
      go_meet
      rw [E.out]
    · have E := Lib.hid (XR.out.2 h)
      have t1 : decide ((67379200 : Int) < (I 2 : Int)) = false := by simpa using h
      go_wp2_with fail
      go_meet
      rw [E.out]
  case rest =>
  obtain rfl := hcut
  go_upto_if 20 with fail
  go_cut [] (fun wx => wx = w.alloc (.cells #[.int .i64 (I 0 : Nat), .int .i64 (I 1 : Nat), .int .i64 (J 2 : Nat), .int .i64 (I 3 : Nat), .int .i64 (I 4 : Nat), .int .i64 (I 5 : Nat), .int .i64 (I 6 : Nat), .int .i64 (I 7 : Nat), .int .i64 (I 8 : Nat), .int .i64 (I 9 : Nat), .int .i64 (I 10 : Nat), .int .i64 (I 11 : Nat), .int .i64 (I 12 : Nat)] 56))
  case first =>
    have x1 := wrap64_nat (x / 1024) (by have := HX.out; omega)
    have x2 := wrap64_nat (x / 1024 * 1024) (by have := HX.out; omega)
    simp only [Int.natCast_mul, Int.natCast_ediv, Int.cast_ofNat_Int] at x1 x2
    by_cases h : (I 0 : Int) = 2
    · have E := Lib.hid (JR.out.1 h)
      have t1 : (((I 0 : Nat) : Int) == 2) = true := by simpa using h
      clear h
      have X1 := Lib.hid x1; have X2 := Lib.hid x2
      go_wp2_with fail
      go_meet
      first | rw [E.out] | rw [X1.out, X2.out, E.out]
    · have E := Lib.hid (JR.out.2 h)
      have t1 : (((I 0 : Nat) : Int) == 2) = false := by simpa using h
      go_wp2_with fail
      go_meet
      rw [E.out]
  case rest =>
  obtain rfl := hcut
  have hk3 : ∀ W : World, Blk 56 (W.alloc (.cells #[.int .i64 (I 0 : Nat), .int .i64 (I 1 : Nat), .int .i64 (J 2 : Nat), .int .i64 (I 3 : Nat), .int .i64 (I 4 : Nat), .int .i64 (I 5 : Nat), .int .i64 (I 6 : Nat), .int .i64 (I 7 : Nat), .int .i64 (I 8 : Nat), .int .i64 (I 9 : Nat), .int .i64 (I 10 : Nat), .int .i64 (I 11 : Nat), .int .i64 (I 12 : Nat)] 56)) W.heap.size (inoL (K 0).1) := fun W => by
    rw [← HZ.out (J 2 : Nat) rfl]; exact Blk.newL _
  have hB0 : Below w.heap.size w ((w.alloc (.cells (inoL (K 0).1).toArray 56)).alloc (.cells (inoL noIno ++ rest0).toArray 74)) := ((Below.refl _ w).alloc (Nat.le_refl _) _).alloc (by simp) _
  have HB0 := Lib.hid hB0; have HK3 := Lib.hid hk3
  clear hB0 hk3
  go_wp2_with fail
  go_loopw [6] (fun i' wr => ∃ k : Nat, k ≤ 8 ∧ i' = .int .i64 k ∧ Blk 56 wr w.heap.size (inoL (K k).1) ∧ Blk 74 wr (w.heap.size + 1) (inoL noIno ++ rest0) ∧ Blk 4 wr C (boolsL (K k).2 g.blocks) ∧ Mods (· = C) w wr) (fun i' _ => 8 - (intOf i').toNat)
  case atStart =>
    have hb : Below w.heap.size w ((w.alloc (.cells (inoL (K 0).1).toArray 56)).alloc (.cells (inoL noIno ++ rest0).toArray 74)) := HB0.out
    rw [← HZ.out (J 2 : Nat) rfl] at hb
    exact ⟨0, by omega, rfl, (HK3.out w).alloc _, Blk.snd _ (inoL noIno ++ rest0), HC0.out _ hb, mods_of_below hb⟩
  case round =>
    obtain ⟨k, hk, rfl, hI1, hT, hC, hM⟩ := hrel
    have hz1 := hM.size
    have lI := hI1.lt; have lT := hT.lt
    by_cases hlt : k < 8
    · obtain ⟨q, hq⟩ : ∃ q, q = keepO g (K k).2 ((K k).1 (3 + k)) k (J 2) := ⟨_, rfl⟩
      have hk2 := HK.out k
      have y3 := hI1.cell (3 + k); have y2 := hI1.cell 2
      rw [inoL_get _ _ (by omega)] at y3 y2
      rw [hk2] at y2
      have f3 := hI1.frozen (3 + k)
      have RKk := HRK.out wr.drew ((K k).1 (3 + k)) k k (K k).2 rfl (by omega) hM.drew hC.drew
      have hs := HKS.out k
      rw [← hq] at hs RKk
      have HS := Lib.hid hs; have HC := Lib.hid hC; have HI := Lib.hid hI1; have HT := Lib.hid hT; have HM := Lib.hid hM; have HRKk := Lib.hid RKk
      clear hs hC hI1 hT hM RKk hq hk2
      cases q
      all_goals (
        have e1 := HS.out
        simp only [if_true, Bool.false_eq_true, if_false] at e1
        have HE := Lib.hid e1
        clear e1
        go_wp2_with fail
        refine wp_region_held_drew (S := fun (w' : World) => w'.cell? ⟨w.heap.size, 3 + k, none⟩ = some (.int .i64 ((K k).1 (3 + k) : Nat)) ∧ w'.cell? ⟨w.heap.size, 2, none⟩ = some (.int .i64 (J 2 : Nat))) (by kernel_rfl) ⟨y3, y2⟩ (fun hHeld => ?_)
        refine tkA (i := 0) (oi := ⟨_, _, _, _, _, _⟩) ?_
        simp only [putA, List.set]
        refine tkA (i := 1) (oi := ⟨_, _, _, _, _, _⟩) ?_
        simp only [putA, List.set]
        refine tkA (i := 2) (oi := ⟨_, _, _, _, _, _⟩) ?_
        simp only [putA, List.set]
        refine tkA (i := 3) (oi := ⟨_, _, _, _, _, _⟩) ?_
        simp only [putA, List.set]
        refine tkA (i := 4) (oi := ⟨_, _, _, _, _, _⟩) ?_
        simp only [putA, List.set]
        refine tkA (i := 5) (oi := ⟨_, _, _, _, _, _⟩) ?_
        simp only [putA, List.set]
        refine tkA (i := 6) (oi := ⟨_, _, _, _, _, _⟩) ?_
        simp only [putA, List.set]
        refine tkA (i := 7) (oi := ⟨_, _, _, _, _, _⟩) ?_
        simp only [putA, List.set]
        refine wpAnyH_ready (rs := [8]) (by kernel_rfl) (by simp) ?_
        refine AllReadyH.cons rfl (fun K hK => ?_) AllReadyH.nil
        go_simp
        refine HRKk.out.mono ?_
        rintro e w2 ⟨rfl, hC2, hM2⟩
        have hI2 := HI.out.drew.mods hM2 (fun e => by omega)
        have z3 := hI2.cell (3 + k); have z2 := hI2.cell 2
        rw [inoL_get _ _ (by omega)] at z3 z2
        rw [HK.out k] at z2
        refine hK.out _ _ ?_ (fun hHeld => ?_)
        · exact ⟨z3, z2⟩
        refine tkA (i := 9) (oi := ⟨_, _, _, _, _, _⟩) ?_
        simp only [putA, List.set]
        refine wpAnyH_done (by kernel_rfl) ?_ _
        have hT2 := HT.out.drew.mods hM2 (fun e => by omega)
        have hMM := HM.out.drew.trans hM2 (fun i _ e => e)
        have hz2 := hM2.size
        have g3 := hI2.frozen (3 + k)
        have l2 := hI2.lt
        have HC2 := Lib.hid hC2; have HI2 := Lib.hid hI2; have HT2 := Lib.hid hT2; have HMM := Lib.hid hMM
        clear hC2 hM2 hI2 hT2 hMM hHeld
        go_wp2_with fail
        go_roundw
        case rel =>
          first
          | exact ⟨k + 1, by omega, by go_num, by rw [HE.out]; exact HI2.out, HT2.out, by rw [HE.out]; simpa using HC2.out, HMM.out⟩
          | exact ⟨k + 1, by omega, by go_num, by
              have h2 := HI2.out.set (3 + k) (.int .i64 ((0 : Nat) : Int))
              rw [inoL_set _ _ _ (by omega)] at h2
              rw [HE.out]; exact h2, HT2.out.other _ _ (by simp), by
              have h2 := HC2.out.other ⟨w.heap.size, 3 + k, none⟩ (.int .i64 0) (by show w.heap.size ≠ C; omega)
              rw [HE.out]; simpa using h2, HMM.out.setCell _ (fun h => by simp at h) _⟩
        case measure => simp [intOf]; omega)
    · obtain rfl : k = 8 := by omega
      have k11 := H11.out; have k12 := H12.out
      have R1 := HRK.out wr (I 11) 8 8 (K 8).2 rfl (by omega) hM hC
      rw [Q11.out] at R1
      have R2 := fun W (h1 : Mods (· = C) w W) h2 => HRK.out W (I 12) 264 264 (K 8).2 rfl (by omega) h1 h2
      simp only [Q12.out] at R2
      obtain ⟨a0, a1, a2, a3, a4, a5, a6, a7, a8, a9, a10, a11, a12⟩ := cells13 hI1
      rw [k11] at a11
      rw [HK.out 8] at a2
      have f11 := hI1.frozen 11
      have HI := Lib.hid hI1; have HT := Lib.hid hT; have HM := Lib.hid hM; have HR1 := Lib.hid R1; have HR2 := Lib.hid R2
      clear hC hI1 hT hM R1 R2 a0 a1 a3 a4 a5 a6 a7 a8 a9 a10 a12 k11 k12 hlt hk
      go_wp2_with (first
        | (go_at_call 98; with_reducible refine HR1.out.mono ?_; rintro e w2 ⟨rfl, hC2, hM2⟩
           have hI2 := HI.out.mods hM2 (fun e => by omega)
           have b2 := hI2.cell 2; have b11 := hI2.cell 11; have b12 := hI2.cell 12; have g11 := hI2.frozen 11; have l2 := hI2.lt; have hz2 := hM2.size
           have hC2' : Blk 4 (w2.setCell ⟨w.heap.size, 11, none⟩ (.int .i64 0)) C (boolsL (K 8).2 g.blocks) := Blk.other (by simpa using hC2) ⟨w.heap.size, 11, none⟩ (.int .i64 0) (by show w.heap.size ≠ C; omega)
           have hM2' : Mods (· = C) w (w2.setCell ⟨w.heap.size, 11, none⟩ (.int .i64 0)) := (HM.out.trans hM2 (fun i _ e => e)).setCell _ (fun h => by simp at h) _
           have hI2' := hI2.set 11 (.int .i64 ((0 : Nat) : Int))
           have hT2' := (HT.out.mods hM2 (fun e => by omega)).other ⟨w.heap.size, 11, none⟩ (.int .i64 0) (by simp)
           have R3 := HR2.out _ hM2' hC2'
           have HR3 := Lib.hid R3; have HI2 := Lib.hid hI2'; have HT2 := Lib.hid hT2'; have HM2 := Lib.hid hM2'
           rw [inoL_get _ _ (by omega)] at b2 b11 b12
           rw [HK.out 8] at b2
           rw [H12.out] at b12
           clear hC2 hM2 hI2 hC2' hM2' hI2' hT2' R3)
        | (go_at_call 98; with_reducible refine HR3.out.mono ?_; rintro e w3 ⟨rfl, hC3, hM3⟩
           have hI3 := HI2.out.mods hM3 (fun e => by omega)
           have hT3 := HT2.out.mods hM3 (fun e => by omega)
           rw [inoL_set _ _ _ (by omega)] at hI3
           have hz3 := hM3.size
           have hM3' := HM2.out.trans hM3 (fun i _ e => e)
           have HC3 := Lib.hid hC3; have HT3 := Lib.hid hT3; have HM3 := Lib.hid hM3'
           have g12 := hI3.frozen 12; have l3 := hI3.lt; have lT3 := hT3.lt
           obtain ⟨d0, d1, d2, d3, d4, d5, d6, d7, d8, d9, d10, d11, d12⟩ := cells13 hI3
           obtain ⟨t0, t1, t2, t3, t4, t5, t6, t7, t8, t9, t10, t11, t12⟩ := cells13m hT3
           obtain ⟨v0, v1, v2, v3, v4, v5, v6, v7, v8, v9, v10, v11, v12⟩ := frozen13 hT3
           clear hC3 hT3 hM3 hM3' hI3))
      change bodyPost _ _ _ _ _ (put13 (w3.setCell ⟨w.heap.size, 12, none⟩ (.int .i64 0)) (w.heap.size + 1) (fun j => if j = 12 then 0 else if j = 11 then 0 else (K 8).1 j))
      have hk := put13_more (i := fun j => if j = 12 then 0 else if j = 11 then 0 else (K 8).1 j) (HT3.out.other ⟨w.heap.size, 12, none⟩ (.int .i64 0) (by simp))
      have hc := put13_other (B := w.heap.size + 1) (i := fun j => if j = 12 then 0 else if j = 11 then 0 else (K 8).1 j) (HC3.out.other ⟨w.heap.size, 12, none⟩ (.int .i64 0) (by show w.heap.size ≠ C; omega)) (by omega)
      have hm := put13_mods (B := w.heap.size + 1) (fun j => if j = 12 then 0 else if j = 11 then 0 else (K 8).1 j) (HM3.out.setCell ⟨w.heap.size, 12, none⟩ (fun h => by simp at h) (.int .i64 0)) (by omega)
      generalize put13 (w3.setCell ⟨w.heap.size, 12, none⟩ (.int .i64 0)) (w.heap.size + 1) (fun j => if j = 12 then 0 else if j = 11 then 0 else (K 8).1 j) = W at hk hc hm ⊢
      go_ret
      exact ⟨_, rfl, by omega, hk, by simpa using hc, hm⟩
end Go.Proofs.YtbbgahffcjbloaaGreat
end

section
/- The reference's repair: a directory is cut (no indirect blocks). -/
namespace Go.Proofs.YtbbgahffcjbloaaGreat
open Go.RowKit

theorem Blk.grown {e : TypeId} {w w' : World} {B : Nat} {xs : List Value} {r : Option Nat} (h : Blk e w B xs) (hg : w.grownBy w' r) (hn : r ≠ some B) : Blk e w' B xs := by
  unfold Blk at h ⊢
  rw [hg.block B (Array.getElem?_eq_some_iff.1 h).1 (fun e => hn e.symm)]; exact h
theorem set_mods (w : World) (B k : Nat) (v : Value) : Mods (fun i => i = B) w (w.setCell ⟨B, k, none⟩ v) := (Mods.refl (fun i => i = B) w).setCell ⟨B, k, none⟩ (fun _ => rfl) v
theorem of_none {w : World} {B : Nat} {i : InoN} {dv up lv : Value} (h : Blk 74 w B (inoL i ++ [dv, up, lv, .slice none 0 0])) (p : Nat) : Calls Tryz.prog 63 #[.pointer (some ⟨B, 0, none⟩), .int .i64 p] w fun e w' => e = .returned (.int .i64 (-1)) ∧ w = w' := by
  have c16 : w.cell? ⟨B, 16, none⟩ = some (.slice none 0 0) := h.cell 16
  have hl := h.lt
  clear h
  go_enter Tryz.func63, Tryz.ntmps63
  go_wp2
  go_loopw [5] (fun i' wr => i' = .int .i64 0 ∧ wr = w) (fun _ _ => 0)
  case atStart => exact ⟨rfl, rfl⟩
  case round =>
    obtain ⟨rfl, rfl⟩ := hrel
    go_wp2
    go_ret
    exact ⟨rfl, rfl⟩
theorem inoL_more {i : InoN} {r : List Value} {k : Nat} (h : k < 13) : (inoL i ++ r)[k]? = some (.int .i64 (i k : Nat)) := by
  rw [List.getElem?_append_left (show k < 13 from h), inoL_get _ _ h]
set_option maxRecDepth 100000 in
set_option maxHeartbeats 2000000 in
theorem pointer_none {w : World} {B : Nat} {i : InoN} {dv up lv : Value} (h : Blk 74 w B (inoL i ++ [dv, up, lv, .slice none 0 0])) (h11 : i 11 = 0) (h12 : i 12 = 0) (n : Nat) (hn : n < 65800) : Calls Tryz.prog 137 #[.pointer (some ⟨B, 0, none⟩), .int .i64 n] w fun e w' => e = .returned (.int .i64 ((if n < 8 then i (3 + n) else 0 : Nat) : Int)) ∧ w = w' := by
  have OF := Lib.hid (fun p => of_none h p)
  have PL := Lib.hid (rplace_c n hn w)
  have c11 := h.cell 11; have c12 := h.cell 12
  rw [inoL_more (by omega)] at c11 c12
  rw [h11] at c11
  rw [h12] at c12
  have hl := h.lt
  by_cases h8 : n < 8
  · have e0 : plL n = 0 := by unfold plL; rw [if_pos h8]
    have e1 : plA n = n := by unfold plA; rw [if_pos h8]
    have cn := h.cell (3 + n)
    rw [inoL_more (by omega)] at cn
    rw [if_pos h8]
    have PL2 := PL.out
    rw [e0, e1] at PL2
    have HPL := Lib.hid PL2
    clear PL2 e0 e1 h h11 h12 hn
    go_enter Tryz.func137, Tryz.ntmps137
    go_wp2_with (go_at_call 125; refine HPL.out.mono ?_; rintro e w2 ⟨rfl, rfl⟩)
    go_ret
    exact ⟨rfl, rfl⟩
  · rw [if_neg h8]
    by_cases h2 : n < 264
    · have e0 : plL n = 1 := by unfold plL; rw [if_neg h8, if_pos h2]
      have PL2 := PL.out
      rw [e0] at PL2
      have HPL := Lib.hid PL2
      have O0 := OF.out 0
      have HO0 := Lib.hid O0
      clear PL2 e0 h h11 h12 hn O0 h8 h2
      go_enter Tryz.func137, Tryz.ntmps137
      go_wp2_with (first
        | (go_at_call 125; refine HPL.out.mono ?_; rintro e w2 ⟨rfl, rfl⟩)
        | (go_at_call 63; refine HO0.out.mono ?_; rintro e w2 ⟨rfl, rfl⟩))
      go_ret
      exact ⟨rfl, rfl⟩
    · have e0 : plL n = 2 := by unfold plL; rw [if_neg h8, if_neg h2]
      have PL2 := PL.out
      rw [e0] at PL2
      have HPL := Lib.hid PL2
      have O0 := OF.out 0
      have HO0 := Lib.hid O0
      clear PL2 e0 h h11 h12 hn O0 h8 h2
      go_enter Tryz.func137, Tryz.ntmps137
      go_wp2_with (first
        | (go_at_call 125; refine HPL.out.mono ?_; rintro e w2 ⟨rfl, rfl⟩)
        | (go_at_call 63; refine HO0.out.mono ?_; rintro e w2 ⟨rfl, rfl⟩))
      go_ret
      exact ⟨rfl, rfl⟩
/-- how many blocks from the first on there are without a gap, of the first k -/
def mUp (i : InoN) : Nat → Nat
  | 0 => 0
  | k + 1 => if mUp i k = k ∧ k < i 2 / 1024 ∧ i (3 + k) ≠ 0 then k + 1 else mUp i k
theorem mUp_le (i : InoN) : ∀ k, mUp i k ≤ k
  | 0 => Nat.le_refl _
  | k + 1 => by
    have := mUp_le i k
    unfold mUp
    split <;> omega
theorem mUp_stop {i : InoN} {m : Nat} (h : mUp i m = m) (hs : ¬ (m < i 2 / 1024 ∧ i (3 + m) ≠ 0)) : ∀ k, mUp i (m + k) = m
  | 0 => h
  | k + 1 => by
    have ih := mUp_stop h hs k
    show (if mUp i (m + k) = m + k ∧ _ then _ else _) = _
    rw [if_neg]
    · exact ih
    intro ⟨h1, h2, h3⟩
    have : k = 0 := by omega
    subst this
    exact hs ⟨h2, h3⟩
def leadOf (i : InoN) (m : Nat) : List Nat := (List.range m).map fun k => i (3 + k)
theorem leadOf_succ (i : InoN) (m : Nat) : leadOf i (m + 1) = leadOf i m ++ [i (3 + m)] := by simp [leadOf, List.range_succ]
/-- the first k pointers, those from m on given up -/
def gvI (i : InoN) (m k : Nat) : InoN := fun j => if 3 + m ≤ j ∧ j < 3 + k then 0 else i j
def gvC (g : Geo) (i : InoN) (m : Nat) (c : Nat → Bool) : Nat → (Nat → Bool)
  | 0 => c
  | k + 1 => if m ≤ k then (fun x => if g.dOk (i (3 + k)) = true ∧ x = g.dNo (i (3 + k)) then false else gvC g i m c k x) else gvC g i m c k
def szI (i : InoN) (m : Nat) : InoN := fun j => if j = 2 then m * 1024 else i j
/-- a directory that is cut; its blocks -/
def cutF (g : Geo) (i : InoN) (c : Nat → Bool) : InoN × (Nat → Bool) := (gvI (szI i (mUp i 8)) (mUp i 8) 8, gvC g i (mUp i 8) c 8)
set_option maxRecDepth 100000 in
set_option maxHeartbeats 4000000 in
theorem rcut_c (g : Geo) (hg : g.Ok) (R D C cc b o N cap B : Nat) (tv ov dv up : Value) (z : Bool) (c : Nat → Bool) (i : InoN) (hi : i 2 ≤ 67379200) (h11 : i 11 = 0) (h12 : i 12 = 0) (w : World) (hR : Rp R D C g.blocks cc tv ov z w) (hD : Dk g D b o N cap w) (hC : Blk 4 w C (boolsL c g.blocks)) (hT : Blk 74 w B (inoL i ++ [dv, up, .slice none 0 0, .slice none 0 0])) :
    Calls Tryz.prog 122 #[.pointer (some ⟨R, 0, none⟩), .pointer (some ⟨B, 0, none⟩)] w fun e w' => e = .returned (.tuple #[]) ∧ ∃ lv,
      Blk 74 w' B (inoL (cutF g i c).1 ++ [dv, up, lv, .slice none 0 0]) ∧ w'.ownsRow w.heap.size 3 1 lv (mUp i 8) (natsV (leadOf i (mUp i 8))) ∧ Blk 4 w' C (boolsL (cutF g i c).2 g.blocks) ∧ Mods (fun k => k = C ∨ k = B) w w' := by
  obtain ⟨j0, hj0, hy0, hy1, hy2⟩ := info_parts infoInt
  have hRC : R ≠ C := blkNe hR hC (by decide)
  have hDC : D ≠ C := blkNe hD hC (by decide)
  have hRB : R ≠ B := blkNe hR hT (by decide)
  have hDB : D ≠ B := blkNe hD hT (by decide)
  have hBC : B ≠ C := blkNe hT hC (by decide)
  have lC := hC.lt; have lR := hR.lt; have lD := hD.lt; have lB := hT.lt
  have HR := Lib.hid hR; have HD := Lib.hid hD; have HC := Lib.hid hC; have H11 := Lib.hid h11; have H12 := Lib.hid h12
  have HT0 := Lib.hid hT
  clear hR hD hC h11 h12 hT
  unfold cutF
  dsimp only
  have hm8 := mUp_le i 8
  obtain ⟨m0, hm0⟩ : ∃ m0, m0 = mUp i 8 := ⟨_, rfl⟩
  rw [← hm0] at hm8
  rw [← hm0]
  have HM0 := Lib.hid hm0
  clear hm0
  go_enter Tryz.func122, Tryz.ntmps122
  go_upto_block 0 with fail
  go_cut [4] (fun m' wx => m' = .int .i64 (m0 : Nat) ∧ ∃ lv, Blk 74 wx B (inoL i ++ [dv, up, lv, .slice none 0 0]) ∧ wx.ownsRow w.heap.size 3 1 lv m0 (natsV (leadOf i m0)) ∧ Mods (fun k => k = B) w wx)
  case first =>
    go_wp2_with fail
    go_loopw [4] (fun m' wr => ∃ m : Nat, m ≤ 8 ∧ mUp i m = m ∧ m' = .int .i64 m ∧ ∃ lv, Blk 74 wr B (inoL i ++ [dv, up, lv, .slice none 0 0]) ∧ wr.ownsRow w.heap.size 3 1 lv m (natsV (leadOf i m)) ∧ Mods (fun k => k = B) w wr) (fun m' _ => 8 - (intOf m').toNat)
    case atStart => exact ⟨0, by omega, rfl, rfl, _, HT0.out, World.ownsRow_nil _ _ _ _, Mods.refl _ _⟩
    case round =>
      obtain ⟨m, hm8, hmU, rfl, lv, hT, hL, hM⟩ := hrel
      have hz := hM.size
      have c2 := hT.cell 2
      rw [inoL_more (by omega)] at c2
      have PT := fun hm => pointer_none hT H11.out H12.out m hm
      have lT := hT.lt
      by_cases hA : m < i 2 / 1024
      · have tA : decide ((m : Int) < (i 2 : Int) / 1024) = true := by simp; omega
        have tA2 : (m : Int) < (i 2 : Int) / 1024 := by omega
        have PT := PT (by omega)
        by_cases hx : (if m < 8 then i (3 + m) else 0) = 0
        · have e8 : mUp i 8 = m := by
            by_cases h8 : m = 8
            · rw [h8] at hmU; rw [hmU, h8]
            · have := mUp_stop hmU (fun h => h.2 (by rw [if_pos (by omega)] at hx; exact hx)) (8 - m)
              rwa [show m + (8 - m) = 8 by omega] at this
          rw [hx] at PT
          have HPT := Lib.hid PT; have E8 := Lib.hid (HM0.out.trans e8); have HT := Lib.hid hT; have HL := Lib.hid hL; have HM := Lib.hid hM
          clear PT e8 hT hL hM hx hmU hA
          go_wp2_with (go_at_call 137; refine HPT.out.mono ?_; rintro e w2 ⟨rfl, rfl⟩)
          go_meet
          rw [E8.out]
          exact ⟨rfl, lv, HT.out, HL.out, HM.out⟩
        · have h8 : m < 8 := by
            by_cases h8 : m < 8
            · exact h8
            · rw [if_neg h8] at hx; exact absurd rfl hx
          rw [if_pos h8] at hx PT
          have hmU2 : mUp i (m + 1) = m + 1 := by unfold mUp; rw [if_pos ⟨hmU, hA, hx⟩]
          have tx : (((i (3 + m) : Nat) : Int) == 0) = false := by simpa using hx
          have c15 : wr.cell? ⟨B, 15, none⟩ = some lv := hT.cell 15
          have f15 := hT.frozen 15
          have HPT := Lib.hid PT; have HU := Lib.hid hmU2; have HT := Lib.hid hT; have HL := Lib.hid hL; have HM := Lib.hid hM
          clear PT hT hL hM hx hmU hA hmU2
          go_wp2_with (first
            | (go_at_call 137; refine HPT.out.mono ?_; rintro e w2 ⟨rfl, rfl⟩)
            | (at_builtin; refine app_own [_] rfl _ _ 28 rfl w.heap.size 3 j0 (.int .i64 0) 1 8 Tryz.underlying28 hj0 hy0 hy1 hy2 rfl (by decide) _ m _ rfl (by exact .inl HL.out) rfl rfl (by simp [Value.oneCell']) (by unfold maxLen; omega) (by omega) hz ?_
               intro G cap2 w3 ho3 hg3 ha3 hl3
               have hT3 := HT.out.grown hg3 (fun e => by have := own_base HL.out _ e; omega)
               have k15 : w3.cell? ⟨B, 15, none⟩ = some lv := hT3.cell 15
               have kf15 := hT3.frozen 15
               have lT3 := hT3.lt
               have hm3 := HM.out.grown hg3 (fun k e hk => by have := own_base HL.out _ e; omega)
               have HT3 := Lib.hid hT3; have HO3 := Lib.hid ho3; have HM3 := Lib.hid hm3
               clear hT3 ho3 hm3 hg3 ha3))
          go_roundw
          case rel =>
            refine ⟨m + 1, by omega, HU.out, by go_num, _, HT3.out.set 15 _, ?_, HM3.out.setCell _ (fun _ => rfl) _⟩
            rw [leadOf_succ, natsV_snoc]
            exact own_mods HO3.out (set_mods _ _ _ _) fun k hk e => by have := own_base HO3.out _ hk; omega
          case measure => simp [intOf]; omega
      · have tA : decide ((m : Int) < (i 2 : Int) / 1024) = false := by simp; omega
        have tA2 : ¬ (m : Int) < (i 2 : Int) / 1024 := by omega
        have e8 : mUp i 8 = m := by
          by_cases h8 : m = 8
          · rw [h8] at hmU; rw [hmU, h8]
          · have := mUp_stop hmU (fun h => hA h.1) (8 - m)
            rwa [show m + (8 - m) = 8 by omega] at this
        have E8 := Lib.hid (HM0.out.trans e8); have HT := Lib.hid hT; have HL := Lib.hid hL; have HM := Lib.hid hM
        clear PT e8 hT hL hM hmU hA
        go_wp2_with fail
        go_meet
        rw [E8.out]
        exact ⟨rfl, lv, HT.out, HL.out, HM.out⟩
  case rest =>
    obtain ⟨rfl, lv, hT, hL, hM⟩ := hcut
    have c2 := hT.cell 2
    rw [inoL_more (by omega)] at c2
    have f2 := hT.frozen 2
    have lT := hT.lt
    have hz := hM.size
    have hT1 : Blk 74 (wc.setCell ⟨B, 2, none⟩ (.int .i64 ((m0 : Int) * 1024))) B (inoL (szI i m0) ++ [dv, up, lv, .slice none 0 0]) := by
      have := hT.set 2 (.int .i64 ((m0 : Int) * 1024))
      exact this
    have hM1 : Mods (fun k => k = C ∨ k = B) w (wc.setCell ⟨B, 2, none⟩ (.int .i64 ((m0 : Int) * 1024))) := (hM.setCell _ (fun _ => rfl) _).mono fun _ _ e => .inr e
    have hL1 := own_mods hL (set_mods wc B 2 (.int .i64 ((m0 : Int) * 1024))) fun k hk e => by have := own_base hL _ hk; omega
    have hC1 : Blk 4 (wc.setCell ⟨B, 2, none⟩ (.int .i64 ((m0 : Int) * 1024))) C (boolsL c g.blocks) := (HC.out.mods hM (fun e => hBC e.symm)).other ⟨B, 2, none⟩ _ hBC
    have GV := fun W p c (h1 : Mods (fun k => k = C ∨ k = B) w W) h2 => rgive_c g hg R D C cc b o N cap p tv ov z c W (HR.out.mods h1 (fun e => e.elim hRC hRB)) (HD.out.mods h1 (fun e => e.elim hDC hDB)) h2
    have HT1 := Lib.hid hT1; have HM1 := Lib.hid hM1; have HL1 := Lib.hid hL1; have HC1 := Lib.hid hC1; have HGV := Lib.hid GV
    clear hT hL hM hT1 hM1 hL1 hC1 GV
    go_wp2_with fail
    go_loopw [6] (fun k' wr => ∃ k : Nat, k ≤ 8 ∧ k' = .int .i64 k ∧ Blk 74 wr B (inoL (gvI (szI i m0) m0 k) ++ [dv, up, lv, .slice none 0 0]) ∧ wr.ownsRow w.heap.size 3 1 lv m0 (natsV (leadOf i m0)) ∧ Blk 4 wr C (boolsL (gvC g i m0 c k) g.blocks) ∧ Mods (fun k => k = C ∨ k = B) w wr) (fun k' _ => 8 - (intOf k').toNat)
    case atStart =>
      refine ⟨0, by omega, rfl, ?_, HL1.out, HC1.out, HM1.out⟩
      rw [inoL_congr (i := gvI (szI i m0) m0 0) (j := szI i m0) fun j _ => by unfold gvI; rw [if_neg (by omega)]]
      exact HT1.out
    case round =>
      obtain ⟨k, hk, rfl, hT, hL, hC, hM⟩ := hrel
      have hz := hM.size
      have lT := hT.lt
      by_cases hlt : k < 8
      · have ck := hT.cell (3 + k)
        rw [inoL_more (by omega)] at ck
        have fk := hT.frozen (3 + k)
        have eg : gvI (szI i m0) m0 k (3 + k) = i (3 + k) := by unfold gvI szI; rw [if_neg (by omega), if_neg (by omega)]
        rw [eg] at ck
        by_cases hmk : m0 ≤ k
        · have tA : decide ((m0 : Int) ≤ (k : Int)) = true := by simp; omega
          have GVk := HGV.out wr (i (3 + k)) _ hM hC
          have hs : gvC g i m0 c (k + 1) = fun x => if g.dOk (i (3 + k)) = true ∧ x = g.dNo (i (3 + k)) then false else gvC g i m0 c k x := by
            show (if m0 ≤ k then _ else _) = _
            rw [if_pos hmk]
          rw [← hs] at GVk
          have HG := Lib.hid GVk; have HT := Lib.hid hT; have HL := Lib.hid hL; have HM := Lib.hid hM
          clear GVk hs hT hL hC hM eg
          go_wp2_with (go_at_call 138; refine HG.out.mono ?_; rintro e w2 ⟨rfl, hC2, hm2⟩
                       have hT2 := HT.out.mods hm2 hBC
                       have ck2 := hT2.cell (3 + k); have fk2 := hT2.frozen (3 + k); have lT2 := hT2.lt
                       rw [inoL_more (by omega)] at ck2
                       have hM2 := HM.out.trans hm2 (fun _ _ e => .inl e)
                       have hL2 := own_mods HL.out hm2 (fun q hq e => by have := own_base HL.out _ hq; omega)
                       have hz2 := hm2.size
                       have HC2 := Lib.hid hC2; have HT2 := Lib.hid hT2; have HM2 := Lib.hid hM2; have HL2 := Lib.hid hL2
                       clear hC2 hm2 hT2 hM2 hL2)
          go_roundw
          case rel =>
            refine ⟨k + 1, by omega, by go_num, ?_, own_mods HL2.out (set_mods _ _ _ _) fun q hq e => by have := own_base HL2.out _ hq; omega, HC2.out.other ⟨B, 3 + k, none⟩ _ hBC, HM2.out.setCell _ (fun _ => .inr rfl) _⟩
            have h2 := HT2.out.set (3 + k) (.int .i64 ((0 : Nat) : Int))
            rw [List.set_append_left _ _ (show 3 + k < 13 by omega), inoL_set _ _ _ (by omega)] at h2
            rw [inoL_congr (i := gvI (szI i m0) m0 (k + 1)) (j := fun q => if q = 3 + k then 0 else gvI (szI i m0) m0 k q) fun j _ => by
              unfold gvI
              by_cases e : j = 3 + k
              · rw [if_pos (by omega), if_pos e]
              · rw [if_neg e]
                by_cases e2 : 3 + m0 ≤ j ∧ j < 3 + k
                · rw [if_pos (by omega), if_pos e2]
                · rw [if_neg (by omega), if_neg e2]]
            exact h2
          case measure => simp [intOf]; omega
        · have tA : decide ((m0 : Int) ≤ (k : Int)) = false := by simp; omega
          have hs : gvC g i m0 c (k + 1) = gvC g i m0 c k := by
            show (if m0 ≤ k then _ else _) = _
            rw [if_neg hmk]
          have HS := Lib.hid hs; have HT := Lib.hid hT; have HL := Lib.hid hL; have HM := Lib.hid hM; have HCC := Lib.hid hC
          clear hs hT hL hC hM eg
          go_wp2_with fail
          go_roundw
          case rel =>
            refine ⟨k + 1, by omega, by go_num, ?_, HL.out, by rw [HS.out]; exact HCC.out, HM.out⟩
            rw [inoL_congr (i := gvI (szI i m0) m0 (k + 1)) (j := gvI (szI i m0) m0 k) fun j _ => by
              unfold gvI
              by_cases e2 : 3 + m0 ≤ j ∧ j < 3 + k
              · rw [if_pos (by omega), if_pos e2]
              · rw [if_neg (by omega), if_neg e2]]
            exact HT.out
          case measure => simp [intOf]; omega
      · obtain rfl : k = 8 := by omega
        have c16 : wr.cell? ⟨B, 16, none⟩ = some (.slice none 0 0) := hT.cell 16
        have f16 := hT.frozen 16
        have hT2 := hT.set 16 (.slice none 0 0)
        have hL2 := own_mods hL (set_mods wr B 16 (.slice none 0 0)) (fun q hq e => by have := own_base hL _ hq; omega)
        have hC2 := hC.other ⟨B, 16, none⟩ (.slice none 0 0) hBC
        have hM2 := hM.setCell ⟨B, 16, none⟩ (fun _ => .inr rfl) (.slice none 0 0)
        have HT2 := Lib.hid hT2; have HL2 := Lib.hid hL2; have HC2 := Lib.hid hC2; have HM2 := Lib.hid hM2
        clear hT hL hC hM hT2 hL2 hC2 hM2 hlt hk
        go_wp2_with fail
        go_loopw [7, 8] (fun a' i' wz => a' = .slice none 0 0 ∧ i' = .int .i64 0 ∧ wz = wr) (fun _ _ _ => 0)
        case atStart => exact ⟨rfl, rfl, rfl⟩
        case round =>
          obtain ⟨rfl, rfl, rfl⟩ := hrel
          go_wp2_with fail
          refine bodyPost_end (results_none rfl _ _ _) rfl ?_
          exact ⟨rfl, lv, HT2.out, HL2.out, HC2.out, HM2.out⟩
end Go.Proofs.YtbbgahffcjbloaaGreat
end

section
/- The reference's repair: an inode is taken in. -/
namespace Go.Proofs.YtbbgahffcjbloaaGreat
open Go.RowKit

def setL (n : Nat) (i : InoN) : InoN := fun j => if j = 1 then n else i j
/-- app_own, where the newest block's number is written otherwise -/
theorem app_own2 {P : Program} {ops : Array Oper} {rest : List Oper} {o : Oper} {a : Act} {wr : World} {Q : Exit → Act → World → Prop} (us : List Value) (hgd : o.guard = none) (s x : Operand) (t : TypeId)
    (ho : o.op = .call { callee := .builtin .append, args := #[s, x], argTypes := #[t, t] })
    (base : Nat) (e : TypeId) (i : TypeInfo) (z : Value) (size bytes : Nat) (ht : P.underlying t = some (.slice e)) (hi : P.info? e = some i) (hz : i.zero = some z)
    (hsize : i.size = size) (hby : i.bytes = bytes) (hzs : z.cells.size = size) (hsz : 0 < size)
    (v : Value) (n : Nat) (xs : List Value) (hs : a.eval s = v) (hown : Src wr base e size v n xs) (B0 : Nat)
    (hx : a.eval x = .slice (some ⟨B0, 0, none⟩) 1 1) (hB0 : B0 = wr.heap.size) (hl : us.length = size) (h1 : ∀ u ∈ us, u.oneCell' = true)
    (h63 : n + 1 ≤ maxLen) (hbytes : (n + 1) * bytes ≤ 140737488355328) (hbase : base ≤ wr.heap.size)
    (h : ∀ g cap w', w'.ownsRow base e size (.slice (some ⟨g, 0, none⟩) (n + 1) cap) (n + 1) (xs ++ us) → wr.grownBy w' v.ownBlock → (v.ownBlock = some g ∨ wr.heap.size ≤ g) → g < w'.heap.size → wpList P ops Q rest (a.put o.dst (.slice (some ⟨g, 0, none⟩) (n + 1) cap)) w') :
    wpList P ops Q (o :: rest) a (wr.alloc (.cells us.toArray e)) := by
  subst hB0
  exact app_own us hgd s x t ho base e i z size bytes ht hi hz hsize hby hzs hsz v n xs hs hown hx hl h1 h63 hbytes hbase h
theorem lrow_nil (w : World) (lb : Lab) (p : Nat × Nat) (e : TypeId) (size : Nat) : LRow w lb p e size (.slice none 0 0) 0 [] := ⟨World.ownsRow_nil _ _ _ _, fun k e => by cases e⟩
set_option maxRecDepth 100000 in
set_option maxHeartbeats 4000000 in
theorem rtakef_c (g : Geo) (f : Nat → Nat) (L : RLoc) (w : World) (lb : Lab) (adr : Nat → Option Nat) (S : RSt) (h : RS g f L w lb adr S) (x up : Nat) (hx1 : 1 ≤ x ∧ x ≤ g.inodes) (hn : adr x = none) (hk : inoAt g f x 0 ≠ 2) (h11 : g.dOk (inoAt g f x 11) = false) (h12 : g.dOk (inoAt g f x 12) = false) :
    Calls Tryz.prog 97 #[.pointer (some ⟨L.R, 0, none⟩), .int .i64 x, .int .i64 up] w fun e w' => e = .returned (.bool true) ∧
      RPost g f L w lb adr w' { S with c := (cleanF g S.c (inoAt g f x)).2, T := fun y => if y = x then some ⟨setL 0 (cleanF g S.c (inoAt g f x)).1, [], up, []⟩ else S.T y } := by
  obtain ⟨ov, hRp, hov⟩ := h.rp
  have c0 := hRp.cell 0; have c2 := hRp.cell 2
  simp only [List.getElem?_cons_zero, List.getElem?_cons_succ] at c0 c2
  have lR := hRp.lt; have lC := h.cl.lt; have lT := h.tt.lt; have lD := h.dk.lt
  have hIb := fun k => inoAt_lt h.img x k
  obtain ⟨I, hI⟩ : ∃ I, I = inoAt g f x := ⟨_, rfl⟩
  have RI := rinode_c g L.D L.b L.o L.N L.cap x f w h.img h.dk
  rw [← hI] at hk h11 h12 RI hIb
  rw [← hI]
  have CL := fun W (hb : Below w.heap.size w W) => rclean_c g h.img.ok L.R L.D L.C L.cc L.b L.o L.N L.cap (.slice (some ⟨L.TB, 0, none⟩) (g.inodes + 1) L.tc) ov S.z S.c I hIb h11 h12 W (hRp.below hb lR) (h.dk.below hb lD) (h.cl.below hb lC)
  have hRC : L.R ≠ L.C := fun e => by have h1 := h.lR; rw [e, h.lC] at h1; cases h1
  have hTC : L.TB ≠ L.C := fun e => by have h1 := h.lT; rw [e, h.lC] at h1; cases h1
  have hRT : L.R ≠ L.TB := fun e => by have h1 := h.lR; rw [e, h.lT] at h1; cases h1
  obtain ⟨i', hi'⟩ : ∃ i', i' = (cleanF g S.c I).1 := ⟨_, rfl⟩
  obtain ⟨c', hc'⟩ : ∃ c', c' = (cleanF g S.c I).2 := ⟨_, rfl⟩
  rw [← hi', ← hc']
  rw [← hi', ← hc'] at CL
  unfold inoV at RI CL
  have tk : (((I 0 : Nat) : Int) == 2) = false := by simp; omega
  have ctx : ∀ W, Blk 70 W L.TB (adrL adr (g.inodes + 1)) → W.cell? ⟨L.TB, x, none⟩ = some (.pointer none) := fun W hW => by rw [hW.cell, adrL_get _ _ _ (by omega), hn]; rfl
  have HRI := Lib.hid RI; have HCL := Lib.hid CL; have HI := Lib.hid hI; have H := Lib.hid h; have HX := Lib.hid hx1; have HRP := Lib.hid hRp; have HOV := Lib.hid hov; have HTX := Lib.hid ctx; have HN := Lib.hid hn
  have kx : x < g.inodes + 1 := by omega
  clear RI CL hi' hc' hI h hk h11 h12 hIb hRp hov ctx hx1 hn
  go_enter Tryz.func97, Tryz.ntmps97
  go_wp2_with (first
    | (go_at_call 32; with_reducible refine HRI.out.mono ?_; rintro e w1 ⟨rfl, hb1⟩
       have hz1 := hb1.size
       obtain ⟨hc1, hf1⟩ := bcell hb1
       have hbW : Below w.heap.size w (w1.alloc (.cells #[.int .i64 (I 0 : Nat), .int .i64 (I 1 : Nat), .int .i64 (I 2 : Nat), .int .i64 (I 3 : Nat), .int .i64 (I 4 : Nat), .int .i64 (I 5 : Nat), .int .i64 (I 6 : Nat), .int .i64 (I 7 : Nat), .int .i64 (I 8 : Nat), .int .i64 (I 9 : Nat), .int .i64 (I 10 : Nat), .int .i64 (I 11 : Nat), .int .i64 (I 12 : Nat)] 56)) := hb1.alloc hz1 _
       have hkI : Blk 56 (w1.alloc (.cells #[.int .i64 (I 0 : Nat), .int .i64 (I 1 : Nat), .int .i64 (I 2 : Nat), .int .i64 (I 3 : Nat), .int .i64 (I 4 : Nat), .int .i64 (I 5 : Nat), .int .i64 (I 6 : Nat), .int .i64 (I 7 : Nat), .int .i64 (I 8 : Nat), .int .i64 (I 9 : Nat), .int .i64 (I 10 : Nat), .int .i64 (I 11 : Nat), .int .i64 (I 12 : Nat)] 56)) w1.heap.size (inoL I) := Blk.newL _
       have HBW := Lib.hid hbW; have HKI := Lib.hid hkI; have HB1 := Lib.hid hb1
       clear hbW hkI hb1)
    | (go_at_call 121; refine (HCL.out _ HBW.out).mono ?_; rintro e w3 ⟨B, rfl, hB, hT, hC, hM⟩
       have hz3 := hM.size
       simp only [World.size_alloc] at hB hz3
       have hkI3 := HKI.out.mods hM (fun e => by omega)
       have c03 := hkI3.cell 0
       rw [inoL_get _ _ (by omega)] at c03
       have lI3 := hkI3.lt
       have d14 : w3.cell? ⟨B, 14, none⟩ = some (.int .i64 0) := hT.cell 14
       have d1 := hT.cell 1
       rw [inoL_more (by omega)] at d1
       have e14 := hT.frozen 14; have e1 := hT.frozen 1; have lB3 := hT.lt
       have hR3 := (HRP.out.below HBW.out lR).mods hM hRC
       have hTB3 := (H.out.tt.below HBW.out lT).mods hM hTC
       have r2 : w3.cell? ⟨L.R, 2, none⟩ = some (.slice (some ⟨L.TB, 0, none⟩) (g.inodes + 1) L.tc) := hR3.cell 2
       have lR3 := hR3.lt; have lT3 := hTB3.lt
       have tx := HTX.out _ hTB3
       have ftx := hTB3.frozen x
       have nB1 : B ≠ L.R := by omega
       have nB2 : B ≠ L.TB := by omega
       have nB3 : B ≠ w1.heap.size := by omega
       have HT := Lib.hid hT; have HC := Lib.hid hC; have HM := Lib.hid hM; have HR3 := Lib.hid hR3; have HTB := Lib.hid hTB3
       clear hT hC hM hR3 hTB3 hkI3))
  go_ret
  refine ⟨rfl, ?_⟩
  have hTf : Blk 74 (((w3.setCell ⟨B, 14, none⟩ (.int .i64 (up : Nat))).setCell ⟨B, 1, none⟩ (.int .i64 0)).setCell ⟨L.TB, x, none⟩ (.pointer (some ⟨B, 0, none⟩))) B (inoL (setL 0 i') ++ [.slice none 0 0, .int .i64 (up : Nat), .slice none 0 0, .slice none 0 0]) := ((HT.out.set 14 (.int .i64 (up : Nat))).set 1 (.int .i64 ((0 : Nat) : Int))).other ⟨L.TB, x, none⟩ (.pointer (some ⟨B, 0, none⟩)) (fun e => nB2 e.symm)
  have hM0 : Mods (fun k => k = L.C ∨ k = L.TB) w w3 := ((mods_of_below (s := (· = L.C)) HBW.out).trans HM.out (fun _ _ e => e)).mono fun _ _ e => .inl e
  have hMf : Mods (fun k => k = L.C ∨ k = L.TB) w (((w3.setCell ⟨B, 14, none⟩ (.int .i64 (up : Nat))).setCell ⟨B, 1, none⟩ (.int .i64 0)).setCell ⟨L.TB, x, none⟩ (.pointer (some ⟨B, 0, none⟩))) :=
    ((hM0.setCell _ (fun h => by dsimp only at h; omega) _).setCell _ (fun h => by dsimp only at h; omega) _).setCell _ (fun _ => .inr rfl) _
  have hTBf := (((HTB.out.other ⟨B, 14, none⟩ (.int .i64 (up : Nat)) nB2).other ⟨B, 1, none⟩ (.int .i64 0) nB2).set x (.pointer (some ⟨B, 0, none⟩)))
  rw [adrL_set _ _ _ _ kx] at hTBf
  have hCf := (((HC.out.other ⟨B, 14, none⟩ (.int .i64 (up : Nat)) (by show B ≠ L.C; omega)).other ⟨B, 1, none⟩ (.int .i64 0) (by show B ≠ L.C; omega)).other ⟨L.TB, x, none⟩ (.pointer (some ⟨B, 0, none⟩)) hTC)
  have hRf := (((HR3.out.other ⟨B, 14, none⟩ (.int .i64 (up : Nat)) nB1).other ⟨B, 1, none⟩ (.int .i64 0) nB1).other ⟨L.TB, x, none⟩ (.pointer (some ⟨B, 0, none⟩)) (fun e => hRT e.symm))
  generalize ((w3.setCell ⟨B, 14, none⟩ (.int .i64 (up : Nat))).setCell ⟨B, 1, none⟩ (.int .i64 0)).setCell ⟨L.TB, x, none⟩ (.pointer (some ⟨B, 0, none⟩)) = W at hTf hMf hTBf hCf hRf ⊢
  have hx : Ext w lb (fun k => if k = B then (x, 0) else lb k) := fun k hk => if_neg (by omega)
  have lTf := hTf.lt
  have hzf := hMf.size
  refine H.out.taken (lb' := fun k => if k = B then (x, 0) else lb k) (S' := { S with c := c', T := fun y => if y = x then some ⟨setL 0 i', [], up, []⟩ else S.T y }) (hMf.mono fun _ _ e => e.elim .inl fun e => .inr (.inl e)) hx (fun k hk => ?_) ⟨ov, hRf, HOV.out.step hMf hx fun k e _ => ?_⟩ hCf x B ⟨setL 0 i', [], up, []⟩ hTBf rfl HX.out HN.out (dv := .slice none 0 0) (lv := .slice none 0 0) (dvs := []) ⟨hTf, if_pos rfl, lrow_nil _ _ _ _ _, lrow_nil _ _ _ _ _, rfl, fun b v d h1 h2 => by cases h1⟩
  · rw [if_neg (by omega)]
    exact H.out.hi k (by omega)
  · rcases e with rfl | rfl
    · rw [H.out.lC]; decide
    · rw [H.out.lT]; decide
end Go.Proofs.YtbbgahffcjbloaaGreat
end

section
/- The reference's repair: a directory is taken in. -/
namespace Go.Proofs.YtbbgahffcjbloaaGreat
open Go.RowKit

theorem cleanF_size (g : Geo) (c : Nat → Bool) (I : InoN) : (cleanF g c I).1 2 ≤ 67379200 := by
  have e : (cleanF g c I).1 2 = (cl8 g (cI I 2) (cI I, c) 8).1 2 := by unfold cleanF; dsimp only; rw [if_neg (by decide), if_neg (by decide)]
  rw [e, cl8_far _ _ _ 8 2 (by omega)]
  dsimp only
  unfold cI
  rw [if_pos rfl]
  split <;> omega
theorem own_form {w : World} {base e size n : Nat} {v : Value} {xs : List Value} (h : w.ownsRow base e size v n xs) : ∃ A c, v = .slice A n c := by
  rcases h.2 with ⟨h1, h2⟩ | ⟨g, cap, cur, h1, _⟩
  · exact ⟨none, 0, by rw [h1, h2]⟩
  · exact ⟨_, _, h1⟩
theorem size_set (w : World) (p : Addr) (v : Value) : (w.setCell p v).heap.size = w.heap.size := by simp
set_option maxRecDepth 100000 in
set_option maxHeartbeats 4000000 in
theorem rtaked_c (g : Geo) (f : Nat → Nat) (L : RLoc) (w : World) (lb : Lab) (adr : Nat → Option Nat) (S : RSt) (h : RS g f L w lb adr S) (x up : Nat) (hx1 : 1 ≤ x ∧ x ≤ g.inodes) (hn : adr x = none) (hk : inoAt g f x 0 = 2) (h11 : g.dOk (inoAt g f x 11) = false) (h12 : g.dOk (inoAt g f x 12) = false) (hm : mUp (cleanF g S.c (inoAt g f x)).1 8 ≠ 0) (hol : S.ord.length ≤ 100000) :
    Calls Tryz.prog 97 #[.pointer (some ⟨L.R, 0, none⟩), .int .i64 x, .int .i64 up] w fun e w' => e = .returned (.bool true) ∧
      RPost g f L w lb adr w' { c := (cutF g (cleanF g S.c (inoAt g f x)).1 (cleanF g S.c (inoAt g f x)).2).2, T := fun y => if y = x then some ⟨setL 2 (cutF g (cleanF g S.c (inoAt g f x)).1 (cleanF g S.c (inoAt g f x)).2).1, [], up, leadOf (cleanF g S.c (inoAt g f x)).1 (mUp (cleanF g S.c (inoAt g f x)).1 8)⟩ else S.T y, ord := S.ord ++ [x], z := S.z } := by
  obtain ⟨j0, hj0, hy0, hy1, hy2⟩ := info_parts infoInt
  obtain ⟨ov, hRp, hov⟩ := h.rp
  have c0 := hRp.cell 0; have c2 := hRp.cell 2; have c3 := hRp.cell 3
  simp only [List.getElem?_cons_zero, List.getElem?_cons_succ] at c0 c2 c3
  have lR := hRp.lt; have lC := h.cl.lt; have lT := h.tt.lt; have lD := h.dk.lt
  have hIb := fun k => inoAt_lt h.img x k
  obtain ⟨I, hI⟩ : ∃ I, I = inoAt g f x := ⟨_, rfl⟩
  have RI := rinode_c g L.D L.b L.o L.N L.cap x f w h.img h.dk
  rw [← hI] at hk h11 h12 RI hIb hm
  rw [← hI]
  have CL := fun W (hb : Below w.heap.size w W) => rclean_c g h.img.ok L.R L.D L.C L.cc L.b L.o L.N L.cap (.slice (some ⟨L.TB, 0, none⟩) (g.inodes + 1) L.tc) ov S.z S.c I hIb h11 h12 W (hRp.below hb lR) (h.dk.below hb lD) (h.cl.below hb lC)
  have hRC : L.R ≠ L.C := fun e => by have h1 := h.lR; rw [e, h.lC] at h1; cases h1
  have hTC : L.TB ≠ L.C := fun e => by have h1 := h.lT; rw [e, h.lC] at h1; cases h1
  have hRT : L.R ≠ L.TB := fun e => by have h1 := h.lR; rw [e, h.lT] at h1; cases h1
  have hDC : L.D ≠ L.C := fun e => by have h1 := h.lD; rw [e, h.lC] at h1; cases h1
  have i2 : (cleanF g S.c I).1 2 ≤ 67379200 := cleanF_size g S.c I
  have i11 : (cleanF g S.c I).1 11 = 0 := rfl
  have i12 : (cleanF g S.c I).1 12 = 0 := rfl
  have CT := fun W B hR hD hC hT => rcut_c g h.img.ok L.R L.D L.C L.cc L.b L.o L.N L.cap B (.slice (some ⟨L.TB, 0, none⟩) (g.inodes + 1) L.tc) ov (.slice none 0 0) (.int .i64 (up : Nat)) S.z (cleanF g S.c I).2 (cleanF g S.c I).1 i2 i11 i12 W hR hD hC hT
  obtain ⟨i', hi'⟩ : ∃ i', i' = (cleanF g S.c I).1 := ⟨_, rfl⟩
  obtain ⟨c', hc'⟩ : ∃ c', c' = (cleanF g S.c I).2 := ⟨_, rfl⟩
  rw [← hi', ← hc'] at CL CT
  rw [← hi'] at hm
  rw [← hi', ← hc']
  obtain ⟨u, hu⟩ : ∃ u, u = cutF g i' c' := ⟨_, rfl⟩
  rw [← hu] at CT
  rw [← hu]
  obtain ⟨m, hmm⟩ : ∃ m, m = mUp i' 8 := ⟨_, rfl⟩
  rw [← hmm] at hm CT
  rw [← hmm]
  have tm : (((m : Nat) : Int) == 0) = false := by simp [hm]
  unfold inoV at RI CL
  have tk : (((I 0 : Nat) : Int) == 2) = true := by rw [hk]; rfl
  have ctx : ∀ W, Blk 70 W L.TB (adrL adr (g.inodes + 1)) → W.cell? ⟨L.TB, x, none⟩ = some (.pointer none) := fun W hW => by rw [hW.cell, adrL_get _ _ _ (by omega), hn]; rfl
  have m8 : m ≤ 8 := by rw [hmm]; exact mUp_le i' 8
  have HRI := Lib.hid RI; have HCL := Lib.hid CL; have HCT := Lib.hid CT; have HI := Lib.hid hI; have H := Lib.hid h; have HX := Lib.hid hx1; have HRP := Lib.hid hRp; have HOV := Lib.hid hov; have HTX := Lib.hid ctx; have HN := Lib.hid hn
  have kx : x < g.inodes + 1 := by omega
  clear RI CL CT hi' hc' hI h hk h11 h12 hIb hRp hov ctx hx1 hn i2 i11 i12 hu hmm hm
  go_enter Tryz.func97, Tryz.ntmps97
  go_wp2_with (first
    | (go_at_call 32; with_reducible refine HRI.out.mono ?_; rintro e w1 ⟨rfl, hb1⟩
       have hz1 := hb1.size
       obtain ⟨hc1, hf1⟩ := bcell hb1
       have hbW : Below w.heap.size w (w1.alloc (.cells #[.int .i64 (I 0 : Nat), .int .i64 (I 1 : Nat), .int .i64 (I 2 : Nat), .int .i64 (I 3 : Nat), .int .i64 (I 4 : Nat), .int .i64 (I 5 : Nat), .int .i64 (I 6 : Nat), .int .i64 (I 7 : Nat), .int .i64 (I 8 : Nat), .int .i64 (I 9 : Nat), .int .i64 (I 10 : Nat), .int .i64 (I 11 : Nat), .int .i64 (I 12 : Nat)] 56)) := hb1.alloc hz1 _
       have hkI : Blk 56 (w1.alloc (.cells #[.int .i64 (I 0 : Nat), .int .i64 (I 1 : Nat), .int .i64 (I 2 : Nat), .int .i64 (I 3 : Nat), .int .i64 (I 4 : Nat), .int .i64 (I 5 : Nat), .int .i64 (I 6 : Nat), .int .i64 (I 7 : Nat), .int .i64 (I 8 : Nat), .int .i64 (I 9 : Nat), .int .i64 (I 10 : Nat), .int .i64 (I 11 : Nat), .int .i64 (I 12 : Nat)] 56)) w1.heap.size (inoL I) := Blk.newL _
       have HBW := Lib.hid hbW; have HKI := Lib.hid hkI; have HB1 := Lib.hid hb1
       clear hbW hkI hb1)
    | (go_at_call 121; refine (HCL.out _ HBW.out).mono ?_; rintro e w3 ⟨B, rfl, hB, hT, hC, hM⟩
       have hz3 := hM.size
       simp only [World.size_alloc] at hB hz3
       have hkI3 := HKI.out.mods hM (fun e => by omega)
       have c03 := hkI3.cell 0
       rw [inoL_get _ _ (by omega)] at c03
       have lI3 := hkI3.lt
       have d14 : w3.cell? ⟨B, 14, none⟩ = some (.int .i64 0) := hT.cell 14
       have e14 := hT.frozen 14; have lB3 := hT.lt
       have nB1 : B ≠ L.R := by omega
       have nB2 : B ≠ L.TB := by omega
       have nB3 : B ≠ w1.heap.size := by omega
       have nBC : B ≠ L.C := by omega
       have nBD : B ≠ L.D := by omega
       have hR3 := ((HRP.out.below HBW.out lR).mods hM hRC).other ⟨B, 14, none⟩ (.int .i64 (up : Nat)) nB1
       have hD3 := ((H.out.dk.below HBW.out lD).mods hM hDC).other ⟨B, 14, none⟩ (.int .i64 (up : Nat)) nBD
       have hTB3 := ((H.out.tt.below HBW.out lT).mods hM hTC).other ⟨B, 14, none⟩ (.int .i64 (up : Nat)) nB2
       have hC3 := hC.other ⟨B, 14, none⟩ (.int .i64 (up : Nat)) nBC
       have hT3 : Blk 74 (w3.setCell ⟨B, 14, none⟩ (.int .i64 (up : Nat))) B (inoL i' ++ [.slice none 0 0, .int .i64 (up : Nat), .slice none 0 0, .slice none 0 0]) := hT.set 14 (.int .i64 (up : Nat))
       have hM3 : Mods (fun k => k = L.C) w (w3.setCell ⟨B, 14, none⟩ (.int .i64 (up : Nat))) := ((mods_of_below (s := (· = L.C)) HBW.out).trans hM (fun _ _ e => e)).setCell ⟨B, 14, none⟩ (fun h => by dsimp only at h; omega) (.int .i64 (up : Nat))
       have hz4 := hM3.size
       have ct := HCT.out _ B hR3 hD3 hC3 hT3
       have z14 := size_set w3 ⟨B, 14, none⟩ (.int .i64 (up : Nat))
       have HR3 := Lib.hid hR3; have HTB := Lib.hid hTB3; have HM3 := Lib.hid hM3; have HC4 := Lib.hid ct; have Z14 := Lib.hid z14
       clear hT hC hM hR3 hD3 hTB3 hC3 hT3 hM3 ct hkI3 z14)
    | (go_at_call 122; refine HC4.out.mono ?_; rintro e w4 ⟨rfl, lv, hT4, hL4, hC4, hM4⟩
       obtain ⟨A, cl, rfl⟩ := own_form hL4
       have hz5 := hM4.size
       rw [Z14.out] at hz5
       have l15 : w4.cell? ⟨B, 15, none⟩ = some (.slice A m cl) := hT4.cell 15
       have l1 := hT4.cell 1
       rw [inoL_more (by omega)] at l1
       have ef1 := hT4.frozen 1; have lB4 := hT4.lt
       have hR4 := HR3.out.mods hM4 (fun e => e.elim hRC fun e => nB1 e.symm)
       have hTB4 := HTB.out.mods hM4 (fun e => e.elim hTC fun e => nB2 e.symm)
       have r2 : w4.cell? ⟨L.R, 2, none⟩ = some (.slice (some ⟨L.TB, 0, none⟩) (g.inodes + 1) L.tc) := hR4.cell 2
       have r3 : w4.cell? ⟨L.R, 3, none⟩ = some ov := hR4.cell 3
       have rf3 := hR4.frozen 3
       have lR4 := hR4.lt; have lT4 := hTB4.lt
       have hMM := HM3.out.trans hM4 (fun i hi e => e.elim id fun e => by omega)
       have hov5 := own_mods HOV.out.1 (hMM.setCell ⟨B, 1, none⟩ (fun h => by dsimp only at h; omega) (.int .i64 2)) (fun q hq e => by have h1 := HOV.out.2 q hq; rw [e, H.out.lC] at h1; cases h1)
       have HOV5 := Lib.hid hov5
       clear hov5
       have HT4 := Lib.hid hT4; have HL4 := Lib.hid hL4; have HCC := Lib.hid hC4; have HMM := Lib.hid hMM; have HR4 := Lib.hid hR4; have HTB4 := Lib.hid hTB4
       clear hT4 hL4 hC4 hM4 hMM hR4 hTB4)
    | (at_builtin; refine app_own2 [_] rfl _ _ 28 rfl 0 3 j0 (.int .i64 0) 1 8 Tryz.underlying28 hj0 hy0 hy1 hy2 rfl (by decide) _ S.ord.length _ rfl (by exact .inl HOV5.out) _ rfl (by simp) rfl (by simp [Value.oneCell']) (by unfold maxLen; omega) (by omega) (Nat.zero_le _) ?_
       intro G cap6 w6 ho6 hg6 ha6 hl6
       have nov : ∀ k p, lb k = p → p ≠ (0, 5) → ov.ownBlock ≠ some k := fun k p h1 h2 e => by rw [HOV.out.2 k e] at h1; exact h2 h1.symm
       have hR6 := (HR4.out.other ⟨B, 1, none⟩ (.int .i64 2) nB1).grown hg6 (nov _ _ H.out.lR (by decide))
       have hTB6 := (HTB4.out.other ⟨B, 1, none⟩ (.int .i64 2) nB2).grown hg6 (nov _ _ H.out.lT (by decide))
       have hC6 := (HCC.out.other ⟨B, 1, none⟩ (.int .i64 2) nBC).grown hg6 (nov _ _ H.out.lC (by decide))
       have novB : ∀ k, w.heap.size ≤ k → ov.ownBlock ≠ some k := fun k h1 e => by have := row_lt HOV.out.1 e; omega
       have hT6 := (HT4.out.set 1 (.int .i64 ((2 : Nat) : Int))).grown hg6 (novB _ (by omega))
       have hL6 := own_mods (own_mods HL4.out (set_mods w4 B 1 (.int .i64 2)) (fun q hq e => by have := own_base HL4.out _ hq; have := Z14.out; omega)) ((Mods.refl (fun k => ov.ownBlock = some k) _).grown hg6 (fun _ e _ => e)) (fun q hq e => novB q (by have := own_base HL4.out _ hq; have := Z14.out; omega) e)
       have hM6 := ((HMM.out.mono (t := fun k => k = L.C ∨ ov.ownBlock = some k) (fun _ _ e => .inl e)).setCell ⟨B, 1, none⟩ (fun h => by dsimp only at h; omega) (.int .i64 2)).grown hg6 (fun _ e _ => .inr e)
       have hz6 := hM6.size
       have hz46 := hg6.size
       rw [size_set] at hz46
       have q3 : w6.cell? ⟨L.R, 3, none⟩ = some ov := hR6.cell 3
       have q2 : w6.cell? ⟨L.R, 2, none⟩ = some (.slice (some ⟨L.TB, 0, none⟩) (g.inodes + 1) L.tc) := hR6.cell 2
       have qf3 := hR6.frozen 3
       have lR6 := hR6.lt; have lT6 := hTB6.lt
       have tx6 := HTX.out _ hTB6
       have ftx6 := hTB6.frozen x
       have hG : w.heap.size ≤ G ∨ ov.ownBlock = some G := ha6.elim .inr fun e => .inl (by rw [size_set] at e; omega)
       have hG4 : w4.heap.size ≤ G ∨ ov.ownBlock = some G := ha6.elim .inr fun e => .inl (by rw [size_set] at e; exact e)
       have HR6 := Lib.hid hR6; have HTB6 := Lib.hid hTB6; have HC6 := Lib.hid hC6; have HT6 := Lib.hid hT6; have HL6 := Lib.hid hL6; have HM6 := Lib.hid hM6; have HO6 := Lib.hid ho6; have HG6 := Lib.hid hG; have HG4 := Lib.hid hG4; have HNB := Lib.hid novB
       clear hR6 hTB6 hC6 hT6 hL6 hM6 ho6 hg6 ha6 hG hG4 nov novB))
  go_ret
  refine ⟨rfl, ?_⟩
  have hGR : G ≠ L.R := fun e => HG6.out.elim (fun h => by omega) (fun h => by have h1 := HOV.out.2 G h; rw [e, H.out.lR] at h1; cases h1)
  have hGT : G ≠ L.TB := fun e => HG6.out.elim (fun h => by omega) (fun h => by have h1 := HOV.out.2 G h; rw [e, H.out.lT] at h1; cases h1)
  have hTf : Blk 74 ((w6.setCell ⟨L.R, 3, none⟩ (.slice (some ⟨G, 0, none⟩) (S.ord.length + 1) cap6)).setCell ⟨L.TB, x, none⟩ (.pointer (some ⟨B, 0, none⟩))) B (inoL (setL 2 u.1) ++ [.slice none 0 0, .int .i64 (up : Nat), .slice A m cl, .slice none 0 0]) := (HT6.out.other ⟨L.R, 3, none⟩ (.slice (some ⟨G, 0, none⟩) (S.ord.length + 1) cap6) (fun e => nB1 e.symm)).other ⟨L.TB, x, none⟩ (.pointer (some ⟨B, 0, none⟩)) (fun e => nB2 e.symm)
  have hRf := (HR6.out.set 3 (.slice (some ⟨G, 0, none⟩) (S.ord.length + 1) cap6)).other ⟨L.TB, x, none⟩ (.pointer (some ⟨B, 0, none⟩)) (fun e => hRT e.symm)
  have hTBf := (HTB6.out.other ⟨L.R, 3, none⟩ (.slice (some ⟨G, 0, none⟩) (S.ord.length + 1) cap6) hRT).set x (.pointer (some ⟨B, 0, none⟩))
  rw [adrL_set _ _ _ _ kx] at hTBf
  have hCf := (HC6.out.other ⟨L.R, 3, none⟩ (.slice (some ⟨G, 0, none⟩) (S.ord.length + 1) cap6) hRC).other ⟨L.TB, x, none⟩ (.pointer (some ⟨B, 0, none⟩)) hTC
  have lvb : ∀ k, (Value.slice A m cl).ownBlock = some k → B < k ∧ w.heap.size ≤ k ∧ k < w4.heap.size := fun k hk => by
    have h1 := own_base HL4.out k hk
    have h2 := row_lt HL4.out hk
    rw [Z14.out] at h1
    exact ⟨by omega, by omega, h2⟩
  have hLf := own_mods (own_mods HL6.out (set_mods w6 L.R 3 (.slice (some ⟨G, 0, none⟩) (S.ord.length + 1) cap6)) (fun q hq e => by have := lvb q hq; omega)) (set_mods _ L.TB x (.pointer (some ⟨B, 0, none⟩))) (fun q hq e => by have := lvb q hq; omega)
  have hOf := own_mods (own_mods HO6.out (set_mods w6 L.R 3 (.slice (some ⟨G, 0, none⟩) (S.ord.length + 1) cap6)) (fun q hq e => by cases hq; exact hGR e)) (set_mods _ L.TB x (.pointer (some ⟨B, 0, none⟩))) (fun q hq e => by cases hq; exact hGT e)
  have hMf : Mods (fun k => k = L.C ∨ k = L.TB ∨ k = L.R ∨ lb k = (0, 5)) w ((w6.setCell ⟨L.R, 3, none⟩ (.slice (some ⟨G, 0, none⟩) (S.ord.length + 1) cap6)).setCell ⟨L.TB, x, none⟩ (.pointer (some ⟨B, 0, none⟩))) :=
    ((HM6.out.mono (t := fun k => k = L.C ∨ k = L.TB ∨ k = L.R ∨ lb k = (0, 5)) (fun k _ e => e.elim .inl fun e => .inr (.inr (.inr (HOV.out.2 k e))))).setCell _ (fun _ => .inr (.inr (.inl rfl))) _).setCell _ (fun _ => .inr (.inl rfl)) _
  have hw4 : w4.heap.size ≤ ((w6.setCell ⟨L.R, 3, none⟩ (.slice (some ⟨G, 0, none⟩) (S.ord.length + 1) cap6)).setCell ⟨L.TB, x, none⟩ (.pointer (some ⟨B, 0, none⟩))).heap.size := by rw [size_set, size_set]; exact hz46
  generalize (w6.setCell ⟨L.R, 3, none⟩ (.slice (some ⟨G, 0, none⟩) (S.ord.length + 1) cap6)).setCell ⟨L.TB, x, none⟩ (.pointer (some ⟨B, 0, none⟩)) = W at hTf hMf hTBf hCf hRf hLf hOf hw4 ⊢
  have lTf := hTf.lt
  have hzf := hMf.size
  have lGf := (own_len hOf).2.1
  have gv : (Value.slice A m cl).ownBlock ≠ some G := fun e => by
    have h1 := lvb G e
    rcases HG4.out with h2 | h2
    · omega
    · have := row_lt HOV.out.1 h2; omega
  have gB : G ≠ B := fun e => by
    rcases HG4.out with h2 | h2
    · omega
    · have := row_lt HOV.out.1 h2; omega
  have lbd : ∀ k, (fun k => if k = B then (x, 0) else if (Value.slice A m cl).ownBlock = some k then (x, 1) else if k = G then (0, 5) else lb k) k = if k = B then (x, 0) else if (Value.slice A m cl).ownBlock = some k then (x, 1) else if k = G then (0, 5) else lb k := fun _ => rfl
  obtain ⟨lb', hlb'⟩ : ∃ lb' : Lab, lb' = fun k => if k = B then (x, 0) else if (Value.slice A m cl).ownBlock = some k then (x, 1) else if k = G then (0, 5) else lb k := ⟨_, rfl⟩
  have lB' : lb' B = (x, 0) := by rw [hlb']; exact if_pos rfl
  have lv' : ∀ k, (Value.slice A m cl).ownBlock = some k → lb' k = (x, 1) := fun k hk => by
    have := lvb k hk
    rw [hlb']; dsimp only; rw [if_neg (by omega), if_pos hk]
  have lG' : lb' G = (0, 5) := by rw [hlb']; dsimp only; rw [if_neg gB, if_neg gv, if_pos rfl]
  have hx : Ext w lb lb' := fun k hk => by
    rw [hlb']; dsimp only
    rw [if_neg (by omega), if_neg (fun e => by have := lvb k e; omega)]
    by_cases e : k = G
    · rw [if_pos e]
      rcases HG6.out with h2 | h2
      · omega
      · rw [e]; exact (HOV.out.2 G h2).symm
    · rw [if_neg e]
  refine H.out.taken (lb' := lb') (S' := { c := u.2, T := fun y => if y = x then some ⟨setL 2 u.1, [], up, leadOf i' m⟩ else S.T y, ord := S.ord ++ [x], z := S.z }) hMf hx (fun k hk => ?_) ⟨_, hRf, ?_⟩ hCf x B ⟨setL 2 u.1, [], up, leadOf i' m⟩ hTBf rfl HX.out HN.out (dv := .slice none 0 0) (lv := .slice A m cl) (dvs := []) ⟨hTf, lB', ?_, lrow_nil _ _ _ _ _, rfl, fun b v d h1 h2 => by cases h1⟩
  · rw [hlb']; dsimp only
    rw [if_neg (by omega), if_neg (fun e => by have := lvb k e; omega), if_neg (by omega)]
    exact H.out.hi k (by omega)
  · refine ⟨?_, fun k hk => by cases hk; exact lG'⟩
    dsimp only
    rw [List.length_append, natsV_snoc]
    exact hOf
  · refine ⟨?_, lv'⟩
    dsimp only
    rw [show (leadOf i' m).length = m by simp [leadOf]]
    exact own_mono hLf (Nat.zero_le _)
end Go.Proofs.YtbbgahffcjbloaaGreat
end

section
/- The reference's repair: the root is taken in. -/
namespace Go.Proofs.YtbbgahffcjbloaaGreat
open Go.RowKit

theorem RPost.of_below {g : Geo} {f : Nat → Nat} {L : RLoc} {w w1 w' : World} {lb : Lab} {adr : Nat → Option Nat} {S' : RSt} (hb : Below w.heap.size w w1) (h : RPost g f L w1 lb adr w' S') (hi : ∀ k, w.heap.size ≤ k → lb k = (0, 0)) : RPost g f L w lb adr w' S' := by
  obtain ⟨lb', adr', h1, h2, h3, h4⟩ := h
  have hz := hb.size
  exact ⟨lb', adr', h1, fun k hk => h2 k (by omega), h3, (mods_of_below (s := Ours lb) hb).trans h4 fun _ _ e => e⟩
set_option maxRecDepth 100000 in
set_option maxHeartbeats 4000000 in
theorem rroot_a (g : Geo) (f : Nat → Nat) (L : RLoc) (w : World) (lb : Lab) (adr : Nat → Option Nat) (S : RSt) (h : RS g f L w lb adr S) (hn : adr 1 = none) (hk : inoAt g f 1 0 = 2) (hs : 1024 ≤ inoAt g f 1 2) (h3 : g.dOk (inoAt g f 1 3) = true) (h11 : g.dOk (inoAt g f 1 11) = false) (h12 : g.dOk (inoAt g f 1 12) = false) (hm : mUp (cleanF g S.c (inoAt g f 1)).1 8 ≠ 0) (hol : S.ord.length ≤ 100000) :
    Calls Tryz.prog 58 #[.pointer (some ⟨L.R, 0, none⟩)] w fun e w' => e = .returned (.tuple #[]) ∧
      RPost g f L w lb adr w' { c := (cutF g (cleanF g S.c (inoAt g f 1)).1 (cleanF g S.c (inoAt g f 1)).2).2, T := fun y => if y = 1 then some ⟨setL 2 (cutF g (cleanF g S.c (inoAt g f 1)).1 (cleanF g S.c (inoAt g f 1)).2).1, [], 1, leadOf (cleanF g S.c (inoAt g f 1)).1 (mUp (cleanF g S.c (inoAt g f 1)).1 8)⟩ else S.T y, ord := S.ord ++ [1], z := S.z } := by
  have hip := h.img.ok.inodes_pos
  obtain ⟨ov, hRp, hov⟩ := h.rp
  have c0 := hRp.cell 0
  simp only [List.getElem?_cons_zero, List.getElem?_cons_succ] at c0
  have lR := hRp.lt; have lD := h.dk.lt
  have TK : ∀ W, Below w.heap.size w W → Calls Tryz.prog 97 #[.pointer (some ⟨L.R, 0, none⟩), .int .i64 1, .int .i64 1] W _ := fun W hb => (rtaked_c g f L W lb adr S (h.below hb) 1 1 ⟨by omega, by omega⟩ hn hk h11 h12 hm hol).mono fun e w' hp => And.intro hp.1 (hp.2.of_below hb h.hi)
  obtain ⟨S', hS'⟩ : ∃ S' : RSt, S' = { c := (cutF g (cleanF g S.c (inoAt g f 1)).1 (cleanF g S.c (inoAt g f 1)).2).2, T := fun y => if y = 1 then some ⟨setL 2 (cutF g (cleanF g S.c (inoAt g f 1)).1 (cleanF g S.c (inoAt g f 1)).2).1, [], 1, leadOf (cleanF g S.c (inoAt g f 1)).1 (mUp (cleanF g S.c (inoAt g f 1)).1 8)⟩ else S.T y, ord := S.ord ++ [1], z := S.z } := ⟨_, rfl⟩
  simp only [← hS'] at TK
  rw [← hS']
  have RI : Calls Tryz.prog 32 #[.pointer (some ⟨L.D, 0, none⟩), .int .i64 1] w _ := rinode_c g L.D L.b L.o L.N L.cap 1 f w h.img h.dk
  obtain ⟨I, hI⟩ : ∃ I, I = inoAt g f 1 := ⟨_, rfl⟩
  rw [← hI] at RI hk hs h3
  have DA := fun W (hb : Below w.heap.size w W) => ddata_c g h.img.ok L.D L.b L.o L.N L.cap (I 3) W (h.dk.below hb lD)
  rw [h3] at DA
  unfold inoV at RI
  have t0 : (((I 0 : Nat) : Int) == 2) = true := by rw [hk]; rfl
  have t1 : decide ((1024 : Int) ≤ (I 2 : Int)) = true := by simp; omega
  have HTK := Lib.hid TK; have HRI := Lib.hid RI; have HDA := Lib.hid DA; have HS := Lib.hid hS'
  clear TK RI DA hS' hI hk h3 h11 h12 hm hRp hov hs
  go_enter Tryz.func58, Tryz.ntmps58
  go_wp2_with (go_at_call 32; with_reducible refine HRI.out.mono ?_; rintro e w1 ⟨rfl, hb1⟩)
  obtain ⟨w2, hw2⟩ : ∃ W, W = w1.alloc (.cells (inoL I).toArray 56) := ⟨_, rfl⟩
  have k2 : Blk 56 w2 w1.heap.size (inoL I) := by rw [hw2]; exact Blk.newL _
  have hz1 := hb1.size
  have hb2 : Below w.heap.size w w2 := by rw [hw2]; exact hb1.alloc hz1 _
  have z2 : w2.heap.size = w1.heap.size + 1 := by rw [hw2]; simp
  unfold inoL at hw2
  rw [← hw2]
  have r0 : w2.cell? ⟨L.R, 0, none⟩ = some (.pointer (some ⟨L.D, 0, none⟩)) := (hb2.cell (p := ⟨L.R, 0, none⟩) lR).trans c0
  have y3 := k2.cell 3
  rw [inoL_get _ _ (by omega)] at y3
  have hz2 := hb2.size
  have HB2 := Lib.hid hb2; have HK2 := Lib.hid k2; have Z2 := Lib.hid z2
  clear hw2 hb1 hb2 k2
  refine wp_region_held_drew (S := fun (w' : World) => w'.cell? ⟨L.R, 0, none⟩ = some (.pointer (some ⟨L.D, 0, none⟩)) ∧ w'.cell? ⟨w1.heap.size, 3, none⟩ = some (.int .i64 (I 3 : Nat))) (by kernel_rfl) ⟨r0, y3⟩ (fun hHeld => ?_)
  refine tkA (i := 0) (oi := ⟨_, _, _, _, _, _⟩) ?_
  simp only [putA, List.set]
  refine tkA (i := 1) (oi := ⟨_, _, _, _, _, _⟩) ?_
  simp only [putA, List.set]
  refine tkA (i := 2) (oi := ⟨_, _, _, _, _, _⟩) ?_
  simp only [putA, List.set]
  refine tkA (i := 3) (oi := ⟨_, _, _, _, _, _⟩) ?_
  simp only [putA, List.set]
  refine tkA (i := 4) (oi := ⟨_, _, _, _, _, _⟩) ?_
  simp only [putA, List.set]
  refine tkA (i := 5) (oi := ⟨_, _, _, _, _, _⟩) ?_
  simp only [putA, List.set]
  refine tkA (i := 6) (oi := ⟨_, _, _, _, _, _⟩) ?_
  simp only [putA, List.set]
  refine wpAnyH_ready (rs := [7]) (by kernel_rfl) (by simp) ?_
  refine AllReadyH.cons rfl (fun K hK => ?_) AllReadyH.nil
  go_simp
  refine (HDA.out w2.drew HB2.out.drew).mono ?_
  rintro e w3 ⟨rfl, hb3⟩
  have hz3 := hb3.size
  have k3 := HK2.out.drew.below hb3 (by show w1.heap.size < w2.heap.size; omega)
  have hbb : Below w.heap.size w w3 := HB2.out.drew.trans (hb3.mono hz2)
  have q3 := k3.cell 3
  rw [inoL_get _ _ (by omega)] at q3
  refine hK.out _ _ ?_ (fun hHeld => ?_)
  · exact ⟨(hbb.cell (p := ⟨L.R, 0, none⟩) lR).trans c0, q3⟩
  clear hK K
  refine tkA (i := 8) (oi := ⟨_, _, _, _, _, _⟩) ?_
  simp only [putA, List.set]
  refine wpAnyH_done (by kernel_rfl) ?_ _
  have q0 := k3.cell 0; have q2 := k3.cell 2
  rw [inoL_get _ _ (by omega)] at q0 q2
  have l3 := k3.lt
  have HBB := Lib.hid hbb
  clear hHeld hb3 k3 hbb
  go_wp2_with (go_at_call 97; refine (HTK.out _ HBB.out).mono ?_; rintro e w4 ⟨rfl, hP⟩; have HP := Lib.hid hP; clear hP)

  refine bodyPost_ret (results_none rfl _ _ _) rfl ?_
  exact ⟨rfl, HP.out⟩
end Go.Proofs.YtbbgahffcjbloaaGreat
end
