/- Part of the road to HeadsRow: IRead. -/
import Derived.Test.YtolbahfbhcpgdaaHeads03
set_option linter.all false
set_option linter.unusedSimpArgs false
set_option linter.unusedVariables false
set_option linter.unusedSectionVars false
section
/- Inodes read. -/
namespace Go.Proofs.Ytolbahfbhcpgdaa
open Go.RowKit

/-- the inode that 64 bytes say -/
def inoRd (f : Nat → Nat) : InoN := fun j => if j = 0 then leN f 2 else if j = 1 then leN (fun k => f (2 + k)) 2 else if j = 2 then leN (fun k => f (4 + k)) 4 else leN (fun k => f (8 + 4 * (j - 3) + k)) 4
def iOk (f : Nat → Nat) : Bool := inoOk (inoRd f) && eqB (inoF (inoRd f)) f 64
theorem inoRd_r (f : Nat → Nat) (hf : ∀ k, f k < 256) : InoR (inoRd f) where
  k := leN_lt f hf 2
  l := leN_lt (fun k => f (2 + k)) (fun k => hf _) 2
  s := leN_lt (fun k => f (4 + k)) (fun k => hf _) 4
  p := fun j h1 h2 => by
    have e : inoRd f j = leN (fun k => f (8 + 4 * (j - 3) + k)) 4 := by
      unfold inoRd; rw [if_neg (by omega), if_neg (by omega), if_neg (by omega)]
    rw [e]
    exact leN_lt _ (fun k => hf _) 4
theorem inoL_set (i : InoN) (j x : Nat) (hj : j < 13) : (inoL i).set j (.int .i64 (x : Int)) = inoL (fun q => if q = j then x else i q) := by
  match j, hj with
  | 0, _ | 1, _ | 2, _ | 3, _ | 4, _ | 5, _ | 6, _ | 7, _ | 8, _ | 9, _ | 10, _ | 11, _ | 12, _ => rfl
theorem inoL_congr {i j : InoN} (h : ∀ k, k < 13 → i k = j k) : inoL i = inoL j := by
  unfold inoL
  rw [h 0 (by omega), h 1 (by omega), h 2 (by omega), h 3 (by omega), h 4 (by omega), h 5 (by omega), h 6 (by omega), h 7 (by omega), h 8 (by omega), h 9 (by omega), h 10 (by omega), h 11 (by omega), h 12 (by omega)]
theorem cells13 {w : World} {B : Nat} {i : InoN} {t : TypeId} (h : Blk t w B (inoL i)) : w.cell? ⟨B, 0, none⟩ = some (.int .i64 (i 0 : Nat)) ∧ w.cell? ⟨B, 1, none⟩ = some (.int .i64 (i 1 : Nat)) ∧ w.cell? ⟨B, 2, none⟩ = some (.int .i64 (i 2 : Nat)) ∧ w.cell? ⟨B, 3, none⟩ = some (.int .i64 (i 3 : Nat)) ∧ w.cell? ⟨B, 4, none⟩ = some (.int .i64 (i 4 : Nat)) ∧ w.cell? ⟨B, 5, none⟩ = some (.int .i64 (i 5 : Nat)) ∧ w.cell? ⟨B, 6, none⟩ = some (.int .i64 (i 6 : Nat)) ∧ w.cell? ⟨B, 7, none⟩ = some (.int .i64 (i 7 : Nat)) ∧ w.cell? ⟨B, 8, none⟩ = some (.int .i64 (i 8 : Nat)) ∧ w.cell? ⟨B, 9, none⟩ = some (.int .i64 (i 9 : Nat)) ∧ w.cell? ⟨B, 10, none⟩ = some (.int .i64 (i 10 : Nat)) ∧ w.cell? ⟨B, 11, none⟩ = some (.int .i64 (i 11 : Nat)) ∧ w.cell? ⟨B, 12, none⟩ = some (.int .i64 (i 12 : Nat)) := by
  refine ⟨?_, ?_, ?_, ?_, ?_, ?_, ?_, ?_, ?_, ?_, ?_, ?_, ?_⟩ <;> rw [h.cell] <;> rfl
theorem frozen13 {w : World} {B : Nat} {xs : List Value} {t : TypeId} (h : Blk t w B xs) : w.frozen? ⟨B, 0, none⟩ = false ∧ w.frozen? ⟨B, 1, none⟩ = false ∧ w.frozen? ⟨B, 2, none⟩ = false ∧ w.frozen? ⟨B, 3, none⟩ = false ∧ w.frozen? ⟨B, 4, none⟩ = false ∧ w.frozen? ⟨B, 5, none⟩ = false ∧ w.frozen? ⟨B, 6, none⟩ = false ∧ w.frozen? ⟨B, 7, none⟩ = false ∧ w.frozen? ⟨B, 8, none⟩ = false ∧ w.frozen? ⟨B, 9, none⟩ = false ∧ w.frozen? ⟨B, 10, none⟩ = false ∧ w.frozen? ⟨B, 11, none⟩ = false ∧ w.frozen? ⟨B, 12, none⟩ = false := by
  refine ⟨?_, ?_, ?_, ?_, ?_, ?_, ?_, ?_, ?_, ?_, ?_, ?_, ?_⟩ <;> exact h.frozen _

def put13 (w : World) (B : Nat) (i : InoN) : World :=
  ((((((((((((w.setCell ⟨B, 0, none⟩ (.int .i64 (i 0 : Nat))).setCell ⟨B, 1, none⟩ (.int .i64 (i 1 : Nat))).setCell ⟨B, 2, none⟩ (.int .i64 (i 2 : Nat))).setCell ⟨B, 3, none⟩ (.int .i64 (i 3 : Nat))).setCell ⟨B, 4, none⟩ (.int .i64 (i 4 : Nat))).setCell ⟨B, 5, none⟩ (.int .i64 (i 5 : Nat))).setCell ⟨B, 6, none⟩ (.int .i64 (i 6 : Nat))).setCell ⟨B, 7, none⟩ (.int .i64 (i 7 : Nat))).setCell ⟨B, 8, none⟩ (.int .i64 (i 8 : Nat))).setCell ⟨B, 9, none⟩ (.int .i64 (i 9 : Nat))).setCell ⟨B, 10, none⟩ (.int .i64 (i 10 : Nat))).setCell ⟨B, 11, none⟩ (.int .i64 (i 11 : Nat))).setCell ⟨B, 12, none⟩ (.int .i64 (i 12 : Nat))
theorem put13_blk {t : TypeId} {w : World} {B : Nat} {j : InoN} (i : InoN) (h : Blk t w B (inoL j)) : Blk t (put13 w B i) B (inoL i) :=
  ((((((((((((h.set 0 _).set 1 _).set 2 _).set 3 _).set 4 _).set 5 _).set 6 _).set 7 _).set 8 _).set 9 _).set 10 _).set 11 _).set 12 _
theorem put13_below (w : World) (i : InoN) {n B : Nat} (h : n ≤ B) : Below n w (put13 w B i) := by
  unfold put13
  have hs : ∀ (X : World) (k : Nat) (v : Value), Below n w X → Below n w (X.setCell ⟨B, k, none⟩ v) := fun X k v hX => hX.setCell (p := ⟨B, k, none⟩) h v
  exact hs _ _ _ (hs _ _ _ (hs _ _ _ (hs _ _ _ (hs _ _ _ (hs _ _ _ (hs _ _ _ (hs _ _ _ (hs _ _ _ (hs _ _ _ (hs _ _ _ (hs _ _ _ (hs _ _ _ (Below.refl _ _)))))))))))))

set_option maxRecDepth 100000 in
set_option maxHeartbeats 6000000 in
theorem iread_c (B o cap : Nat) (f : Nat → Nat) (hf : ∀ k, f k < 256) (w : World) (h : RdB w B o 64 f) (hcap : 64 ≤ cap) (hcb : cap ≤ 1000000000) :
    Calls Try.prog 82 #[.slice (some ⟨B, o, none⟩) 64 cap] w fun e w' => (iOk f = true → e = .returned (.tuple #[inoV (inoRd f), .int .i64 0])) ∧
      (iOk f = false → e = .returned (.tuple #[inoV noIno, .int .i64 5])) ∧ Below w.heap.size w w' := by
  have hBl := lt_of_cell (h 0 (by omega))
  obtain ⟨I, hI⟩ : ∃ I, I = inoRd f := ⟨_, rfl⟩
  have G0 : ∀ W c, RdB W B o 64 f → Calls Try.prog 91 #[.slice (some ⟨B, o, none⟩) 2 c] W fun e w' => e = .returned (.int .i64 (I 0 : Nat)) ∧ W = w' := fun W c h => by
    have := get_c B (o + 0) 2 c _ W (fun k => hf (0 + k)) (by omega) (h.sub 0 2 (by omega)); rw [hI]; simpa [inoRd] using this
  have G1 : ∀ W c, RdB W B o 64 f → Calls Try.prog 91 #[.slice (some ⟨B, o + 2, none⟩) 2 c] W fun e w' => e = .returned (.int .i64 (I 1 : Nat)) ∧ W = w' := fun W c h => by
    have := get_c B (o + 2) 2 c _ W (fun k => hf (2 + k)) (by omega) (h.sub 2 2 (by omega)); rw [hI]; simpa [inoRd] using this
  have G2 : ∀ W c, RdB W B o 64 f → Calls Try.prog 91 #[.slice (some ⟨B, o + 4, none⟩) 4 c] W fun e w' => e = .returned (.int .i64 (I 2 : Nat)) ∧ W = w' := fun W c h => by
    have := get_c B (o + 4) 4 c _ W (fun k => hf (4 + k)) (by omega) (h.sub 4 4 (by omega)); rw [hI]; simpa [inoRd] using this
  have G11 : ∀ W c, RdB W B o 64 f → Calls Try.prog 91 #[.slice (some ⟨B, o + 40, none⟩) 4 c] W fun e w' => e = .returned (.int .i64 (I 11 : Nat)) ∧ W = w' := fun W c h => by
    have := get_c B (o + 40) 4 c _ W (fun k => hf (40 + k)) (by omega) (h.sub 40 4 (by omega)); rw [hI]; simpa [inoRd] using this
  have G12 : ∀ W c, RdB W B o 64 f → Calls Try.prog 91 #[.slice (some ⟨B, o + 44, none⟩) 4 c] W fun e w' => e = .returned (.int .i64 (I 12 : Nat)) ∧ W = w' := fun W c h => by
    have := get_c B (o + 44) 4 c _ W (fun k => hf (44 + k)) (by omega) (h.sub 44 4 (by omega)); rw [hI]; simpa [inoRd] using this
  have GD : ∀ W c k, k < 8 → RdB W B o 64 f → Calls Try.prog 91 #[.slice (some ⟨B, o + (8 + 4 * k), none⟩) 4 c] W fun e w' => e = .returned (.int .i64 (I (3 + k) : Nat)) ∧ W = w' := fun W c k hk h => by
    have := get_c B (o + (8 + 4 * k)) 4 c _ W (fun j => hf (8 + 4 * k + j)) (by omega) (h.sub (8 + 4 * k) 4 (by omega))
    rw [hI]
    have e : inoRd f (3 + k) = leN (fun j => f (8 + 4 * k + j)) 4 := by
      unfold inoRd; rw [if_neg (by omega), if_neg (by omega), if_neg (by omega)]; rw [show 3 + k - 3 = k by omega]
    rw [e]; exact this
  have HG0 := Lib.hid G0; have HG1 := Lib.hid G1; have HG2 := Lib.hid G2; have HG11 := Lib.hid G11; have HG12 := Lib.hid G12; have HGD := Lib.hid GD; have HI := Lib.hid hI; have HR := Lib.hid h
  have c0 : (2 : Int) ≤ (cap : Int) := by omega
  have c1 : (4 : Int) ≤ (cap : Int) := by omega
  have c2 : (8 : Int) ≤ (cap : Int) := by omega
  have c3 : (44 : Int) ≤ (cap : Int) := by omega
  have c4 : (48 : Int) ≤ (cap : Int) := by omega
  have n0 : cap ≠ 0 := by omega
  have n1 : cap ≠ 2 := by omega
  have n2 : cap ≠ 4 := by omega
  have n3 : cap ≠ 40 := by omega
  have n4 : cap ≠ 44 := by omega
  clear G0 G1 G2 G11 G12 GD hI h
  go_enter Try.func82, Try.ntmps82
  go_upto_region 4 with fail
  go_cut [4] (fun s5 wx => s5 = .pointer (some ⟨w.heap.size + 1, 0, none⟩) ∧ Blk 49 wx (w.heap.size + 1) (inoL fun j => if 3 ≤ j ∧ j < 11 then 0 else I j) ∧ Blk 49 wx w.heap.size (inoL noIno) ∧ Below w.heap.size w wx)
  case first =>
    go_region_held3 (fun w' => RdB w' B o 64 f ∧ w.heap.size < w'.heap.size ∧ Below w.heap.size w w')
      (first | (go_split_ands; exact ⟨HR.out.below (((Below.refl _ _).alloc (Nat.le_refl _) _).drew), by simp, ((Below.refl _ _).alloc (Nat.le_refl _) _).drew⟩) | (go_split_ands; exact ⟨HR.out.below ((((Below.refl _ _).alloc (Nat.le_refl _) _).alloc (by simp) _).drew), by simp; omega, (((Below.refl _ _).alloc (Nat.le_refl _) _).alloc (by simp) _).drew⟩) | go_keep)
      (first
        | (go_at_call 91; go_split_ands; ((with_reducible refine (HG0.out _ _ (by assumption)).mono ?_)); rintro e w2 ⟨rfl, rfl⟩)
        | (go_at_call 91; go_split_ands; ((with_reducible refine (HG1.out _ _ (by assumption)).mono ?_)); rintro e w2 ⟨rfl, rfl⟩)
        | (go_at_call 91; go_split_ands; ((with_reducible refine (HG2.out _ _ (by assumption)).mono ?_)); rintro e w2 ⟨rfl, rfl⟩)
        | (go_at_call 91; go_split_ands; ((with_reducible refine (HG11.out _ _ (by assumption)).mono ?_)); rintro e w2 ⟨rfl, rfl⟩)
        | (go_at_call 91; go_split_ands; ((with_reducible refine (HG12.out _ _ (by assumption)).mono ?_)); rintro e w2 ⟨rfl, rfl⟩))
    all_goals
      go_wp2_with fail
      go_meet
      exact ⟨rfl, (Blk.snd _ _).drew, (Blk.fst _ _).drew, (((Below.refl _ _).alloc (Nat.le_refl _) _).alloc (by simp) _).drew⟩
  case rest =>
    obtain ⟨rfl, hG1, hG0, hBx⟩ := hcut
    clear n0 n1 n2 n3 n4 c0 c1 c2 c3 c4
    have hl0 := hG0.lt
    have hsx := hBx.size
    go_wp2_with fail
    go_loopw [28] (fun i' wr => ∃ k : Nat, k ≤ 8 ∧ i' = .int .i64 k ∧ Blk 49 wr (w.heap.size + 1) (inoL fun j => if 3 + k ≤ j ∧ j < 11 then 0 else I j) ∧ Blk 49 wr w.heap.size (inoL noIno) ∧ Below w.heap.size w wr) (fun i' _ => 8 - (intOf i').toNat)
    case atStart => exact ⟨0, by omega, rfl, hG1, hG0, hBx⟩
    case round =>
      obtain ⟨k, hk, rfl, hI1, hI0, hB⟩ := hrel
      by_cases hlt : k < 8
      · have hck := hI1.cell (3 + k)
        rw [inoL_get _ _ (by omega)] at hck
        have hfk := hI1.frozen (3 + k)
        have hl1 := hI1.lt
        have hRx := HR.out.below hB
        have e1 : cap ≠ 8 + 4 * k := by omega
        have H1 := Lib.hid hI1; have H0 := Lib.hid hI0; have HRX := Lib.hid hRx
        clear hI1 hI0 hRx
        go_wp2_with (go_at_call 91; refine (HGD.out _ _ k hlt HRX.out).mono ?_; rintro e w2 ⟨rfl, rfl⟩)
        go_roundw
        case rel =>
          refine ⟨k + 1, by omega, by go_num, ?_, H0.out.other _ _ (by simp), hB.setCell (p := ⟨w.heap.size + 1, 3 + k, none⟩) (by simp) _⟩
          have h2 := H1.out.set (3 + k) (.int .i64 (I (3 + k) : Nat))
          rw [inoL_set _ _ _ (by omega)] at h2
          rw [inoL_congr (i := fun j => if 3 + (k + 1) ≤ j ∧ j < 11 then 0 else I j) (j := fun q => if q = 3 + k then I (3 + k) else if 3 + k ≤ q ∧ q < 11 then 0 else I q) fun j _ => by
            show (if 3 + (k + 1) ≤ j ∧ j < 11 then 0 else I j) = if j = 3 + k then I (3 + k) else if 3 + k ≤ j ∧ j < 11 then 0 else I j
            by_cases e1 : j = 3 + k
            · subst e1; rw [if_neg (by omega), if_pos rfl]
            · rw [if_neg e1]
              by_cases e2 : 3 + k ≤ j ∧ j < 11
              · rw [if_pos (by omega), if_pos e2]
              · rw [if_neg (by omega), if_neg e2]]
          exact h2
        case measure => simp [intOf]; omega
      · obtain rfl : k = 8 := by omega
        rw [inoL_congr (j := I) fun j _ => by rw [if_neg (by omega)]] at hI1
        obtain ⟨a0, a1, a2, a3, a4, a5, a6, a7, a8, a9, a10, a11, a12⟩ := cells13 hI1
        obtain ⟨f0, f1, f2, f3, f4, f5, f6, f7, f8, f9, f10, f11, f12⟩ := frozen13 hI0
        obtain ⟨z0, z1, z2, z3, z4, z5, z6, z7, z8, z9, z10, z11, z12⟩ := cells13 hI0
        have hl1 := hI1.lt
        have hRx := HR.out.below hB
        have hlr : w.heap.size < wr.heap.size := by omega
        have hpk := ipack_c I (HI.out ▸ inoRd_r f hf)
        have HP := Lib.hid hpk; have HRX := Lib.hid hRx
        unfold inoV at HP
        clear hpk hRx
        cases hok : inoOk I with
        | false =>
          have hs : iOk f = false := by simp [iOk, ← HI.out, hok]
          have Hs := Lib.hid hs
          have Hok := Lib.hid hok
          clear hs hok
          go_wp2_with (go_at_call 77; refine (HP.out _).mono ?_; rintro e w2 ⟨hb2, -, hno⟩; obtain rfl := hno Hok.out; obtain ⟨hc2, hf2⟩ := bcell hb2)
          change bodyPost _ _ _ _ _ (put13 w2 w.heap.size noIno)
          have hk := put13_blk (i := noIno) (hI0.below hb2 hlr)
          have hbz := put13_below w2 noIno (Nat.le_refl w.heap.size)
          generalize put13 w2 w.heap.size noIno = W at hk hbz ⊢
          clear z0 z1 z2 z3 z4 z5 z6 z7 z8 z9 z10 z11 z12 a0 a1 a2 a3 a4 a5 a6 a7 a8 a9 a10 a11 a12 f0 f1 f2 f3 f4 f5 f6 f7 f8 f9 f10 f11 f12
          obtain ⟨y0, y1, y2, y3, y4, y5, y6, y7, y8, y9, y10, y11, y12⟩ := cells13 hk
          refine bodyPost_ret (v := .tuple #[inoV noIno, .int .i64 5]) ?_ rfl ?_
          · simp [results, Try.results82, go_sem, y0, y1, y2, y3, y4, y5, y6, y7, y8, y9, y10, y11, y12, inoV]
          · refine ⟨fun h => ?_, fun _ => rfl, (hB.trans (hb2.mono hB.size)).trans hbz⟩
            rw [Hs.out] at h; cases h
        | true =>
          obtain ⟨q, hq⟩ : ∃ q, q = eqB (inoF I) f 64 := ⟨_, rfl⟩
          have hs : iOk f = q := by simp [iOk, ← HI.out, hok, hq]
          have Hs := Lib.hid hs
          have Hok := Lib.hid hok
          have Hq := Lib.hid hq
          clear hs hok hq
          cases q with
          | true =>
            go_wp2_with (first
              | (go_at_call 77; refine (HP.out _).mono ?_; rintro e w2 ⟨hb2, hyes, -⟩; obtain ⟨B2, cap2, rfl, ho2⟩ := hyes Hok.out; obtain ⟨hc2, hf2⟩ := bcell hb2; obtain ⟨_, _, hv, _, _, _, hr2⟩ := own_rd ho2 (by omega); cases hv; have HK := Lib.hid hr2; clear hr2 ho2 hyes)
              | (go_at_call 36; refine (beq_c B2 0 cap2 B o cap 64 (inoF I) f (inoF_lt I) hf _ HK.out (HRX.out.below hb2)).mono ?_; rw [← Hq.out]; rintro e w3 ⟨rfl, rfl⟩))
            change bodyPost _ _ _ _ _ (put13 w2 w.heap.size I)
            have hk := put13_blk (i := I) (hI0.below hb2 hlr)
            have hbz := put13_below w2 I (Nat.le_refl w.heap.size)
            generalize put13 w2 w.heap.size I = W at hk hbz ⊢
            clear z0 z1 z2 z3 z4 z5 z6 z7 z8 z9 z10 z11 z12 a0 a1 a2 a3 a4 a5 a6 a7 a8 a9 a10 a11 a12 f0 f1 f2 f3 f4 f5 f6 f7 f8 f9 f10 f11 f12
            obtain ⟨y0, y1, y2, y3, y4, y5, y6, y7, y8, y9, y10, y11, y12⟩ := cells13 hk
            refine bodyPost_ret (v := .tuple #[inoV I, .int .i64 0]) ?_ rfl ?_
            · simp [results, Try.results82, go_sem, y0, y1, y2, y3, y4, y5, y6, y7, y8, y9, y10, y11, y12, inoV]
            · refine ⟨fun h => ?_, fun h => ?_, (hB.trans (hb2.mono hB.size)).trans hbz⟩
              · rw [← HI.out]
              · rw [Hs.out] at h; cases h
          | false =>
            go_wp2_with (first
              | (go_at_call 77; refine (HP.out _).mono ?_; rintro e w2 ⟨hb2, hyes, -⟩; obtain ⟨B2, cap2, rfl, ho2⟩ := hyes Hok.out; obtain ⟨hc2, hf2⟩ := bcell hb2; obtain ⟨_, _, hv, _, _, _, hr2⟩ := own_rd ho2 (by omega); cases hv; have HK := Lib.hid hr2; clear hr2 ho2 hyes)
              | (go_at_call 36; refine (beq_c B2 0 cap2 B o cap 64 (inoF I) f (inoF_lt I) hf _ HK.out (HRX.out.below hb2)).mono ?_; rw [← Hq.out]; rintro e w3 ⟨rfl, rfl⟩))
            change bodyPost _ _ _ _ _ (put13 w2 w.heap.size noIno)
            have hk := put13_blk (i := noIno) (hI0.below hb2 hlr)
            have hbz := put13_below w2 noIno (Nat.le_refl w.heap.size)
            generalize put13 w2 w.heap.size noIno = W at hk hbz ⊢
            clear z0 z1 z2 z3 z4 z5 z6 z7 z8 z9 z10 z11 z12 a0 a1 a2 a3 a4 a5 a6 a7 a8 a9 a10 a11 a12 f0 f1 f2 f3 f4 f5 f6 f7 f8 f9 f10 f11 f12
            obtain ⟨y0, y1, y2, y3, y4, y5, y6, y7, y8, y9, y10, y11, y12⟩ := cells13 hk
            refine bodyPost_ret (v := .tuple #[inoV noIno, .int .i64 5]) ?_ rfl ?_
            · simp [results, Try.results82, go_sem, y0, y1, y2, y3, y4, y5, y6, y7, y8, y9, y10, y11, y12, inoV]
            · refine ⟨fun h => ?_, fun _ => rfl, (hB.trans (hb2.mono hB.size)).trans hbz⟩
              rw [Hs.out] at h; cases h
end Go.Proofs.Ytolbahfbhcpgdaa
end
