/- Part of the road to RootRow: RImage. -/
import Derived.Deep.CutBlock
import Derived.Test.YtbbgahffcjbloaaGreatRts10
set_option linter.all false
set_option linter.unusedSimpArgs false
set_option linter.unusedVariables false
set_option linter.unusedSectionVars false
section
/- The reference's image of a repair (one group). -/
namespace Go.Proofs.YtbbgahffcjbloaaGreat
open Go.RowKit

/-- copy of bytes into a row of the call's own, at a step of a region that draws its order -/
theorem step_copy_own {P : Program} {ops : Array Oper} {o : Oper} {a : Act} {w : World} {K : Act → World → Prop} {Q : Exit → Act → World → Prop} {E : Prop} (hgd : o.guard = none) (d s : Operand) (dT sT : TypeId)
    (ho : o.op = .call { callee := .builtin .copy, args := #[d, s], argTypes := #[dT, sT] }) (elem : TypeId) (hu : P.underlying dT = some (.slice elem)) (hsz : (P.info? elem).map (·.size) = some 1)
    (g off dLen dCap sb so sLen sCap : Nat) (hd : a.eval d = .slice (some ⟨g, off, none⟩) dLen dCap) (hs : a.eval s = .slice (some ⟨sb, so, none⟩) sLen sCap)
    (base e N cap : Nat) (f fs : Nat → Nat) (hg : w.ownsRow base e 1 (.slice (some ⟨g, 0, none⟩) N cap) N (bytesL f N)) (m : Nat) (hm : m = Nat.min sLen dLen) (hsrc : RdB w sb so m fs) (hfit : off + m ≤ N)
    (h : ∀ w', w'.ownsRow base e 1 (.slice (some ⟨g, 0, none⟩) N cap) N (bytesL (putF f off m fs) N) → Mods (fun k => k = g) w w' → K (a.put o.dst (goInt m)) w') :
    if Region.wanted o (yielded ops a.tmps) = true then Oper.wp P o a w K Q else E := by
  have hw : Region.wanted o (yielded ops a.tmps) = true := by simp [Region.wanted, hgd]
  rw [if_pos hw]
  obtain ⟨hl0, hg⟩ := hg
  rcases hg with ⟨hv, _⟩ | ⟨g', cap', cur, hv, hb, hgb, hc, hm', hcs, ht⟩
  · cases hv
  · cases hv
    rw [Nat.mul_one] at ht
    have hl : (bytesL fs m).length = m := bytesL_length _ _
    have hNl : N ≤ cur.toList.length := by simp; omega
    have hrun := run_copy_row (P := P) w dT sT o.type elem g off dLen dCap ⟨sb, so, none⟩ sLen sCap cur e (bytesL fs m) hu hsz hgb (by rw [hl, hm]) (rd_news hsrc) (by rw [hl]; simp at hNl; omega) (bytes_one _ _)
    unfold Oper.wp
    simp [execOp, ho, resolve, invoke, builtin, hd, hs, hrun, Result.andThen, hl]
    refine h _ ⟨by rw [bytesL_length]; omega, .inr ⟨g, cap, _, rfl, hb, setRow_heap w g cur _ e _ hgb, hc, hm', ?_, ?_⟩⟩ ⟨rfl, rfl, rfl, by simp, fun k _ hk => setRow_other w g k _ hk⟩
    · simp [hl]; simp at hNl; omega
    · rw [Nat.mul_one]
      simpa using take_put ht hNl hfit
theorem infoSB : (Tryz.prog.info? 25).map (fun i => (i.zero, i.size, i.bytes)) = some (some (.slice none 0 0), 1, 24) := by kernel_rfl
set_option maxRecDepth 1000000 in
set_option maxHeartbeats 8000000 in
theorem rimage_c (g : Geo) (hg1 : g.gr = 1) (f : Nat → Nat) (L : RLoc) (w : World) (lb : Lab) (adr : Nat → Option Nat) (S : RSt) (h : RS g f L w lb adr S) (hok : ImOk g S) :
    Calls Tryz.prog 27 #[.pointer (some ⟨L.R, 0, none⟩)] w fun e w' => ∃ G cap, e = .returned (.slice (some ⟨G, 0, none⟩) L.N cap) ∧ w'.ownsRow w.heap.size 5 1 (.slice (some ⟨G, 0, none⟩) L.N cap) L.N (bytesL (imgR g S f) L.N) ∧ Below w.heap.size w w' ∧ RS g f L w' lb adr S := by
  have hg := h.img.ok
  have hd1 := hg.d1; have hd2 := hg.d2
  obtain ⟨j0, hj0, hy0, hy1, hy2⟩ := info_parts infoSB
  obtain ⟨i0, hi0, iz0, iz1, iz2⟩ := info_parts info8
  obtain ⟨m, hm⟩ : ∃ m, m = (g.da + 7) / 8 := ⟨_, rfl⟩
  have hm1 : 1 ≤ m := by omega
  have hm2 : m ≤ 125 := by omega
  have htot := hg.total_le
  have htp := hg.total_pos
  have hNe := h.img.n
  have hN1 : 0 < L.N := by omega
  have hN2 : L.N ≤ 100000000 := by omega
  have hNc := h.img.nc; have hcb := h.img.capb
  obtain ⟨ov, hRp, hov⟩ := h.rp
  have r0 := hRp.cell 0
  have k0 := h.dk.cell 0; have k1 := h.dk.cell 1; have k2 := h.dk.cell 2; have k3 := h.dk.cell 3
  simp only [List.getElem?_cons_zero, List.getElem?_cons_succ] at r0 k0 k1 k2 k3
  rw [hg1] at k1
  have k1 : w.cell? ⟨L.D, 1, none⟩ = some (.int .i64 1) := k1
  have lR := hRp.lt; have lD := h.dk.lt; have lbk := h.img.lt
  have hmk : ∀ w : World, (Instr.makeSlice 114 (.int .i64 1) (.int .i64 1)).run Tryz.prog w = .ok (.slice (some ⟨w.heap.size, 0, none⟩) 1 1) (w.alloc (.cells #[.slice none 0 0] 25)) := fun w => by
    rw [run_make (P := Tryz.prog) w 114 25 j0 (.slice none 0 0) Tryz.underlying114 hj0 hy0 .i64 .i64 1 1 (by omega) (by omega) (by rw [hy2]; omega) (by omega), hy1, show madeCells (Value.slice none 0 0).cells (Int.toNat 1 * 1) = #[.slice none 0 0] by kernel_rfl]; rfl
  obtain ⟨w1, hw1⟩ : ∃ W, W = w.alloc (.cells #[.int .i64 1, .int .i64 g.ino, .int .i64 g.da] 24) := ⟨_, rfl⟩
  have kg1 : Blk 24 w1 w.heap.size [.int .i64 1, .int .i64 g.ino, .int .i64 g.da] := by rw [hw1]; exact Blk.newL _
  have hB1 : Below w.heap.size w w1 := by rw [hw1]; exact (Below.refl _ _).alloc (Nat.le_refl _) _
  have rd1 : RdB w1 L.b L.o L.N f := h.img.rd.below hB1
  have HG1 := Lib.hid hg1; have HM := Lib.hid hm; have H := Lib.hid h; have HOK := Lib.hid hok; have HNE := Lib.hid hNe; have HW1 := Lib.hid hw1; have HKG1 := Lib.hid kg1; have HB1 := Lib.hid hB1; have HRD1 := Lib.hid rd1
  clear hg1 hm h hok hNe hw1 kg1 hB1 rd1 hRp hov htp
  go_enter Tryz.func27, Tryz.ntmps27
  go_upto_region 3 with (at_builtin; refine app_bytes rfl _ _ 25 rfl w.heap.size 5 i0 Tryz.underlying25 hi0 iz0 iz1 iz2 _ 0 (fun _ => 0) rfl (by exact .inl (World.ownsRow_nil _ _ _ _)) L.b L.o L.N L.cap f rfl (by rw [← HW1.out]; exact HRD1.out) hN1 (by omega) (by simp) ?_; intro G cap w2 ho2 hg2 hat2; rw [← HW1.out] at hg2; have HO2 := Lib.hid ho2; have HG2 := Lib.hid hg2; clear ho2 hg2 hat2)
  have e00 : catF 0 (fun _ => 0) f = f := funext fun k => by simp [catF]
  have ho2 := HO2.out
  rw [Nat.zero_add, e00] at ho2
  have hB2 : Below w.heap.size w w2 := HB1.out.grown HG2.out HB1.out.size (fun k e => by cases e)
  have hk2 := HKG1.out.grown HG2.out (fun e => by cases e)
  obtain ⟨W2, hW2⟩ : ∃ W, W = (w2.alloc (.cells #[.slice none 0 0] 25)).alloc (.cells #[.slice none 0 0] 25) := ⟨_, rfl⟩
  have hBW : Below w.heap.size w W2 := by rw [hW2]; exact (hB2.alloc hB2.size _).alloc (by have := hB2.size; simp; omega) _
  have hBW2 : Below w2.heap.size w2 W2 := by rw [hW2]; exact ((Below.refl _ w2).alloc (Nat.le_refl _) _).alloc (by simp) _
  have kI2 : Blk 25 W2 w2.heap.size [.slice none 0 0] := by rw [hW2]; exact Blk.fst _ _
  have kD2 : Blk 25 W2 (w2.heap.size + 1) [.slice none 0 0] := by rw [hW2]; exact Blk.snd _ _
  have hkW := hk2.below hBW2 hk2.lt
  have hoW := own_below ho2 hBW2
  have g0 := hk2.cell 0
  simp only [List.getElem?_cons_zero] at g0
  have hz2 := hB2.size
  have lG3 := hk2.lt
  have HO2' := Lib.hid hoW; have HBW := Lib.hid hBW; have HKI := Lib.hid kI2; have HKD := Lib.hid kD2; have HKW := Lib.hid hkW; have HW2 := Lib.hid hW2
  clear ho2 hB2 hk2 hW2 hBW hBW2 kI2 kD2 hkW hoW e00
  go_wp2_with fail
  rw [← HW2.out]
  go_loopw [7] (fun i' wr => (i' = .int .i64 0 ∧ wr = W2) ∨ (i' = .int .i64 1 ∧ ∃ wq, wq = wr ∧ ∃ vi vd, IM g f L w lb adr S w.heap.size G cap w2.heap.size (w2.heap.size + 1) vi vd f (fun _ => 0) (fun _ => 0) wq)) (fun i' _ => 1 - (intOf i').toNat)
  case atStart => exact .inl ⟨rfl, rfl⟩
  case round =>
    rcases hrel with ⟨rfl, rfl⟩ | ⟨rfl, wq, rfl, vi, vd, hIM⟩
    · have hm8 : ∀ w : World, (Instr.makeSlice 25 (.int .i64 8) (.int .i64 8)).run Tryz.prog w = .ok (.slice (some ⟨w.heap.size, 0, none⟩) 8 8) (w.alloc (.cells (madeCells (Value.int .u8 0).cells 8) 5)) := fun w => by
        rw [run_make (P := Tryz.prog) w 25 5 i0 (.int .u8 0) Tryz.underlying25 hi0 iz0 .i64 .i64 8 8 (by omega) (by omega) (by rw [iz2]; omega) (by omega), iz1]; rfl
      have hmm : ∀ w : World, (Instr.makeSlice 25 (.int .i64 (m : Nat)) (.int .i64 (m : Nat))).run Tryz.prog w = .ok (.slice (some ⟨w.heap.size, 0, none⟩) m m) (w.alloc (.cells (madeCells (Value.int .u8 0).cells m) 5)) := fun w => by
        rw [run_make (P := Tryz.prog) w 25 5 i0 (.int .u8 0) Tryz.underlying25 hi0 iz0 .i64 .i64 m m (by omega) (by omega) (by rw [iz2]; omega) (by omega), iz1]; simp
      have z8 : ∀ n, (madeCells (Value.int .u8 0).cells n) = (bytesL (fun _ => 0) n).toArray := fun n => by
        have h0 := madeCells_one (.int .u8 0) rfl n
        rw [Nat.mul_one, zeros_bytes] at h0
        rw [← h0]
      simp only [z8] at hm8 hmm
      obtain ⟨pd, hpd⟩ : ∃ pd, pd = g.da + 7 := ⟨_, rfl⟩
      have e1 : IntKind.i64.wrap ((g.da : Int) + 7) = (pd : Int) := by rw [wrap_in _ (by omega) (by omega)]; omega
      have e2 : IntKind.i64.wrap ((pd : Int) / 8) = (m : Int) := by
        have h0 := wrap_ediv pd 8 (by omega)
        rw [show ((8 : Nat) : Int) = 8 from rfl] at h0
        rw [h0, HM.out, hpd]
      have q0 := HKW.out.cell 0; have q2 := HKW.out.cell 2
      have ci := HKI.out.cell 0; have fi := HKI.out.frozen 0; have cd := HKD.out.cell 0; have fd := HKD.out.frozen 0
      simp only [List.getElem?_cons_zero, List.getElem?_cons_succ] at q0 q2 ci cd
      have lI := HKI.out.lt; have lD2 := HKD.out.lt; have lG := HKW.out.lt
      have HPD := Lib.hid hpd
      clear hpd z8
      go_wp2_with fail
      go_roundw
      case rel => exact .inr ⟨rfl, _, rfl, _, _, IM.make H.out HBW.out HKW.out (Nat.le_refl _) HO2'.out HKI.out HKD.out (by omega) (by omega) (by omega) HM.out hm2⟩
      case measure => simp [intOf]
    · clear hmk r0 k0 k1 k2 k3 g0
      have HIM := Lib.hid hIM
      have l3 := hIM.kg.lt
      have q0 := hIM.kg.cell 0
      simp only [List.getElem?_cons_zero] at q0
      clear hIM
      go_wp2_with fail
      go_loopw [8] (fun x' wr => ∃ n : Nat, n ≤ g.inodes ∧ x' = .int .i64 ((n : Int) + 1) ∧ ∃ wq, wq = wr ∧ ∃ vi, IM g f L w lb adr S w.heap.size G cap w2.heap.size (w2.heap.size + 1) vi vd (inoO g S f n) (ibO g S n) (fun _ => 0) wq) (fun x' _ => g.inodes + 1 - (intOf x').toNat)
      case atStart => exact ⟨0, Nat.zero_le _, rfl, _, rfl, vi, HIM.out⟩
      case round =>
        obtain ⟨n, hn, rfl, wx, rfl, vi2, hIM2⟩ := hrel
        have hil := hg.inodes_le
        obtain ⟨ov2, hRp2, _⟩ := hIM2.rs.rp
        have r2 := hRp2.cell 2
        simp only [List.getElem?_cons_zero, List.getElem?_cons_succ] at r2
        have lR2 := hRp2.lt; have lG3 := hIM2.kg.lt
        by_cases hlt : n < g.inodes
        · obtain ⟨x, hx⟩ : ∃ x, x = n + 1 := ⟨_, rfl⟩
          have hxi : ((n : Int) + 1) = (x : Int) := by omega
          rw [hxi]
          have hiok : g.iOk x = true := Geo.iOk_iff.2 (by omega)
          have tx := hIM2.rs.tt.cell x
          rw [adrL_get _ _ _ (by omega)] at tx
          have lT2 := hIM2.rs.tt.lt
          have c0 := hIM2.kg.cell 0; have c1 := hIM2.kg.cell 1; have c2 := hIM2.kg.cell 2
          simp only [List.getElem?_cons_zero, List.getElem?_cons_succ] at c0 c1 c2
          have IA := fun W => riat_c g hg x W
          rw [HG1.out, hiok] at IA
          have IA : ∀ W, Calls Tryz.prog 21 #[.agg #[.int .i64 1, .int .i64 g.ino, .int .i64 g.da], .int .i64 x] W _ := IA
          obtain ⟨z1, z2, z3⟩ := g.iBlk_lt hg hiok
          obtain ⟨p, hp⟩ : ∃ p, p = g.iBlk x := ⟨_, rfl⟩
          obtain ⟨r, hr⟩ : ∃ r, r = g.iOff x := ⟨_, rfl⟩
          simp only [← hp, ← hr] at IA
          have hin : p * 1024 + r + 64 ≤ L.N := by rw [HNE.out, hp, hr]; omega
          have y1 : (p : Int) * 1024 + (r : Int) ≤ (L.N : Int) := by omega
          have hcc := own_len hIM2.out
          obtain ⟨_, lG2, hNcap, hcm⟩ := hcc
          unfold maxLen at hcm
          have y2 : cap ≠ p * 1024 + r := by omega
          have y3 : (L.N : Int) ≤ (cap : Int) := by omega
          have kxi : (x : Int) < (g.inodes : Int) + 1 := by omega
          have HIA := Lib.hid IA; have HIM2 := Lib.hid hIM2; have HX := Lib.hid hx; have HPR := Lib.hid (And.intro hp hr); have HXI := Lib.hid hxi
          clear IA hIM2 hx z1 z2 z3 hp hr hRp2 hxi hn
          cases hax : adr x with
          | none =>
            have hTn := (HIM2.out.rs.nn x).1 hax
            rw [hax] at tx
            simp only [Option.map_none] at tx
            have PI := fun W => rpino_g noIno ⟨by decide, by decide, by decide, fun k _ _ => (by show (0 : Nat) < 4294967296; decide)⟩ rfl W
            unfold inoV at PI
            have PI : ∀ W, Calls Tryz.prog 22 #[.agg #[.int .i64 0, .int .i64 0, .int .i64 0, .int .i64 0, .int .i64 0, .int .i64 0, .int .i64 0, .int .i64 0, .int .i64 0, .int .i64 0, .int .i64 0, .int .i64 0, .int .i64 0]] W _ := PI
            have HPI := Lib.hid PI; have HTN := Lib.hid hTn; have HAX := Lib.hid hax
            clear PI hTn hax
            go_wp2_with (first
              | (go_at_call 21; refine (HIA.out _).mono ?_; rintro e w3 ⟨rfl, hb3⟩
                 obtain ⟨hc3, hf3⟩ := bcell hb3
                 have hz3 := hb3.size
                 have a1 : L.R < w3.heap.size := by omega
                 have a2 : L.TB < w3.heap.size := by omega
                 have a3 : w.heap.size < w3.heap.size := by omega
                 have HB3 := Lib.hid hb3
                 clear hb3)
              | (go_at_call 22; refine (HPI.out _).mono ?_; rintro e w4 ⟨G4, cap4, rfl, ho4, hb4⟩
                 obtain ⟨hc4, hf4⟩ := bcell hb4
                 have hz4 := hb4.size
                 have hIM4 := (HIM2.out.below HB3.out).below ((((Below.refl _ w3).alloc (Nat.le_refl _) _).trans (hb4.mono (by simp))))
                 have lG4 := (own_len ho4).2.1
                 have HIM4 := Lib.hid hIM4; have HO4 := Lib.hid ho4; have HR4 := Lib.hid (own_rdB ho4)
                 clear ho4 hb4 hIM4)
              | (refine copy_own rfl _ _ 25 25 rfl 5 Tryz.underlying25 (by kernel_rfl) G (p * 1024 + r) (L.N - (p * 1024 + r)) (cap - (p * 1024 + r)) G4 0 64 cap4 (by rfl) (by rfl) w.heap.size 5 L.N cap (inoO g S f n) (inoF noIno) HIM4.out.out (by omega) 64 (by show 64 = min 64 (L.N - (p * 1024 + r)); omega) HR4.out (by omega) ?_
                 intro w5 ho5 hm5
                 have hIM5 := HIM4.out.put H.out hm5 ho5
                 have HIM5 := Lib.hid hIM5
                 obtain ⟨ov5, hRp5, _⟩ := hIM5.rs.rp
                 have r25 := hRp5.cell 2
                 have tx5 := hIM5.rs.tt.cell x
                 have lR5 := hRp5.lt; have lT5 := hIM5.rs.tt.lt
                 rw [adrL_get _ _ _ (by omega), HAX.out] at tx5
                 simp only [List.getElem?_cons_zero, List.getElem?_cons_succ, Option.map_none] at r25 tx5
                 clear ho5 hm5 hIM5 hRp5))
            go_roundw
            case rel =>
              have eO : inoO g S f x = putF (inoO g S f n) (p * 1024 + r) 64 (inoF noIno) := by
                rw [HX.out]
                show inoO1 g S (inoO g S f n) (n + 1) = _
                unfold inoO1
                rw [← HX.out, HTN.out]
                dsimp only
                rw [HPR.out.1, HPR.out.2]
              have eB : ibO g S x = ibO g S n := by
                rw [HX.out]
                show (if (S.T (n + 1)).isSome then _ else _) = _
                rw [← HX.out, HTN.out]; rfl
              have := HX.out
              exact ⟨x, by omega, rfl, _, rfl, vi2, by rw [eO, eB]; exact HIM5.out⟩
            case measure => have := HX.out; simp [intOf]; omega
          | some B =>
            obtain ⟨t, ht⟩ : ∃ t, S.T x = some t := by
              cases hq : S.T x with
              | none => have := (HIM2.out.rs.nn x).2 hq; rw [hax] at this; cases this
              | some t => exact ⟨t, rfl⟩
            rw [hax] at tx
            simp only [Option.map_some] at tx
            obtain ⟨dv, lv, dvs, hO⟩ := HIM2.out.rs.obj x B t hax ht
            obtain ⟨d0, d1, d2, d3, d4, d5, d6, d7, d8, d9, d10, d11, d12⟩ := cells13m hO.blk
            have lB := hO.blk.lt
            obtain ⟨hIr, hIo⟩ := HOK.out.ino x t ht
            have PI := fun W => rpino_g t.i hIr hIo W
            unfold inoV at PI
            have GR := fun W => rgroup_c g hg x W
            rw [HG1.out, Geo.one_iGr HG1.out x, hiok] at GR
            have GR : ∀ W, Calls Tryz.prog 40 #[.agg #[.int .i64 1, .int .i64 g.ino, .int .i64 g.da], .int .i64 x] W fun e w' => e = .returned (.tuple #[.int .i64 0, .int .i64 (g.iNo x), .bool true]) ∧ Below W.heap.size W w' := GR
            have hiq := Geo.iNo_lt (i := x) hg
            have hi2 := hg.i2
            obtain ⟨I, ci, rfl, hci⟩ := own_some HIM2.out.oi (by decide)
            have WI := fun W (hW : RdB W I 0 8 (ibO g S n)) => rwith_c I 0 8 ci (g.iNo x) (ibO g S n) true W (ibO_lt g S n) hW (by decide) (by decide) (by omega)
            have cbi := HIM2.out.ki.cell 0; have fbi := HIM2.out.ki.frozen 0; have lbi := HIM2.out.ki.lt
            simp only [List.getElem?_cons_zero] at cbi
            have nbi3 : w2.heap.size ≠ w.heap.size := blkNe HIM2.out.ki HIM2.out.kg (by decide)
            have nbB : w2.heap.size ≠ B := blkNe HIM2.out.ki hO.blk (by decide)
            have nbR : w2.heap.size ≠ L.R := by omega
            obtain ⟨iq, hiq2⟩ : ∃ iq, iq = g.iNo x := ⟨_, rfl⟩
            rw [← hiq2] at WI
            simp only [← hiq2] at GR
            have HPI := Lib.hid PI; have HGR := Lib.hid GR; have HWI := Lib.hid WI; have HT := Lib.hid ht; have HAX := Lib.hid hax; have HO := Lib.hid hO; have HIQ := Lib.hid hiq2
            clear PI GR WI ht hax hO hIr hIo hiq hiq2
            go_wp2_with (first
              | (go_at_call 21; refine (HIA.out _).mono ?_; rintro e w3 ⟨rfl, hb3⟩
                 obtain ⟨hc3, hf3⟩ := bcell hb3
                 have hz3 := hb3.size
                 have a1 : L.R < w3.heap.size := by omega
                 have a2 : L.TB < w3.heap.size := by omega
                 have a3 : w.heap.size < w3.heap.size := by omega
                 have a4 : B < w3.heap.size := by omega
                 have a5 : w2.heap.size < w3.heap.size := by omega
                 have HB3 := Lib.hid hb3
                 clear hb3)
              | (go_at_call 40; refine (HGR.out _).mono ?_; rintro e w6 ⟨rfl, hb6⟩
                 have hz6 := hb6.size
                 simp only [World.size_alloc] at hz6
                 have hB36 : Below w3.heap.size w3 w6 := ((Below.refl _ w3).alloc (Nat.le_refl _) _).trans (hb6.mono (by simp))
                 have hIM6 := (HIM2.out.below HB3.out).below hB36
                 have k12 : Blk 56 w6 w3.heap.size (inoL t.i) := Blk.below (Blk.newL (inoL t.i)) hb6 (by simp)
                 have c6 := hIM6.ki.cell 0; have f6 := hIM6.ki.frozen 0; have l6 := hIM6.ki.lt
                 simp only [List.getElem?_cons_zero] at c6
                 have HIM6 := Lib.hid hIM6; have HK12 := Lib.hid k12
                 clear hb6 hB36 hIM6 k12)
              | (go_at_call 60; refine (HWI.out w6 (own_rdB HIM6.out.oi)).mono ?_; rintro e w7 ⟨v7, rfl, ho7, hb7⟩
                 obtain ⟨g7, cap7, rfl, _⟩ := own_some ho7 (by decide)
                 have hz7 := hb7.size
                 have hIM7 := HIM6.out.below hb7
                 have c7 := hIM7.ki.cell 0; have f7 := hIM7.ki.frozen 0; have l7 := hIM7.ki.lt
                 simp only [List.getElem?_cons_zero] at c7
                 have hIM8 := hIM7.ibit H.out (own_mono ho7 (by have := HIM6.out.bel.size; omega)) (fun e => by have := own_base ho7 G e; have := (own_len HIM6.out.out).2.1; omega)
                 have k12 : Blk 56 (w7.setCell ⟨w2.heap.size, 0, none⟩ (.slice (some ⟨g7, 0, none⟩) 8 cap7)) w3.heap.size (inoL t.i) := (HK12.out.below hb7 (by omega)).other ⟨w2.heap.size, 0, none⟩ _ (by show w2.heap.size ≠ w3.heap.size; omega)
                 obtain ⟨e0, e1, e2, e3, e4, e5, e6, e7, e8, e9, e10, e11, e12⟩ := cells13 k12
                 have l12 := k12.lt
                 have HIM8 := Lib.hid hIM8; have HK8 := Lib.hid k12
                 clear hb7 ho7 hIM7 hIM8 k12)
              | (go_at_call 22; refine (HPI.out _).mono ?_; rintro e w4 ⟨G4, cap4, rfl, ho4, hb4⟩
                 have hz4 := hb4.size
                 have hIM4 := HIM8.out.below hb4
                 have HIM4 := Lib.hid hIM4; have HO4 := Lib.hid ho4; have HR4 := Lib.hid (own_rdB ho4)
                 clear ho4 hb4 hIM4)
              | (refine copy_own rfl _ _ 25 25 rfl 5 Tryz.underlying25 (by kernel_rfl) G (p * 1024 + r) (L.N - (p * 1024 + r)) (cap - (p * 1024 + r)) G4 0 64 cap4 (by rfl) (by rfl) w.heap.size 5 L.N cap (inoO g S f n) (inoF t.i) HIM4.out.out (by omega) 64 (by show 64 = min 64 (L.N - (p * 1024 + r)); omega) HR4.out (by omega) ?_
                 intro w5 ho5 hm5
                 have hIM5 := HIM4.out.put H.out hm5 ho5
                 have HIM5 := Lib.hid hIM5
                 obtain ⟨ov5, hRp5, _⟩ := hIM5.rs.rp
                 have r25 := hRp5.cell 2
                 have tx5 := hIM5.rs.tt.cell x
                 have lR5 := hRp5.lt; have lT5 := hIM5.rs.tt.lt
                 rw [adrL_get _ _ _ (by omega), HAX.out] at tx5
                 simp only [List.getElem?_cons_zero, List.getElem?_cons_succ, Option.map_some] at r25 tx5
                 clear ho5 hm5 hIM5 hRp5))
            obtain ⟨fo1, hfo1⟩ : ∃ fo1, fo1 = putF (inoO g S f n) (p * 1024 + r) 64 (inoF t.i) := ⟨_, rfl⟩
            have hIM5' := HIM5.out
            rw [← hfo1] at hIM5'
            obtain ⟨dv5, lv5, dvs5, hO5⟩ := hIM5'.rs.obj x B t HAX.out HT.out
            have m16 : w5.cell? ⟨B, 16, none⟩ = some (.slice none 0 0) := hO5.blk.cell 16
            have lB5 := hO5.blk.lt
            obtain ⟨hdl, hlead, hrows⟩ := HOK.out.dir x t HT.out
            have hdll := own_max hO5.dir.1
            unfold maxLen at hdll
            have HFO := Lib.hid hfo1; have HIM5b := Lib.hid hIM5'; have HDL := Lib.hid hdl; have HLE := Lib.hid hlead; have HRW := Lib.hid hrows
            clear hfo1 hIM5' hO5 hdl hlead hrows
            go_loopw [19] (fun i' wz => i' = .int .i64 0 ∧ wz = w5) (fun _ _ => 0)
            case atStart => exact ⟨rfl, rfl⟩
            case round =>
              obtain ⟨rfl, rfl⟩ := hrel
              go_wp2_with fail
              go_loopw [22] (fun k' wz => ∃ k : Nat, k ≤ t.dir.length ∧ k' = .int .i64 k ∧ ∃ wq, wq = wz ∧ IM g f L w lb adr S w.heap.size G cap w2.heap.size (w2.heap.size + 1) (.slice (some ⟨g7, 0, none⟩) 8 cap7) vd (dirO t fo1 k) (withB (ibO g S n) iq true) (fun _ => 0) wq) (fun k' _ => t.dir.length - (intOf k').toNat)
              case atStart => exact ⟨0, Nat.zero_le _, rfl, _, rfl, HIM5b.out⟩
              case round =>
                obtain ⟨k, hk, rfl, wk, rfl, hIMk⟩ := hrel
                obtain ⟨dvk, lvk, dvsk, hOk⟩ := hIMk.rs.obj x B t HAX.out HT.out
                obtain ⟨A, capd, rfl⟩ := own_form hOk.dir.1
                have n13 : wk.cell? ⟨B, 13, none⟩ = some (.slice A t.dir.length capd) := hOk.blk.cell 13
                have lBk := hOk.blk.lt
                by_cases hkl : k < t.dir.length
                · obtain ⟨GD, cpd, hA, _⟩ := own_some hOk.dir.1 (by omega)
                  cases hA
                  obtain ⟨d, hd⟩ : ∃ d, t.dir[k]? = some d := ⟨_, List.getElem?_eq_getElem hkl⟩
                  obtain ⟨v, hv⟩ : ∃ v, dvsk[k]? = some v := ⟨_, List.getElem?_eq_getElem (by rw [hOk.len]; exact hkl)⟩
                  have hr := hOk.row k v d hv hd
                  obtain ⟨hd32, hde⟩ := HRW.out d (List.mem_of_getElem? hd)
                  rw [hd32] at hr
                  obtain ⟨LBk, cv, rfl, hcv⟩ := own_some hr.1 (by decide)
                  have cgd := own_at hOk.dir.1 hv
                  have lgd := lt_of_cell cgd
                  have hlk : k < t.lead.length := by rw [← HDL.out]; exact hkl
                  obtain ⟨q, hq⟩ : ∃ q, t.lead[k]? = some q := ⟨_, List.getElem?_eq_getElem hlk⟩
                  have hqt := HLE.out q (List.mem_of_getElem? hq)
                  obtain ⟨GL, cpl, hlv, _⟩ := own_some hOk.lead.1 (by omega)
                  have n15 : wk.cell? ⟨B, 15, none⟩ = some lvk := hOk.blk.cell 15
                  have hol := hOk.lead.1
                  rw [hlv] at n15 hol
                  have cgl := own_at hol (k := k) (u := .int .i64 (q : Nat)) (by simp [natsV, hq])
                  have lgl := lt_of_cell cgl
                  have hqe : t.lead.getD k 0 = q := by rw [List.getD_eq_getElem?_getD, hq]; rfl
                  have hdde : t.dir.getD k [] = d := by rw [List.getD_eq_getElem?_getD, hd]; rfl
                  have hrd : RdE wk LBk 32 (rowEnt d) := fun j hj => by
                    have hj2 : j < d.length := by omega
                    have he : d[j]? = some (rowEnt d j) := by unfold rowEnt; rw [List.getD_eq_getElem?_getD, List.getElem?_eq_getElem hj2]; rfl
                    obtain ⟨e1, e2⟩ := entsV_get d j _ he
                    exact ⟨own_at hr.1 e1, own_at hr.1 e2⟩
                  have PE := rpents_a LBk 32 cv (rowEnt d) wk (Nat.le_refl _) (by decide) (fun j hj => hde _ (by
                    have hj2 : j < d.length := by omega
                    unfold rowEnt; rw [List.getD_eq_getElem?_getD, List.getElem?_eq_getElem hj2]; exact List.getElem_mem hj2)) hrd
                  have hq1 : q * 1024 + 1024 ≤ L.N := by rw [HNE.out]; omega
                  have y4 : (q : Int) * 1024 ≤ (L.N : Int) := by omega
                  have y5 : cap ≠ q * 1024 := by omega
                  have hkl2 : (k : Int) < (t.dir.length : Int) := by omega
                  have hkl3 : (k : Int) < (t.lead.length : Int) := by omega
                  have hdO : dirO t fo1 (k + 1) = putF (dirO t fo1 k) (q * 1024) 1024 (pbF (rowEnt d) 32) := by
                    show putF _ (t.lead.getD k 0 * 1024) 1024 (pbF (rowEnt (t.dir.getD k [])) 32) = _
                    rw [hqe, hdde]
                  have HIMk := Lib.hid hIMk; have HPE := Lib.hid PE; have HDO := Lib.hid hdO
                  clear hIMk PE hdO hOk hd hv hr hd32 hde hq hlv hol hqe hdde hrd hqt
                  go_wp2_with (first
                    | (go_at_call 39; refine HPE.out.mono ?_; rintro e w6 ⟨G6, cap6, rfl, ho6, hb6⟩
                       obtain ⟨hc6, hf6⟩ := bcell hb6
                       have hz6 := hb6.size
                       have hIM6 := HIMk.out.below hb6
                       have HIM6 := Lib.hid hIM6; have HR6 := Lib.hid (own_rdB ho6)
                       clear hb6 ho6 hIM6)
                    | (refine copy_own rfl _ _ 25 25 rfl 5 Tryz.underlying25 (by kernel_rfl) G (q * 1024) (L.N - q * 1024) (cap - q * 1024) G6 0 1024 cap6 (by rfl) (by rfl) w.heap.size 5 L.N cap (dirO t fo1 k) (pbF (rowEnt d) 32) HIM6.out.out (by omega) 1024 (by show 1024 = min 1024 (L.N - q * 1024); omega) HR6.out (by omega) ?_
                       intro w8 ho8 hm8
                       have hIM8 := HIM6.out.put H.out hm8 ho8
                       rw [← HDO.out] at hIM8
                       have HIM8b := Lib.hid hIM8
                       clear ho8 hm8 hIM8))
                  go_roundw
                  case rel => exact ⟨k + 1, by omega, by go_num, _, rfl, HIM8b.out⟩
                  case measure => simp [intOf]; omega
                · obtain rfl : k = t.dir.length := by omega
                  have HIMk := Lib.hid hIMk
                  clear hIMk hOk hkl hk
                  go_wp2_with fail
                  go_roundw
                  case rel =>
                    have eO : inoO g S f x = dirO t fo1 t.dir.length := by
                      rw [HX.out]
                      show inoO1 g S (inoO g S f n) (n + 1) = _
                      unfold inoO1
                      rw [← HX.out, HT.out]
                      dsimp only
                      rw [HFO.out, HPR.out.1, HPR.out.2]
                    have eB : ibO g S x = withB (ibO g S n) iq true := by
                      rw [HX.out]
                      show (if (S.T (n + 1)).isSome then _ else _) = _
                      rw [← HX.out, HT.out, HIQ.out]; rfl
                    have := HX.out
                    exact ⟨x, by omega, rfl, _, rfl, _, by rw [eO, eB]; exact HIMk.out⟩
                  case measure => have := HX.out; simp [intOf]; omega
        · obtain rfl : n = g.inodes := by omega
          have c0 := hIM2.kg.cell 0; have c1 := hIM2.kg.cell 1; have c2 := hIM2.kg.cell 2
          simp only [List.getElem?_cons_zero, List.getElem?_cons_succ] at c0 c1 c2
          have HIM2 := Lib.hid hIM2
          have hxn : ¬ (g.inodes : Int) + 1 < (g.inodes : Int) + 1 := by omega
          clear hIM2 hRp2 hlt hn
          go_wp2_with fail
          go_loopw [25] (fun k' wz => ∃ k : Nat, k ≤ g.blocks ∧ k' = .int .i64 k ∧ ∃ wq, wq = wz ∧ ∃ vd2, IM g f L w lb adr S w.heap.size G cap w2.heap.size (w2.heap.size + 1) vi2 vd2 (inoO g S f g.inodes) (ibO g S g.inodes) (dbO g S.c k) wq) (fun k' _ => g.blocks - (intOf k').toNat)
          case atStart => exact ⟨0, Nat.zero_le _, rfl, _, rfl, vd, HIM2.out⟩
          case round =>
            obtain ⟨k, hk, rfl, wk, rfl, vd2, hIMk⟩ := hrel
            obtain ⟨ovk, hRpk, _⟩ := hIMk.rs.rp
            have m1 := hRpk.cell 1
            simp only [List.getElem?_cons_zero, List.getElem?_cons_succ] at m1
            have lRk := hRpk.lt; have lG3k := hIMk.kg.lt
            have hblk := hg.blocks_le
            have hbda : g.blocks = g.da := by unfold Geo.blocks; rw [HG1.out, Nat.one_mul]
            have e0 := hIMk.kg.cell 0; have e1 := hIMk.kg.cell 1; have e2 := hIMk.kg.cell 2
            simp only [List.getElem?_cons_zero, List.getElem?_cons_succ] at e0 e1 e2
            by_cases hkl : k < g.blocks
            · have ck := hIMk.rs.cl.cell k
              rw [boolsL_get _ _ _ hkl] at ck
              have lCk := hIMk.rs.cl.lt
              have hkl2 : (k : Int) < (g.blocks : Int) := by omega
              cases hc : S.c k with
              | false =>
                rw [hc] at ck
                have hd : dbO g S.c (k + 1) = dbO g S.c k := by
                  show (if S.c k then _ else _) = _
                  rw [hc]; rfl
                have HIMk := Lib.hid hIMk; have HD := Lib.hid hd
                clear hIMk hd hc hRpk hbda
                go_wp2_with fail
                go_roundw
                case rel => exact ⟨k + 1, by omega, by go_num, _, rfl, _, by rw [HD.out]; exact HIMk.out⟩
                case measure => simp [intOf]; omega
              | true =>
                rw [hc] at ck
                have hkd : k % g.da = k := Nat.mod_eq_of_lt (by omega)
                have hkm : k / 8 < m := by have := HM.out; omega
                have hd : dbO g S.c (k + 1) = withB (dbO g S.c k) k true := by
                  show (if S.c k then withB (dbO g S.c k) (k % g.da) true else _) = _
                  rw [hc, hkd]; rfl
                obtain ⟨ID, cd, rfl, hcd⟩ := own_some hIMk.od (by omega)
                have odk := hIMk.od
                rw [← HM.out] at odk
                have kd0 := hIMk.kd.cell 0; have kdf := hIMk.kd.frozen 0; have lkd := hIMk.kd.lt
                simp only [List.getElem?_cons_zero] at kd0
                rw [← HM.out] at kd0
                have WI := fun W (hb : Below wk.heap.size wk W) => rwith_c ID 0 m cd k (dbO g S.c k) true W (dbO_lt g S.c k) ((own_rdB odk).below hb) (by omega) (by omega) hkm
                have HWI := Lib.hid WI; have HIMk := Lib.hid hIMk; have HD := Lib.hid hd
                have q0 : (k : Int) / (g.da : Int) = 0 := Int.ediv_eq_zero_of_lt (by omega) (by omega)
                have q1 : (k : Int) % (g.da : Int) = (k : Int) := Int.emod_eq_of_lt (by omega) (by omega)
                have q2 : (k : Int).tdiv (g.da : Int) = 0 := by rw [Int.tdiv_eq_ediv_of_nonneg (by omega)]; exact q0
                have q3 : (k : Int).tmod (g.da : Int) = (k : Int) := by rw [Int.tmod_eq_emod_of_nonneg (by omega)]; exact q1
                have q4 : ¬ g.da = 0 := by omega
                have q6 : IntKind.i64.wrap 0 = 0 := rfl
                have q7 : IntKind.i64.wrap (k : Int) = (k : Int) := wrap_in _ (by omega) (by omega)
                have q5 : ((g.da : Int) == 0) = false := by simp; omega
                clear WI hIMk hd hc hRpk hbda odk hkd
                go_wp2_with fail
                refine wp_region_held_drew (S := fun (w' : World) => w'.cell? ⟨w.heap.size, 2, none⟩ = some (.int .i64 (g.da : Nat))) (by kernel_rfl) e2 (fun hHeld => ?_)
                refine tkA (i := 0) (oi := ⟨_, _, _, _, _, _⟩) ?_
                simp only [putA, List.set]
                refine tkA (i := 1) (oi := ⟨_, _, _, _, _, _⟩) ?_
                simp only [putA, List.set]
                refine tkA (i := 2) (oi := ⟨_, _, _, _, _, _⟩) ?_
                simp only [putA, List.set]
                refine tkA (i := 3) (oi := ⟨_, _, _, _, _, _⟩) ?_
                simp only [putA, List.set]
                refine tkA (i := 4) (oi := ⟨_, _, _, _, _, _⟩) ?_
                simp only [putA, List.set]
                refine tkA (i := 5) (oi := ⟨_, _, _, _, _, _⟩) ?_
                simp only [putA, List.set]
                refine tkA (i := 6) (oi := ⟨_, _, _, _, _, _⟩) ?_
                simp only [putA, List.set]
                refine tkA (i := 7) (oi := ⟨_, _, _, _, _, _⟩) ?_
                simp only [putA, List.set]
                refine tkA (i := 8) (oi := ⟨_, _, _, _, _, _⟩) ?_
                simp only [putA, List.set]
                refine tkA (i := 9) (oi := ⟨_, _, _, _, _, _⟩) ?_
                simp only [putA, List.set]
                refine tkA (i := 10) (oi := ⟨_, _, _, _, _, _⟩) ?_
                simp only [putA, List.set]
                refine tkA (i := 12) (oi := ⟨_, _, _, _, _, _⟩) ?_
                simp only [putA, List.set]
                refine tkA (i := 13) (oi := ⟨_, _, _, _, _, _⟩) ?_
                simp only [putA, List.set]
                refine tkA (i := 14) (oi := ⟨_, _, _, _, _, _⟩) ?_
                simp only [putA, List.set]
                refine tkA (i := 15) (oi := ⟨_, _, _, _, _, _⟩) ?_
                simp only [putA, List.set]
                refine wpAnyH_ready (rs := [11]) (by kernel_rfl) (by simp) ?_
                refine AllReadyH.cons rfl (fun K hK => ?_) AllReadyH.nil
                go_simp
                refine hK.out _ _ hHeld (fun hHeld => ?_)
                clear hK K
                refine wpAnyH_ready (rs := [16]) (by kernel_rfl) (by simp) ?_
                refine AllReadyH.cons rfl (fun K hK => ?_) AllReadyH.nil
                go_simp
                refine (HWI.out wk.drew (Below.refl _ _).drew).mono ?_
                rintro e w7 ⟨v7, rfl, ho7, hb7⟩
                obtain ⟨g7, cap7, rfl, _⟩ := own_some ho7 (by omega)
                have hbw : Below wk.heap.size wk w7 := (Below.refl wk.heap.size wk).drew.trans hb7
                have hIM7 := HIMk.out.below hbw
                have s7 : w7.cell? ⟨w.heap.size, 2, none⟩ = some (.int .i64 (g.da : Nat)) := hIM7.kg.cell 2
                have c7 := hIM7.kd.cell 0; have f7 := hIM7.kd.frozen 0; have l7 := hIM7.kd.lt
                simp only [List.getElem?_cons_zero] at c7
                have hIM8 := hIM7.dbit H.out (v := .slice (some ⟨g7, 0, none⟩) m cap7) (by rw [← HM.out]; exact own_mono ho7 HIMk.out.bel.size) (fun e => by have := own_base ho7 G e; have h2 := (own_len HIMk.out.out).2.1; have h3 : wk.drew.heap.size = wk.heap.size := rfl; omega)
                have s8 : (w7.setCell ⟨w2.heap.size + 1, 0, none⟩ (.slice (some ⟨g7, 0, none⟩) m cap7)).cell? ⟨w.heap.size, 2, none⟩ = some (.int .i64 (g.da : Nat)) := hIM8.kg.cell 2
                rw [← HD.out] at hIM8
                have HIM8 := Lib.hid hIM8
                clear hIM7 hIM8 hbw hb7 ho7
                refine hK.out _ _ s7 (fun hHeld => ?_)
                clear hK K
                refine tkA (i := 17) (oi := ⟨_, _, _, _, _, _⟩) ?_
                simp only [putA, List.set]
                refine wpAnyH_ready (rs := [18]) (by kernel_rfl) (by simp) ?_
                refine AllReadyH.cons rfl (fun K hK => ?_) AllReadyH.nil
                go_simp
                refine hK.out _ _ s8 (fun hHeld => ?_)
                clear hK K
                refine wpAnyH_done (by kernel_rfl) ?_ _
                clear hHeld s7 s8 c7 f7
                go_wp2_with fail
                go_roundw
                case rel => exact ⟨k + 1, by omega, by go_num, _, rfl, _, HIM8.out⟩
                case measure => simp [intOf]; omega
            · obtain rfl : k = g.blocks := by omega
              have HIMk := Lib.hid hIMk
              have hkn : ¬ (g.blocks : Int) < (g.blocks : Int) := by omega
              have hgo : (0 : Nat) < g.gr := by rw [HG1.out]; decide
              have HD0 := fun W => rhead_c g hg 0 hgo W
              have hh0 : g.head 0 = 1 := by simp [Geo.head]
              rw [HG1.out, hh0] at HD0
              have HD0 : ∀ W, Calls Tryz.prog 36 #[.agg #[.int .i64 1, .int .i64 g.ino, .int .i64 g.da], .int .i64 0] W fun e w' => e = .returned (.tuple #[.int .i64 1, .bool true]) ∧ Below W.heap.size W w' := HD0
              have HHD := Lib.hid HD0
              clear hIMk hRpk hkl hk hbda HD0 hgo hh0
              go_wp2_with fail
              go_loopw [26] (fun k' wz => (k' = .int .i64 0 ∧ wz = wk) ∨ (k' = .int .i64 1 ∧ ∃ wq, wq = wz ∧ ∃ vi3 vd3, IM g f L w lb adr S w.heap.size G cap w2.heap.size (w2.heap.size + 1) vi3 vd3 (imgR g S f) (ibO g S g.inodes) (dbO g S.c g.blocks) wq)) (fun k' _ => 1 - (intOf k').toNat)
              case atStart => exact .inl ⟨rfl, rfl⟩
              case round =>
                rcases hrel with ⟨rfl, rfl⟩ | ⟨rfl, wq, rfl, vi3, vd3, hIMq⟩
                · obtain ⟨IB, cb, hvi, hcb1⟩ := own_some HIMk.out.oi (by decide)
                  obtain ⟨ID, cd, hvd, hcd⟩ := own_some HIMk.out.od (by omega)
                  have hoi := HIMk.out.oi; have hod := HIMk.out.od
                  have b0 := HIMk.out.ki.cell 0; have bd0 := HIMk.out.kd.cell 0
                  simp only [List.getElem?_cons_zero] at b0 bd0
                  rw [hvi] at hoi b0
                  rw [hvd] at hod bd0
                  rw [← HM.out] at hod bd0
                  have PH := fun W (hb : Below wr.heap.size wr W) => rphead_c g hg 0 IB 8 cb ID m cd (ibO g S g.inodes) (dbO g S.c g.blocks) (by decide) (ibO_lt g S _) (dbO_lt g S.c _) W ((own_rdB hoi).below hb) ((own_rdB hod).below hb) (by decide) (by omega)
                  rw [HG1.out] at PH
                  have PH : ∀ W, Below wr.heap.size wr W → Calls Tryz.prog 38 #[.agg #[.int .i64 1, .int .i64 g.ino, .int .i64 g.da], .int .i64 0, .slice (some ⟨IB, 0, none⟩) 8 cb, .slice (some ⟨ID, 0, none⟩) m cd] W _ := PH
                  have hcc := own_len HIMk.out.out
                  obtain ⟨_, lG2, hNcap, hcm⟩ := hcc
                  unfold maxLen at hcm
                  have hN3 : 2048 ≤ L.N := by have h1 := HNE.out; have h2 := hg.total_pos; omega
                  have y0 : IntKind.i64.wrap 1024 = 1024 := rfl
                  have y1 : (1024 : Int) ≤ (L.N : Int) := by omega
                  have y2 : cap ≠ 1024 := by omega
                  have y3 : (L.N : Int) ≤ (cap : Int) := by omega
                  have HPH := Lib.hid PH
                  have lbi := HIMk.out.ki.lt; have lbd := HIMk.out.kd.lt
                  clear PH hoi hod hvi hvd
                  go_wp2_with (go_at_call 36; refine (HHD.out _).mono ?_; rintro e w8 ⟨rfl, hb8⟩; have HB8 := Lib.hid hb8; clear hb8)
                  have hIM8 := HIMk.out.below HB8.out
                  have t0 : w8.cell? ⟨w.heap.size, 0, none⟩ = some (.int .i64 1) := hIM8.kg.cell 0
                  have t1 : w8.cell? ⟨w.heap.size, 1, none⟩ = some (.int .i64 g.ino) := hIM8.kg.cell 1
                  have t2 : w8.cell? ⟨w.heap.size, 2, none⟩ = some (.int .i64 g.da) := hIM8.kg.cell 2
                  have t3 := (HB8.out.cell (p := ⟨w2.heap.size, 0, none⟩) lbi).trans b0
                  have t4 := (HB8.out.cell (p := ⟨w2.heap.size + 1, 0, none⟩) lbd).trans bd0
                  have HIM8 := Lib.hid hIM8
                  have hz8 := HB8.out.size
                  clear hIM8
                  refine wp_region_held_drew (S := fun (w' : World) => w'.cell? ⟨w.heap.size, 0, none⟩ = some (.int .i64 1) ∧ w'.cell? ⟨w.heap.size, 1, none⟩ = some (.int .i64 g.ino) ∧ w'.cell? ⟨w.heap.size, 2, none⟩ = some (.int .i64 g.da) ∧ w'.cell? ⟨w2.heap.size, 0, none⟩ = some (.slice (some ⟨IB, 0, none⟩) 8 cb) ∧ w'.cell? ⟨w2.heap.size + 1, 0, none⟩ = some (.slice (some ⟨ID, 0, none⟩) m cd)) (by kernel_rfl) ⟨t0, t1, t2, t3, t4⟩ (fun hHeld => ?_)
                  refine tkA (i := 0) (oi := ⟨_, _, _, _, _, _⟩) ?_
                  simp only [putA, List.set]
                  refine tkA (i := 1) (oi := ⟨_, _, _, _, _, _⟩) ?_
                  simp only [putA, List.set]
                  refine tkA (i := 2) (oi := ⟨_, _, _, _, _, _⟩) ?_
                  simp only [putA, List.set]
                  refine tkA (i := 3) (oi := ⟨_, _, _, _, _, _⟩) ?_
                  simp only [putA, List.set]
                  refine tkA (i := 4) (oi := ⟨_, _, _, _, _, _⟩) ?_
                  simp only [putA, List.set]
                  refine tkA (i := 5) (oi := ⟨_, _, _, _, _, _⟩) ?_
                  simp only [putA, List.set]
                  refine tkA (i := 6) (oi := ⟨_, _, _, _, _, _⟩) ?_
                  simp only [putA, List.set]
                  refine tkA (i := 7) (oi := ⟨_, _, _, _, _, _⟩) ?_
                  simp only [putA, List.set]
                  refine tkA (i := 8) (oi := ⟨_, _, _, _, _, _⟩) ?_
                  simp only [putA, List.set]
                  refine tkA (i := 9) (oi := ⟨_, _, _, _, _, _⟩) ?_
                  simp only [putA, List.set]
                  refine tkA (i := 10) (oi := ⟨_, _, _, _, _, _⟩) ?_
                  simp only [putA, List.set]
                  refine tkA (i := 11) (oi := ⟨_, _, _, _, _, _⟩) ?_
                  simp only [putA, List.set]
                  refine tkA (i := 12) (oi := ⟨_, _, _, _, _, _⟩) ?_
                  simp only [putA, List.set]
                  refine tkA (i := 13) (oi := ⟨_, _, _, _, _, _⟩) ?_
                  simp only [putA, List.set]
                  refine wpAnyH_ready (rs := [14]) (by kernel_rfl) (by simp) ?_
                  refine AllReadyH.cons rfl (fun K hK => ?_) AllReadyH.nil
                  go_simp
                  refine (HPH.out w8.drew HB8.out.drew).mono ?_
                  rintro e w9 ⟨G9, cap9, rfl, ho9, hb9⟩
                  have hbw : Below w8.heap.size w8 w9 := (Below.refl w8.heap.size w8).drew.trans hb9
                  have l8 := HIM8.out.kg.lt
                  have l8i := HIM8.out.ki.lt
                  have l8d := HIM8.out.kd.lt
                  refine hK.out _ _ ⟨(hbw.cell (p := ⟨w.heap.size, 0, none⟩) l8).trans t0, (hbw.cell (p := ⟨w.heap.size, 1, none⟩) l8).trans t1, (hbw.cell (p := ⟨w.heap.size, 2, none⟩) l8).trans t2, (hbw.cell (p := ⟨w2.heap.size, 0, none⟩) l8i).trans t3, (hbw.cell (p := ⟨w2.heap.size + 1, 0, none⟩) l8d).trans t4⟩ (fun hHeld => ?_)
                  clear hK K
                  have hIM9 := HIM8.out.below hbw
                  refine wpAnyH_ready (rs := [15]) (by kernel_rfl) (by simp) ?_
                  refine AllReadyH.cons rfl (fun K hK => ?_) AllReadyH.nil
                  refine step_copy_own rfl _ _ 25 25 rfl 5 Tryz.underlying25 (by kernel_rfl) G 1024 (L.N - 1024) (cap - 1024) G9 0 1024 cap9 (by rfl) (by rfl) w.heap.size 5 L.N cap (inoO g S f g.inodes) (rheadF g 0 (ibO g S g.inodes) 8 (dbO g S.c g.blocks) m) hIM9.out 1024 (by show 1024 = min 1024 (L.N - 1024); omega) (own_rdB ho9) (by omega) ?_
                  intro w10 ho10 hm10
                  have hIM10 := hIM9.put H.out hm10 ho10
                  have u3 := hIM10.ki.cell 0; have u4 := hIM10.kd.cell 0
                  have nG : ∀ {e : TypeId} {B : Nat} {xs : List Value}, Blk e w9 B xs → e ≠ 5 → ¬ B = G := fun hk he q => by
                    have := own_blk_ne hIM9.out hk (fun e => he e.symm)
                    rw [q] at this; exact this rfl
                  have l9 := hIM9.kg.lt; have l9i := hIM9.ki.lt; have l9d := hIM9.kd.lt
                  refine hK.out _ _ ⟨hIM10.kg.cell 0, hIM10.kg.cell 1, hIM10.kg.cell 2, (hm10.cell l9i (nG hIM9.ki (by decide))).trans hHeld.2.2.2.1, (hm10.cell l9d (nG hIM9.kd (by decide))).trans hHeld.2.2.2.2⟩ (fun hHeld => ?_)
                  clear hK K
                  refine wpAnyH_done (by kernel_rfl) ?_ _
                  have HIM10 := Lib.hid hIM10
                  clear hHeld hIM9 hIM10 hm10 ho10 ho9 hb9 hbw u3 u4 t0 t1 t2 t3 t4
                  go_wp2_with fail
                  go_roundw
                  case rel =>
                    have em : imgR g S f = putF (inoO g S f g.inodes) 1024 1024 (rheadF g 0 (ibO g S g.inodes) 8 (dbO g S.c g.blocks) m) := by unfold imgR; rw [← HM.out]
                    have h10 := HIM10.out
                    rw [← em] at h10
                    exact .inr ⟨rfl, _, rfl, _, _, h10⟩
                  case measure => simp [intOf]
                · have e3 := hIMq.kg.cell 0
                  simp only [List.getElem?_cons_zero] at e3
                  have lq := hIMq.kg.lt
                  have HIMq := Lib.hid hIMq
                  clear hIMq
                  go_wp2_with fail
                  go_ret
                  exact ⟨_, _, rfl, HIMq.out.out, HIMq.out.bel, HIMq.out.rs⟩
end Go.Proofs.YtbbgahffcjbloaaGreat
end
