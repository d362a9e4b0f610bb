/- Part of the road to RpCard: Heads. -/
import Derived.Deep.DeepCutAuto
import Derived.StillTailTactics
import Derived.Test.YtbeabehebenocaaGreatDoorRpo08
import Derived.Test.YtbeabehebenocaaGreatDoorRpo06
set_option linter.all false
set_option linter.unusedSimpArgs false
set_option linter.unusedVariables false
set_option linter.unusedSectionVars false
section
/- mend: the heads written (one group). -/
namespace Go.Proofs.YtbeabehebenocaaGreatDoor
open Go.RowKit

/-- the rows of bits in memory -/
structure HD (w wr : World) (g : Geo) (BI BD I D m : Nat) (fi fd : Nat → Nat) : Prop where
  i : Blk 5 wr I (bytesL fi 8)
  d : Blk 5 wr D (bytesL fd m)
  bi : Blk 25 wr BI [.slice (some ⟨I, 0, none⟩) 8 8]
  bd : Blk 25 wr BD [.slice (some ⟨D, 0, none⟩) m m]
  ne : I ≠ D
  li : w.heap.size < I
  ld : w.heap.size < D
  lbi : w.heap.size < BI
  lbd : w.heap.size < BD
  ge : Blk 24 wr w.heap.size [.int .i64 1, .int .i64 (g.ino : Nat), .int .i64 (g.da : Nat)]
  bl : Below w.heap.size w wr
theorem HD.mods {s : Nat → Prop} {w wr wr2 : World} {g : Geo} {BI BD I D m : Nat} {fi fd : Nat → Nat} (h : HD w wr g BI BD I D m fi fd) (hm : Mods s wr wr2) (hs : ∀ k, s k → k ≠ I ∧ k ≠ D ∧ k ≠ BI ∧ k ≠ BD ∧ w.heap.size < k) : HD w wr2 g BI BD I D m fi fd :=
  ⟨h.i.mods hm (fun e => (hs _ e).1 rfl), h.d.mods hm (fun e => (hs _ e).2.1 rfl), h.bi.mods hm (fun e => (hs _ e).2.2.1 rfl), h.bd.mods hm (fun e => (hs _ e).2.2.2.1 rfl), h.ne, h.li, h.ld, h.lbi, h.lbd, h.ge.mods hm (fun e => by have := (hs _ e).2.2.2.2; omega), Below.mods h.bl hm (fun i hi e => by have := (hs _ e).2.2.2.2; omega) h.bl.size⟩
theorem HD.grown {w wr wr2 : World} {g : Geo} {BI BD I D m : Nat} {fi fd : Nat → Nat} (h : HD w wr g BI BD I D m fi fd) (hg : wr.grownBy wr2 none) : HD w wr2 g BI BD I D m fi fd :=
  h.mods ((Mods.refl (fun _ => False) wr).grown hg fun k e => by cases e) fun k e => e.elim
theorem blk_ne {e e' : TypeId} {w : World} {B B' : Nat} {xs ys : List Value} (h : Blk e w B xs) (h' : Blk e' w B' ys) (hn : e ≠ e') : B ≠ B' := fun q => by
  subst q
  exact hn (tag_inj ((show w.heap[B]? = _ from h).symm.trans h'))
theorem HD.setI {w wr : World} {g : Geo} {BI BD I D m : Nat} {fi fd : Nat → Nat} (h : HD w wr g BI BD I D m fi fd) {q : Nat} (hq : q < 8) (x : Nat) {u : Value} (hu : u = .int .u8 (x : Nat)) : HD w (wr.setCell ⟨I, q, none⟩ u) g BI BD I D m (fun k => if k = q then x else fi k) fd := by
  subst hu
  have n1 := blk_ne h.i h.bi (by decide); have n2 := blk_ne h.i h.bd (by decide); have n3 := blk_ne h.i h.ge (by decide)
  have h0 := h.i.set q (.int .u8 (x : Nat))
  rw [bytesL_set _ _ _ _ hq] at h0
  exact ⟨h0, h.d.other _ _ h.ne, h.bi.other _ _ n1, h.bd.other _ _ n2, h.ne, h.li, h.ld, h.lbi, h.lbd, h.ge.other _ _ n3, h.bl.setCell (by show w.heap.size ≤ I; have := h.li; omega) _⟩
theorem HD.setD {w wr : World} {g : Geo} {BI BD I D m : Nat} {fi fd : Nat → Nat} (h : HD w wr g BI BD I D m fi fd) {q : Nat} (hq : q < m) (x : Nat) {u : Value} (hu : u = .int .u8 (x : Nat)) : HD w (wr.setCell ⟨D, q, none⟩ u) g BI BD I D m fi (fun k => if k = q then x else fd k) := by
  subst hu
  have n1 := blk_ne h.d h.bi (by decide); have n2 := blk_ne h.d h.bd (by decide); have n3 := blk_ne h.d h.ge (by decide)
  have h0 := h.d.set q (.int .u8 (x : Nat))
  rw [bytesL_set _ _ _ _ hq] at h0
  exact ⟨h.i.other _ _ (Ne.symm h.ne), h0, h.bi.other _ _ n1, h.bd.other _ _ n2, h.ne, h.li, h.ld, h.lbi, h.lbd, h.ge.other _ _ n3, h.bl.setCell (by show w.heap.size ≤ D; have := h.ld; omega) _⟩
theorem ranges_mods {k : TypeId} {R : Value → Option (DU × List MemPlace)} {b r n : Nat} {D : DU} {left : Lit → Bool} {cnt : Nat} {s : Nat → Prop} {w w' : World} (h : w.ranges Tryz.prog k R b r n D left cnt) (hm : Mods s w w') (hb : ¬ s b) (hr : ¬ s r) : w'.ranges Tryz.prog k R b r n D left cnt := by
  have h1 := h.owns.lt
  have h2 := h.lt
  obtain ⟨es, clock, since, seen, c0, hb0, F, hs, hD, hr0, rest⟩ := h
  exact ⟨es, clock, since, seen, c0, (hm.block b h1 hb).trans hb0, F, hs, hD, (hm.block r h2 hr).trans hr0, rest⟩
theorem withB_fun (f : Nat → Nat) (n : Nat) : (fun k => if k = n / 8 then setB (f (n / 8)) (n % 8) true else f k) = withB f n true := by
  funext k; unfold withB
  by_cases h : k = n / 8 <;> simp [h]
theorem HD.make1 {w wc : World} {g : Geo} {BI BD m : Nat} (hne : BI ≠ BD) (lBI : w.heap.size < BI) (lBD : w.heap.size < BD) (kI : Blk 25 wc BI [.slice none 0 0]) (kD : Blk 25 wc BD [.slice none 0 0])
    (kG : Blk 24 wc w.heap.size [.int .i64 1, .int .i64 (g.ino : Nat), .int .i64 (g.da : Nat)]) (hb : Below w.heap.size w wc) :
    HD w ((((wc.setCell ⟨BI, 0, none⟩ (.slice (some ⟨wc.heap.size, 0, none⟩) 8 8)).setCell ⟨BD, 0, none⟩ (.slice (some ⟨wc.heap.size + 1, 0, none⟩) m m)).alloc (.cells (bytesL (fun _ => 0) 8).toArray 5)).alloc (.cells (bytesL (fun _ => 0) m).toArray 5)).drew g BI BD wc.heap.size (wc.heap.size + 1) m (fun _ => 0) (fun _ => 0) := by
  have k1 := (kI.set 0 (.slice (some ⟨wc.heap.size, 0, none⟩) 8 8)).other ⟨BD, 0, none⟩ (.slice (some ⟨wc.heap.size + 1, 0, none⟩) m m) (fun e => hne e.symm)
  have k2 := (kD.other ⟨BI, 0, none⟩ (.slice (some ⟨wc.heap.size, 0, none⟩) 8 8) hne).set 0 (.slice (some ⟨wc.heap.size + 1, 0, none⟩) m m)
  have k3 := (kG.other ⟨BI, 0, none⟩ (.slice (some ⟨wc.heap.size, 0, none⟩) 8 8) (fun e => by have : BI = w.heap.size := e; omega)).other ⟨BD, 0, none⟩ (.slice (some ⟨wc.heap.size + 1, 0, none⟩) m m) (fun e => by have : BD = w.heap.size := e; omega)
  have hs := hb.size
  have b1 := (hb.setCell (p := ⟨BI, 0, none⟩) (by show w.heap.size ≤ BI; omega) (.slice (some ⟨wc.heap.size, 0, none⟩) 8 8)).setCell (p := ⟨BD, 0, none⟩) (by show w.heap.size ≤ BD; omega) (.slice (some ⟨wc.heap.size + 1, 0, none⟩) m m)
  have hl := kI.lt; have hl2 := kG.lt
  exact ⟨((Blk.newAt _ (by simp [World.setCell])).alloc _).drew, (Blk.newAt _ (by simp [World.setCell])).drew, ((k1.alloc _).alloc _).drew, ((k2.alloc _).alloc _).drew, by omega, by omega, by omega, lBI, lBD, ((k3.alloc _).alloc _).drew, ((b1.alloc (by simp [World.setCell]; omega) _).alloc (by simp [World.setCell]; omega) _).drew⟩
theorem HD.make2 {w wc : World} {g : Geo} {BI BD m : Nat} (hne : BI ≠ BD) (lBI : w.heap.size < BI) (lBD : w.heap.size < BD) (kI : Blk 25 wc BI [.slice none 0 0]) (kD : Blk 25 wc BD [.slice none 0 0])
    (kG : Blk 24 wc w.heap.size [.int .i64 1, .int .i64 (g.ino : Nat), .int .i64 (g.da : Nat)]) (hb : Below w.heap.size w wc) :
    HD w ((((wc.setCell ⟨BI, 0, none⟩ (.slice (some ⟨wc.heap.size + 1, 0, none⟩) 8 8)).setCell ⟨BD, 0, none⟩ (.slice (some ⟨wc.heap.size, 0, none⟩) m m)).alloc (.cells (bytesL (fun _ => 0) m).toArray 5)).alloc (.cells (bytesL (fun _ => 0) 8).toArray 5)).drew g BI BD (wc.heap.size + 1) wc.heap.size m (fun _ => 0) (fun _ => 0) := by
  have k1 := (kI.set 0 (.slice (some ⟨wc.heap.size + 1, 0, none⟩) 8 8)).other ⟨BD, 0, none⟩ (.slice (some ⟨wc.heap.size, 0, none⟩) m m) (fun e => hne e.symm)
  have k2 := (kD.other ⟨BI, 0, none⟩ (.slice (some ⟨wc.heap.size + 1, 0, none⟩) 8 8) hne).set 0 (.slice (some ⟨wc.heap.size, 0, none⟩) m m)
  have k3 := (kG.other ⟨BI, 0, none⟩ (.slice (some ⟨wc.heap.size + 1, 0, none⟩) 8 8) (fun e => by have : BI = w.heap.size := e; omega)).other ⟨BD, 0, none⟩ (.slice (some ⟨wc.heap.size, 0, none⟩) m m) (fun e => by have : BD = w.heap.size := e; omega)
  have hs := hb.size
  have b1 := (hb.setCell (p := ⟨BI, 0, none⟩) (by show w.heap.size ≤ BI; omega) (.slice (some ⟨wc.heap.size + 1, 0, none⟩) 8 8)).setCell (p := ⟨BD, 0, none⟩) (by show w.heap.size ≤ BD; omega) (.slice (some ⟨wc.heap.size, 0, none⟩) m m)
  have hl := kI.lt; have hl2 := kG.lt
  exact ⟨(Blk.newAt _ (by simp [World.setCell])).drew, ((Blk.newAt _ (by simp [World.setCell])).alloc _).drew, ((k1.alloc _).alloc _).drew, ((k2.alloc _).alloc _).drew, by omega, by omega, by omega, lBI, lBD, ((k3.alloc _).alloc _).drew, ((b1.alloc (by simp [World.setCell]; omega) _).alloc (by simp [World.setCell]; omega) _).drew⟩
theorem info22 : (Tryz.prog.info? 25).map (fun i => (i.zero, i.size, i.bytes)) = some (some (.slice none 0 0), 1, 24) := by kernel_rfl

set_option maxRecDepth 100000 in
set_option maxHeartbeats 4000000 in
theorem heads_c (g : Geo) (hg1 : g.gr = 1) (b o N cap : Nat) (f : Nat → Nat) (X CB IB M G capo : Nat) (way : Value) (c : Nat → Bool) (adr : Nat → Option Nat) (tk : Nat → Tk) (fo : Nat → Nat) (w : World)
    (h : MAt w g b o N cap f X CB IB M (.slice (some ⟨G, 0, none⟩) N capo) way c adr tk) (hN : N = g.total * 1024) (hcapo : capo ≤ 9223372036854775807)
    (ho : w.ownsRow (b + 1) 5 1 (.slice (some ⟨G, 0, none⟩) N capo) N (bytesL fo N)) (hin : ∀ x B, adr x = some B → g.iOk x = true) (hcl : ∀ p, c p = true → g.dOk p = true) :
    Calls Tryz.prog 32 #[.pointer (some ⟨X, 0, none⟩)] w fun e w' => e = .returned (.tuple #[]) ∧ ∃ fi fd : Nat → Nat, (∀ j, fi j < 256) ∧ (∀ j, fd j < 256) ∧ (∀ i, i < 16 * g.ino → getBit fi 8 i = (adr (i + 1)).isSome) ∧ (∀ n, n < g.da → getBit fd ((g.da + 7) / 8) n = c (g.data n)) ∧
      w'.ownsRow (b + 1) 5 1 (.slice (some ⟨G, 0, none⟩) N capo) N (bytesL (putF fo 1024 1024 (headF g 0 fi fd)) N) ∧ Mods (fun k => k = G) w w' := by
  have hg := h.img.ok
  have lX := h.men.lt
  have hd1 := hg.d1; have hd2 := hg.d2
  obtain ⟨m, hm⟩ : ∃ m, m = (g.da + 7) / 8 := ⟨_, rfl⟩
  rw [← hm]
  have hm1 : 1 ≤ m := by omega
  have hm2 : m ≤ 125 := by omega
  have x0 := h.men.cell 0; have x1 := h.men.cell 1; have x2 := h.men.cell 2; have x4 := h.men.cell 4; have x5 := h.men.cell 5; have x6 := h.men.cell 6
  simp only [List.getElem?_cons_zero, List.getElem?_cons_succ] at x0 x1 x2 x4 x5 x6
  obtain ⟨j0, hj0, hy0, hy1, hy2⟩ := info_parts info22
  have hmk : ∀ w : World, (Instr.makeSlice 102 (.int .i64 1) (.int .i64 1)).run Tryz.prog w = .ok (.slice (some ⟨w.heap.size, 0, none⟩) 1 1) (w.alloc (.cells #[.slice none 0 0] 25)) := fun w => by
    rw [run_make (P := Tryz.prog) w 102 25 j0 (.slice none 0 0) Tryz.underlying102 hj0 hy0 .i64 .i64 1 1 (by omega) (by omega) (by rw [hy2]; omega) (by omega), hy1, show madeCells (Value.slice none 0 0).cells (Int.toNat 1 * 1) = #[.slice none 0 0] by kernel_rfl]; rfl
  have HA := Lib.hid h; have HO := Lib.hid ho; have HN := Lib.hid hN; have HM := Lib.hid hm; have HI := Lib.hid hin; have HC := Lib.hid hcl; have HG1 := Lib.hid hg1
  rw [hg1] at x0
  clear h ho hN hm hin hcl hg1
  go_enter Tryz.func32, Tryz.ntmps32
  go_upto_region 1 with (fail)
  have gk := Blk.newL (e := 24) (w := w) [.int .i64 1, .int .i64 g.ino, .int .i64 g.da]
  have gk0 := gk.cell 0
  simp only [List.getElem?_cons_zero] at gk0
  have gkl : w.heap.size < (w.alloc (.cells #[.int .i64 1, .int .i64 g.ino, .int .i64 g.da] 24)).heap.size := by simp
  have al : ∀ (W : World) (ob : Obj) (k q : Nat), k < W.heap.size → (W.alloc ob).cell? ⟨k, q, none⟩ = W.cell? ⟨k, q, none⟩ := fun W ob k q hk => World.cell?_of_block (w := W) (Below.heap_alloc _ _ _ hk)
  have AL := Lib.hid al
  have GK := Lib.hid gk
  clear al gk
  go_cut [3, 4] (fun s3 s4 wx => ∃ BI BD : Nat, s3 = .slice (some ⟨BI, 0, none⟩) 1 1 ∧ s4 = .slice (some ⟨BD, 0, none⟩) 1 1 ∧ BI ≠ BD ∧ w.heap.size < BI ∧ w.heap.size < BD ∧ Blk 25 wx BI [.slice none 0 0] ∧ Blk 25 wx BD [.slice none 0 0] ∧ Blk 24 wx w.heap.size [.int .i64 1, .int .i64 g.ino, .int .i64 g.da] ∧ Below w.heap.size w wx)
  case first =>
    go_region_held3 (fun w' => w'.cell? ⟨w.heap.size, 0, none⟩ = some (.int .i64 1)) (first | assumption | exact gk0 | exact (AL.out _ _ _ _ gkl).trans gk0 | exact (AL.out _ _ _ _ (by simp; omega)).trans ((AL.out _ _ _ _ gkl).trans gk0)) (fail)
    all_goals (go_wp2_with fail; go_meet)
    all_goals
      have gB := ((GK.out.alloc (.cells #[.slice none 0 0] 25)).alloc (.cells #[.slice none 0 0] 25)).drew
      have bl : Below w.heap.size w (((w.alloc (.cells #[.int .i64 1, .int .i64 g.ino, .int .i64 g.da] 24)).alloc (.cells #[.slice none 0 0] 25)).alloc (.cells #[.slice none 0 0] 25)).drew := ((((Below.refl _ w).alloc (Nat.le_refl _) _).alloc (by simp) _).alloc (by simp; omega) _).drew
      have b1 : Blk 25 (((w.alloc (.cells #[.int .i64 1, .int .i64 g.ino, .int .i64 g.da] 24)).alloc (.cells #[.slice none 0 0] 25)).alloc (.cells #[.slice none 0 0] 25)).drew (w.heap.size + 1) [.slice none 0 0] := ((Blk.newAt _ (by simp)).alloc _).drew
      have b2 : Blk 25 (((w.alloc (.cells #[.int .i64 1, .int .i64 g.ino, .int .i64 g.da] 24)).alloc (.cells #[.slice none 0 0] 25)).alloc (.cells #[.slice none 0 0] 25)).drew (w.heap.size + 1 + 1) [.slice none 0 0] := (Blk.newAt _ (by simp)).drew
      first
        | exact ⟨_, _, rfl, rfl, by omega, by omega, by omega, b1, b2, gB, bl⟩
        | exact ⟨_, _, rfl, rfl, by omega, by omega, by omega, b2, b1, gB, bl⟩
  case rest =>
    obtain ⟨BI, BD, rfl, rfl, hne, lBI, lBD, kI, kD, kG, hbl⟩ := hcut
    obtain ⟨pd, hpd⟩ : ∃ pd, pd = g.da + 7 := ⟨_, rfl⟩
    have e1 : IntKind.i64.wrap ((g.da : Int) + 7) = (pd : Int) := by rw [wrap_in _ (by omega) (by omega)]; omega
    have e2 : IntKind.i64.wrap ((pd : Int) / 8) = (m : Int) := by
      have h0 := wrap_ediv pd 8 (by omega)
      rw [show ((8 : Nat) : Int) = 8 from rfl] at h0
      rw [h0, HM.out, hpd]
    have HPD := Lib.hid hpd
    clear hpd
    obtain ⟨ji, hji, hi0, hi1, hi2⟩ := info_parts info8
    have hm8 : ∀ w : World, (Instr.makeSlice 25 (.int .i64 8) (.int .i64 8)).run Tryz.prog w = .ok (.slice (some ⟨w.heap.size, 0, none⟩) 8 8) (w.alloc (.cells (madeCells (Value.int .u8 0).cells 8) 5)) := fun w => by
      rw [run_make (P := Tryz.prog) w 25 5 ji (.int .u8 0) Tryz.underlying25 hji hi0 .i64 .i64 8 8 (by omega) (by omega) (by rw [hi2]; omega) (by omega), hi1]; rfl
    have hmm : ∀ w : World, (Instr.makeSlice 25 (.int .i64 (m : Nat)) (.int .i64 (m : Nat))).run Tryz.prog w = .ok (.slice (some ⟨w.heap.size, 0, none⟩) m m) (w.alloc (.cells (madeCells (Value.int .u8 0).cells m) 5)) := fun w => by
      rw [run_make (P := Tryz.prog) w 25 5 ji (.int .u8 0) Tryz.underlying25 hji hi0 .i64 .i64 m m (by omega) (by omega) (by rw [hi2]; omega) (by omega), hi1]; simp
    have z8 : ∀ n, (madeCells (Value.int .u8 0).cells n) = (bytesL (fun _ => 0) n).toArray := fun n => by
      have h0 := madeCells_one (.int .u8 0) rfl n
      rw [Nat.mul_one, zeros_bytes] at h0
      rw [← h0]
    simp only [z8] at hm8 hmm
    have g2 := kG.cell 2; have g0 := kG.cell 0
    have ci := kI.cell 0; have fi := kI.frozen 0; have cd := kD.cell 0; have fd := kD.frozen 0
    simp only [List.getElem?_cons_zero, List.getElem?_cons_succ] at g2 g0 ci cd
    have llI := kI.lt; have llD := kD.lt; have llG := kG.lt
    have hne2 := Ne.symm hne
    have sc : ∀ (W : World) (k q p : Nat) (v : Value), p ≠ k → (W.setCell ⟨p, 0, none⟩ v).cell? ⟨k, q, none⟩ = W.cell? ⟨k, q, none⟩ := fun W k q p v hp => World.cell?_of_block (w := W) (Below.heap_setCell W ⟨p, 0, none⟩ v k (Ne.symm hp))
    have SC := Lib.hid sc
    clear hmk z8 sc
    go_wp2
    go_loopw [31] (fun i' wr => (i' = .int .i64 0 ∧ wr = wc) ∨ (i' = .int .i64 1 ∧ ∃ I D, HD w wr g BI BD I D m (fun _ => 0) (fun _ => 0))) (fun i' _ => 1 - (intOf i').toNat)
    case atStart => exact .inl ⟨rfl, rfl⟩
    case round =>
      rcases hrel with ⟨rfl, hw⟩ | ⟨rfl, I, D, hD⟩
      · obtain rfl := hw.symm
        go_wp2
        go_region_held3 (fun w' => w'.cell? ⟨w.heap.size, 2, none⟩ = some (.int .i64 (g.da : Nat))) (first | assumption | (repeat (first | exact g2 | refine (SC.out _ _ _ _ _ (by omega)).trans ?_ | refine (AL.out _ _ _ _ (by (try simp [World.setCell]); omega)).trans ?_))) (fail)
        all_goals go_wp2
        · go_roundw
          case rel => exact .inr ⟨rfl, _, _, HD.make1 hne lBI lBD kI kD kG hbl⟩
          case measure => simp [intOf]
        · go_roundw
          case rel => exact .inr ⟨rfl, _, _, HD.make1 hne lBI lBD kI kD kG hbl⟩
          case measure => simp [intOf]
        · go_roundw
          case rel => exact .inr ⟨rfl, _, _, HD.make2 hne lBI lBD kI kD kG hbl⟩
          case measure => simp [intOf]
      · have hAr := HA.out.below hD.bl
        have y0 := hAr.men.cell 0; have y1 := hAr.men.cell 1; have y2 := hAr.men.cell 2; have y4 := hAr.men.cell 4; have y5 := hAr.men.cell 5; have y6 := hAr.men.cell 6
        simp only [List.getElem?_cons_zero, List.getElem?_cons_succ] at y0 y1 y2 y4 y5 y6
        obtain ⟨DI, owI, hI2, hI3⟩ := hAr.im
        have hhas : ∀ x, natOk x → Maps.has DI (natK x) = (adr x).isSome := fun x hx => by rw [(hI2 x hx).1]; show (ptrD (adr x)).isSome = _; cases adr x <;> rfl
        have hst : ∀ i, i < 16 * g.ino → getBit (fun _ => 0) 8 i = ((adr (i + 1)).isSome && !Maps.has DI (natK (i + 1))) := fun i hi => by
          rw [hhas _ (by unfold natOk; have := hg.i2; omega), getBit_zero]; cases (adr (i + 1)).isSome <;> rfl
        have HD0 := Lib.hid hD; have HI2 := Lib.hid hhas; have HI3 := Lib.hid hI3; have HST := Lib.hid hst
        have hsz := hD.bl.size
        have lXr := hAr.men.lt
        clear hD hAr hI2 hI3 hm8 hmm e1 e2 kI kD kG hbl ci fi cd fd g2 g0 hhas hst
        go_wp2_with (first | (at_range; refine wpList_range_own _ rfl _ 66 rfl 3 70 intKeyed Tryz.underlying66 ptrElem IB M DI rfl owI ?_; intro w0 hrg0 hg0 hs0) | go_in)
        have hD0 : HD w w0 g BI BD I D m (fun _ => 0) (fun _ => 0) := HD0.out.grown hg0
        have HRG := Lib.hid hrg0; have HDW := Lib.hid hD0
        clear hrg0 hg0 hs0 hD0 owI
        obtain ⟨wo, hwo⟩ : ∃ wo : World, wo = wr := ⟨_, rfl⟩
        subst hwo
        obtain ⟨r, hr⟩ : ∃ r, r = wo.heap.size := ⟨_, rfl⟩
        rw [← hr] at HRG ⊢
        have HR := Lib.hid hr
        clear hr
        go_loopw [52] (fun _ wr2 => ∃ (left : Lit → Bool) (cnt : Nat) (fi : Nat → Nat), wr2.ranges Tryz.prog 3 ptrElem IB r M DI left cnt ∧ HD w wr2 g BI BD I D m fi (fun _ => 0) ∧ (∀ j, fi j < 256) ∧ (∀ kl, left kl = true → Maps.has DI kl = true) ∧ (∀ i, i < 16 * g.ino → getBit fi 8 i = ((adr (i + 1)).isSome && !left (natK (i + 1)))))
          (fun _ wr2 => wr2.rangeLeft IB r)
        case atStart => exact ⟨_, _, _, HRG.out, HDW.out, fun _ => by decide, fun _ h => h, HST.out⟩
        case round =>
          obtain ⟨left, cnt, fi, hrg, hD, hfi, hle, hbits⟩ := hrel
          have HL := Lib.hid hle; have HB := Lib.hid hbits; have HRG2 := Lib.hid hrg; have HDD := Lib.hid hD
          clear hle hbits hrg hD
          go_wp2_with (first
            | (at_next; refine mapg_next rfl _ rfl ptrElem IB r M DI left cnt rfl HRG2.out HI3.out HL.out ?_ ?_)
            | go_in)
          · intro hl0
            have hfin : ∀ i, i < 16 * g.ino → getBit fi 8 i = (adr (i + 1)).isSome := fun i hi => by rw [HB.out i hi, hl0]; simp
            have HFIN := Lib.hid hfin; have HFI := Lib.hid hfi
            have hAr := HA.out.below HDD.out.bl
            have y0 := hAr.men.cell 0; have y1 := hAr.men.cell 1; have y2 := hAr.men.cell 2; have y4 := hAr.men.cell 4; have y5 := hAr.men.cell 5
            simp only [List.getElem?_cons_zero, List.getElem?_cons_succ] at y0 y1 y2 y4 y5
            obtain ⟨DC, owC, hC2, hC3⟩ := hAr.cl
            have hhas : ∀ x, natOk x → Maps.has DC (natK x) = c x := fun x hx => by rw [(hC2 x hx).1]; show (boolD (c x)).isSome = _; cases c x <;> rfl
            have hst : ∀ n, n < g.da → getBit (fun _ => 0) m n = (c (g.data n) && !Maps.has DC (natK (g.data n))) := fun n hn => by
              rw [Geo.one_data hn, hhas _ (by unfold natOk; have := hg.i2; omega), getBit_zero]; cases c (2 + g.ino + n) <;> rfl
            have HC2 := Lib.hid hhas; have HC3 := Lib.hid hC3; have HST2 := Lib.hid hst
            have lXr := hAr.men.lt
            clear hl0 hfin hfi hAr hC2 hC3 hhas hst HL HB HRG2 HRG HI2 HI3 HST
            go_wp2_with (first | (at_range; refine wpList_range_own _ rfl _ 65 rfl 3 4 intKeyed Tryz.underlying65 (plainElem Tryz.prog 4) CB M DC rfl owC ?_; intro w4 hrg4 hg4 hs4) | go_in)
            go_frame
            have hD4 : HD w w4 g BI BD I D m fi (fun _ => 0) := HDD.out.grown hg4
            have HRG4 := Lib.hid hrg4; have HDW4 := Lib.hid hD4
            clear hrg4 hg4 hs4 hD4 owC
            obtain ⟨wp, hwp⟩ : ∃ wp : World, wp = wr := ⟨_, rfl⟩
            subst hwp
            obtain ⟨r4, hr4⟩ : ∃ r4, r4 = wp.heap.size := ⟨_, rfl⟩
            rw [← hr4] at HRG4 ⊢
            have HR4 := Lib.hid hr4
            clear hr4
            go_loopw [81] (fun _ wr2 => ∃ (left : Lit → Bool) (cnt : Nat) (fd : Nat → Nat), wr2.ranges Tryz.prog 3 (plainElem Tryz.prog 4) CB r4 M DC left cnt ∧ HD w wr2 g BI BD I D m fi fd ∧ (∀ j, fd j < 256) ∧ (∀ kl, left kl = true → Maps.has DC kl = true) ∧ (∀ n, n < g.da → getBit fd m n = (c (g.data n) && !left (natK (g.data n)))))
              (fun _ wr2 => wr2.rangeLeft CB r4)
            case atStart => exact ⟨_, _, _, HRG4.out, HDW4.out, fun _ => by decide, fun _ h => h, HST2.out⟩
            case round =>
              obtain ⟨left2, cnt2, fd, hrg, hD, hfd, hle, hbits⟩ := hrel
              have HL := Lib.hid hle; have HB := Lib.hid hbits; have HRG2 := Lib.hid hrg; have HDE := Lib.hid hD
              clear hle hbits hrg hD
              go_wp2_with (first
                | (at_next; refine mapg_next rfl _ rfl (plainElem Tryz.prog 4) CB r4 M DC left2 cnt2 rfl HRG2.out HC3.out HL.out ?_ ?_)
                | go_in)
              · intro hl0
                have hfin2 : ∀ n, n < g.da → getBit fd m n = c (g.data n) := fun n hn => by rw [HB.out n hn, hl0]; simp
                have HFIN2 := Lib.hid hfin2; have HFD := Lib.hid hfd
                have hAr := HA.out.below HDE.out.bl
                have y0 := hAr.men.cell 0; have y1 := hAr.men.cell 1; have y2 := hAr.men.cell 2; have y4 := hAr.men.cell 4
                have b0 := HDE.out.bi.cell 0; have d0 := HDE.out.bd.cell 0
                have k0 := HDE.out.ge.cell 0; have k1 := HDE.out.ge.cell 1; have k2 := HDE.out.ge.cell 2
                simp only [List.getElem?_cons_zero, List.getElem?_cons_succ] at y0 y1 y2 y4 b0 d0 k0 k1 k2
                have lXr := hAr.men.lt
                have l1BI := HDE.out.bi.lt; have l1BD := HDE.out.bd.lt; have l1G := HDE.out.ge.lt
                have HCC : ∀ W : World, Calls Tryz.prog 62 #[.agg #[.int .i64 1, .int .i64 (g.ino : Nat), .int .i64 (g.da : Nat)], .int .i64 0] W fun e w' => e = .returned (.tuple #[.int .i64 1, .bool true]) ∧ Below W.heap.size W w' := fun W => by
                  have h0 := head_c g hg 0 (by rw [HG1.out]; decide) W
                  rw [HG1.out] at h0
                  have e0 : g.head 0 = 1 := by unfold Geo.head; omega
                  rw [e0] at h0
                  exact h0
                have PHC : ∀ W : World, RdB W I 0 8 fi → RdB W D 0 m fd → Calls Tryz.prog 63 #[.agg #[.int .i64 1, .int .i64 (g.ino : Nat), .int .i64 (g.da : Nat)], .int .i64 0, .slice (some ⟨I, 0, none⟩) 8 8, .slice (some ⟨D, 0, none⟩) m m] W fun e w' => ∃ B, e = .returned (.tuple #[.slice (some ⟨B, 0, none⟩) 1024 1024, .int .i64 0]) ∧ W.heap.size ≤ B ∧ Blk 5 w' B (bytesL (headF g 0 fi fd) 1024) ∧ Below W.heap.size W w' := fun W h1 h2 => by
                  have h0 := phead_c g hg 0 (by rw [HG1.out]; decide) I 8 D m fi fd HFI.out hfd W h1 (by rw [← HM.out]; exact h2)
                  rw [HG1.out, ← HM.out] at h0
                  exact h0
                obtain ⟨wq, hwq⟩ : ∃ wq : World, wq = wr := ⟨_, rfl⟩
                subst hwq
                have hoq : wq.ownsRow (b + 1) 5 1 (.slice (some ⟨G, 0, none⟩) N capo) N (bytesL fo N) := own_below HO.out HDE.out.bl
                have HOQ := Lib.hid hoq; have HHC := Lib.hid HCC; have HPH := Lib.hid PHC
                obtain ⟨FIN, hFIN⟩ : ∃ FIN : World → Prop, FIN = fun wr => wr.ownsRow (b + 1) 5 1 (.slice (some ⟨G, 0, none⟩) N capo) N (bytesL (putF fo 1024 1024 (headF g 0 fi fd)) N) ∧ Mods (fun k => k = G) w wr := ⟨_, rfl⟩
                have HFN := Lib.hid hFIN
                clear hl0 hfin2 hfd hAr HL HB HRG2 hoq HCC PHC hFIN
                go_wp2
                go_loopw [115] (fun i' wr => (i' = .int .i64 0 ∧ wr = wq) ∨ (i' = .int .i64 1 ∧ FIN wr)) (fun i' _ => 1 - (intOf i').toNat)
                case atStart => exact .inl ⟨rfl, rfl⟩
                case round =>
                  rcases hrel with ⟨rfl, hw⟩ | ⟨rfl, hfn⟩
                  rotate_left
                  · go_wp2
                    go_end0
                    rw [HFN.out] at hfn
                    refine ⟨rfl, fi, fd, HFI.out, HFD.out, HFIN.out, HFIN2.out, hfn.1, hfn.2⟩
                  obtain rfl := hw.symm
                  go_wp2_with (first
                    | (go_at_call 62; refine (HHC.out _).mono ?_; rintro e w5 ⟨rfl, hb5⟩; obtain ⟨hc5, hf5⟩ := bcell hb5; have hz5 := hb5.size))
                  have lI9 := HDE.out.i.lt; have lD9 := HDE.out.d.lt; have li9 := HDE.out.li; have ld9 := HDE.out.ld
                  have hD5 := HDE.out.mods (Mods.of_below hb5) fun k e => ⟨by omega, by omega, by omega, by omega, by omega⟩
                  have s0 := (hc5 _ 0 l1G).trans k0; have s1 := (hc5 _ 1 l1G).trans k1; have s2 := (hc5 _ 2 l1G).trans k2; have s3 := (hc5 _ 0 l1BI).trans b0; have s4 := (hc5 _ 0 l1BD).trans d0
                  have rI : RdB w5.drew I 0 8 fi := (BlkB_rd hD5.i).below (Below.refl _ _).drew
                  have rD : RdB w5.drew D 0 m fd := (BlkB_rd hD5.d).below (Below.refl _ _).drew
                  have z4 := (hc5 _ 4 lXr).trans y4
                  have HS5 := Lib.hid hD5
                  have l5G : w.heap.size < w5.heap.size := by omega
                  have l5I : BI < w5.heap.size := by omega
                  have l5D : BD < w5.heap.size := by omega
                  have l5X : X < w5.heap.size := by omega
                  clear hD5
                  go_region_held3 (fun w' => w'.cell? ⟨w.heap.size, 0, none⟩ = some (.int .i64 1) ∧ w'.cell? ⟨w.heap.size, 1, none⟩ = some (.int .i64 (g.ino : Nat)) ∧ w'.cell? ⟨w.heap.size, 2, none⟩ = some (.int .i64 (g.da : Nat)) ∧ w'.cell? ⟨BI, 0, none⟩ = some (.slice (some ⟨I, 0, none⟩) 8 8) ∧ w'.cell? ⟨BD, 0, none⟩ = some (.slice (some ⟨D, 0, none⟩) m m))
                    (first
                      | exact ⟨s0, s1, s2, s3, s4⟩
                      | exact ⟨(hb6.cell (p := ⟨_, _, none⟩) l5G).trans s0, (hb6.cell (p := ⟨_, _, none⟩) l5G).trans s1, (hb6.cell (p := ⟨_, _, none⟩) l5G).trans s2, (hb6.cell (p := ⟨_, _, none⟩) l5I).trans s3, (hb6.cell (p := ⟨_, _, none⟩) l5D).trans s4⟩)
                    ((go_at_call 63; refine (HPH.out _ rI rD).mono ?_; rintro e w6 ⟨B6, rfl, hB6, hk6, hb6⟩))
                  rename_i hSS
                  have z6 : w6.cell? ⟨X, 4, none⟩ = some (.slice (some ⟨G, 0, none⟩) N capo) := (hb6.cell (p := ⟨X, 4, none⟩) l5X).trans z4
                  have hB56 : Below w.heap.size w5 w6 := (Below.refl _ w5).drew.trans (hb6.mono (by show w.heap.size ≤ w5.heap.size; omega))
                  have hB6w : Below w.heap.size w w6 := (HDE.out.bl.trans (hb5.mono (by omega))).trans hB56
                  have ho6 := own_below HO.out hB6w
                  have hNt := HN.out
                  have hNb : N ≤ 9000000 ∧ 2048 ≤ N := by have := hg.total_le; have := hg.total_pos; omega
                  have XP := xput_c X B6 0 1024 G (b + 1) N capo 1 fo (headF g 0 fi fd) w6 z6 ho6 (by omega) hcapo (by omega) (BlkB_rd hk6)
                  have HXP := Lib.hid XP; have H6 := Lib.hid hB6w
                  clear XP hB6w hB56 ho6 hNt hNb hSS s0 s1 s2 s3 s4 z4 z6 rI rD k0 k1 k2 b0 d0 hk6 hb6
                  go_wp2_with (go_at_call 57; refine HXP.out.mono ?_; rintro e w7 ⟨rfl, ho7, hm7⟩)
                  refine ⟨.inr ⟨rfl, ?_⟩, by simp [intOf]⟩
                  rw [HFN.out]
                  exact ⟨ho7, ((Mods.refl (fun k => k = G) w).trans_below H6.out (Nat.le_refl _)).trans hm7 (fun _ _ e => e)⟩
              · intro x v w1 cnt1 hx hhx hlx hrg1 hlt1 hg1 hs1 hen
                rw [HC2.out x hx] at hhx
                have hio := HC.out x hhx
                obtain ⟨n1, n2, n3⟩ := Geo.one_dNo HG1.out hio
                obtain ⟨n, hxn⟩ : ∃ n, x = 2 + g.ino + n := ⟨x - 2 - g.ino, by omega⟩
                have n1' : g.dNo x = n := by rw [n1]; omega
                have GC : ∀ W : World, Calls Tryz.prog 61 #[.agg #[.int .i64 1, .int .i64 (g.ino : Nat), .int .i64 (g.da : Nat)], .int .i64 (x : Nat)] W fun e w' => e = .returned (.tuple #[.int .i64 (n : Nat), .bool true]) ∧ Below W.heap.size W w' := fun W => by
                  have h0 := dataOf_c g hg x W
                  rw [hio, n1', HG1.out] at h0
                  exact h0
                have hnd : n < g.da := by omega
                have hmda : g.da ≤ 8 * m := by rw [HM.out]; omega
                have hn8 : n / 8 < m := by omega
                have q0 : (0 : Int) ≤ (n : Int) := by omega
                have q1 : ((n : Nat) : Int) < (g.da : Int) := by omega
                have q2 : IntKind.i64.wrap (Int.tdiv (n : Int) (g.da : Int)) = 0 := by rw [wrap_tdiv n g.da (by omega), Nat.div_eq_of_lt hnd]; rfl
                have q3 : IntKind.i64.wrap ((n : Int) / (g.da : Int)) = 0 := by rw [wrap_ediv n g.da (by omega), Nat.div_eq_of_lt hnd]; rfl
                have q4 : Int.tmod (n : Int) (g.da : Int) = (n : Int) := by rw [← Int.ofNat_tmod, Nat.mod_eq_of_lt hnd]
                have q5 : (n : Int) % (g.da : Int) = (n : Int) := Int.emod_eq_of_lt (by omega) (by omega)
                have q6 : (n : Int) / (g.da : Int) = 0 := Int.ediv_eq_zero_of_lt (by omega) (by omega)
                have lI := HDD.out.i.lt; have lD := HDD.out.d.lt; have lBI2 := HDD.out.bi.lt; have lBD2 := HDD.out.bd.lt; have lG2 := HDD.out.ge.lt
                have hr0 := HR4.out
                have hmr : Mods (fun k => k = r4) wr w1 := (Mods.refl (fun k => k = r4) wr).grown hg1 fun k e _ => (Option.some.inj e).symm
                have hD1 := HDE.out.mods hmr fun k e => ⟨by omega, by omega, by omega, by omega, by omega⟩
                have k0 := hD1.ge.cell 0; have k1 := hD1.ge.cell 1; have k2 := hD1.ge.cell 2
                have b0 := hD1.bd.cell 0; have i1 := hD1.d.cell (n / 8); have i2 := hD1.d.frozen (n / 8)
                rw [bytesL_get _ _ _ hn8] at i1
                simp only [List.getElem?_cons_zero, List.getElem?_cons_succ] at k0 k1 k2 b0
                have l1I := hD1.d.lt; have l1BI := hD1.bd.lt; have l1G := hD1.ge.lt
                have hf8 := hfd (n / 8)
                have HGC := Lib.hid GC; have HXN := Lib.hid hxn; have HE := Lib.hid hhx; have HD1 := Lib.hid hD1; have HR1 := Lib.hid hrg1; have HLX := Lib.hid hlx; have HS1 := Lib.hid hs1; have HLT1 := Lib.hid hlt1; have HFD := Lib.hid hfd; have HMD := Lib.hid hmda
                clear hs1 hlt1 GC hxn hD1 hrg1 hlx hhx hio n1 n1' n2 n3 hr0 hmr hg1 hfd hmda
                go_wp2_with (first
                  | (go_at_call 61; refine (HGC.out _).mono ?_; rintro e w2 ⟨rfl, hb2⟩; obtain ⟨hc, hf⟩ := bcell hb2; have hz2 := hb2.size)
                  | go_in)
                go_region
                refine ⟨?_, ?measure⟩
                iterate 35 apply Exists.intro
                refine ⟨?rel, rfl⟩
                case rel =>
                  have lCB := HA.out.cl.lt; have hr0 := HR4.out; have hli := HDD.out.ld; have lI := HDD.out.d.lt
                  have hm2 := (Mods.of_below hb2).mono (t := fun k => k = D ∨ w1.heap.size ≤ k) (fun _ _ e => .inr e)
                  have hmF := (hm2.setCell ⟨D, n / 8, none⟩ (fun _ => .inl rfl) (Value.int IntKind.u8 (bits BinOp.or IntKind.u8 (↑(fd (n / 8))) (2 ^ (n % 8) % 256)))).drew
                  have hD2 := (HD1.out.mods (Mods.of_below hb2) fun k e => ⟨by have := HD1.out.i.lt; omega, by omega, by have := HD1.out.bi.lt; omega, by omega, by omega⟩).setD hn8 (setB (fd (n / 8)) (n % 8) true) (u := Value.int IntKind.u8 (bits BinOp.or IntKind.u8 (↑(fd (n / 8))) (2 ^ (n % 8) % 256))) (by rw [or_byte _ _ hf8])
                  rw [withB_fun] at hD2
                  have hzz := HR1.out.lt
                  refine ⟨_, cnt1, withB fd n true, ranges_mods HR1.out hmF (by omega) (by omega), hD2.mods (Mods.refl (fun _ => False) _).drew (fun k e => e.elim), withB_lt HFD.out n true, fun kl hkl => HL.out kl (by simp only [Bool.and_eq_true] at hkl; exact hkl.1), fun i hi => ?_⟩
                  rw [left_step hx (g := c) HE.out, getBit_with HFD.out hn8, HB.out i hi, HXN.out]
                  congr 1
                  rw [Geo.one_data hi, Bool.eq_iff_iff, decide_eq_true_iff, decide_eq_true_iff]; omega
                case measure =>
                  have lCB := HA.out.cl.lt; have hr0 := HR4.out; have hli := HDD.out.ld; have lI := HDD.out.d.lt
                  have hm2 := (Mods.of_below hb2).mono (t := fun k => k = D ∨ w1.heap.size ≤ k) (fun _ _ e => .inr e)
                  have hmF := (hm2.setCell ⟨D, n / 8, none⟩ (fun _ => .inl rfl) (Value.int IntKind.u8 (bits BinOp.or IntKind.u8 (↑(fd (n / 8))) (2 ^ (n % 8) % 256)))).drew
                  have hzz := HR1.out.lt
                  have h9 := ranges_mods HR1.out hmF (by omega) (by omega)
                  rw [h9.left_eq, HRG2.out.left_eq]
                  exact HLT1.out
          · intro x v w1 cnt1 hx hhx hlx hrg1 hlt1 hg1 hs1 hen
            rw [HI2.out x hx] at hhx
            obtain ⟨B, he⟩ := Option.isSome_iff_exists.1 hhx
            have hio := HI.out x B he
            obtain ⟨n1, n2, n3⟩ := Geo.one_iNo HG1.out hio
            obtain ⟨n, hxn⟩ : ∃ n, x = n + 1 := ⟨x - 1, by omega⟩
            have n1' : g.iNo x = n := by rw [n1]; omega
            have GC : ∀ W : World, Calls Tryz.prog 60 #[.agg #[.int .i64 1, .int .i64 (g.ino : Nat), .int .i64 (g.da : Nat)], .int .i64 (x : Nat)] W fun e w' => e = .returned (.tuple #[.int .i64 0, .int .i64 (n : Nat), .bool true]) ∧ Below W.heap.size W w' := fun W => by
              have h0 := group_c g hg x W
              rw [Geo.one_iGr HG1.out, hio, n1', HG1.out] at h0
              exact h0
            have hI2' := hg.i2
            have hn8 : n / 8 < 8 := by omega
            have hn64 : n < 64 := by omega
            have lI := HD0.out.i.lt; have lD := HD0.out.d.lt; have lBI2 := HD0.out.bi.lt; have lBD2 := HD0.out.bd.lt; have lG2 := HD0.out.ge.lt
            have hr0 := HR.out
            have hmr : Mods (fun k => k = r) wr w1 := (Mods.refl (fun k => k = r) wr).grown hg1 fun k e _ => (Option.some.inj e).symm
            have hD1 := HDD.out.mods hmr fun k e => ⟨by omega, by omega, by omega, by omega, by omega⟩
            have k0 := hD1.ge.cell 0; have k1 := hD1.ge.cell 1; have k2 := hD1.ge.cell 2
            have b0 := hD1.bi.cell 0; have i1 := hD1.i.cell (n / 8); have i2 := hD1.i.frozen (n / 8)
            rw [bytesL_get _ _ _ hn8] at i1
            simp only [List.getElem?_cons_zero, List.getElem?_cons_succ] at k0 k1 k2 b0
            have l1I := hD1.i.lt; have l1BI := hD1.bi.lt; have l1G := hD1.ge.lt
            have hf8 := hfi (n / 8)
            have HGC := Lib.hid GC; have HXN := Lib.hid hxn; have HE := Lib.hid he; have HD1 := Lib.hid hD1; have HR1 := Lib.hid hrg1; have HLX := Lib.hid hlx; have HS1 := Lib.hid hs1; have HLT1 := Lib.hid hlt1
            have HFI := Lib.hid hfi
            clear hs1 hlt1 GC hxn he hD1 hrg1 hlx hhx hio n1 n1' n2 n3 hr0 hmr hg1 hfi
            go_wp2_with (first
              | (go_at_call 60; refine (HGC.out _).mono ?_; rintro e w2 ⟨rfl, hb2⟩; obtain ⟨hc, hf⟩ := bcell hb2; have hz2 := hb2.size)
              | go_in)
            go_region
            refine ⟨?_, ?measure⟩
            iterate 28 apply Exists.intro
            refine ⟨?rel, rfl⟩
            case rel =>
              have lIB := HA.out.im.lt; have hr0 := HR.out; have hli := HD0.out.li; have lI := HD0.out.i.lt
              have hm2 := (Mods.of_below hb2).mono (t := fun k => k = I ∨ w1.heap.size ≤ k) (fun _ _ e => .inr e)
              have hmF := (hm2.setCell ⟨I, n / 8, none⟩ (fun _ => .inl rfl) (Value.int IntKind.u8 (bits BinOp.or IntKind.u8 (↑(fi (n / 8))) (2 ^ (n % 8) % 256)))).drew
              have hD2 := (HD1.out.mods (Mods.of_below hb2) fun k e => ⟨by omega, by have := HD1.out.d.lt; omega, by omega, by have := HD1.out.bd.lt; omega, by omega⟩).setI hn8 (setB (fi (n / 8)) (n % 8) true) (u := Value.int IntKind.u8 (bits BinOp.or IntKind.u8 (↑(fi (n / 8))) (2 ^ (n % 8) % 256))) (by rw [or_byte _ _ hf8])
              rw [withB_fun] at hD2
              have hzz := HR1.out.lt
              refine ⟨_, cnt1, withB fi n true, ranges_mods HR1.out hmF (by omega) (by omega), hD2.mods (Mods.refl (fun _ => False) _).drew (fun k e => e.elim), withB_lt HFI.out n true, fun kl hkl => HL.out kl (by simp only [Bool.and_eq_true] at hkl; exact hkl.1), fun i hi => ?_⟩
              rw [left_step hx (g := fun y => (adr y).isSome) (by rw [HE.out]; rfl), getBit_with HFI.out hn8, HB.out i hi, HXN.out]
              congr 1
              rw [Bool.eq_iff_iff, decide_eq_true_iff, decide_eq_true_iff]; omega
            case measure =>
              have lIB := HA.out.im.lt; have hr0 := HR.out; have hli := HD0.out.li; have lI := HD0.out.i.lt
              have hm2 := (Mods.of_below hb2).mono (t := fun k => k = I ∨ w1.heap.size ≤ k) (fun _ _ e => .inr e)
              have hmF := (hm2.setCell ⟨I, n / 8, none⟩ (fun _ => .inl rfl) (Value.int IntKind.u8 (bits BinOp.or IntKind.u8 (↑(fi (n / 8))) (2 ^ (n % 8) % 256)))).drew
              have hzz := HR1.out.lt
              have h9 := ranges_mods HR1.out hmF (by omega) (by omega)
              rw [h9.left_eq, HRG2.out.left_eq]
              exact HLT1.out
end Go.Proofs.YtbeabehebenocaaGreatDoor
end
