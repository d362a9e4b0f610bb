/- Part of the road to RpCard: ERead, ERows, EBlock, Din, IEq. -/
import Derived.Deep.DeepCutAuto
import Derived.RangeFuncBox
import Derived.RangeFuncNested
import Derived.RangeFuncBound
import Derived.RangeFuncCalls
import Derived.RangeFuncLeaves
import Derived.Shelf.Abstract
import Derived.Shelf.RegionOpen
import Derived.OwnWalkIn
import Derived.TacticsInMore
import Derived.LoopNIn
import Derived.LoopIn
import Derived.Maps.AppendAt
import Derived.ChangeKeysEq
import Derived.Test.YtbeabehebenocaaGreatDoorRpo01
set_option linter.all false
set_option linter.unusedSimpArgs false
set_option linter.unusedVariables false
set_option linter.unusedSectionVars false
section
/- Entries read. -/
namespace Go.Proofs.YtbeabehebenocaaGreatDoor
open Go.RowKit

def eIno (f : Nat → Nat) : Nat := leN f 4
def eName (f : Nat → Nat) : ByteArray := strOf (fun k => f (5 + k)) (f 4)
def eOk (f : Nat → Nat) : Bool := decide (f 4 ≤ 27) && (entOk (eIno f) (eName f) && eqB (entF (eIno f) (eName f)) f 32)

theorem or_lit (n x k : Nat) (c : Int) (hk : k ≤ 6) (hc : c = ((256 ^ k : Nat) : Int)) (hn : n < 256 ^ k) (hx : x < 256) : bits .or .i64 (n : Int) ((x : Int) * c) = ((n + x * 256 ^ k : Nat) : Int) := by
  have h := or_step n x k hk hn hx
  have hp := pow256_le hk
  have h7 : (256 : Nat) ^ 6 = 281474976710656 := by decide
  have hm : x * 256 ^ k < 72057594037927936 := by
    have : x * 256 ^ k ≤ 255 * 256 ^ k := Nat.mul_le_mul_right _ (by omega)
    omega
  have e1 : (x : Int) * 2 ^ (8 * k) = ((x * 256 ^ k : Nat) : Int) := by rw [two_pow8i]; simp
  rw [e1, wrap64_nat _ (by omega)] at h
  have e2 : (x : Int) * c = ((x * 256 ^ k : Nat) : Int) := by rw [hc]; simp
  rw [e2]; exact h
theorem or_4 (f : Nat → Nat) (hf : ∀ k, f k < 256) : bits .or .i64 (bits .or .i64 (bits .or .i64 (f 0 : Int) ((f 1 : Int) * 256)) ((f 2 : Int) * 65536)) ((f 3 : Int) * 16777216) = (leN f 4 : Int) := by
  have h0 := hf 0; have h1 := hf 1; have h2 := hf 2
  rw [or_lit (f 0) (f 1) 1 256 (by omega) (by decide) (by omega) (hf 1), or_lit _ (f 2) 2 65536 (by omega) (by decide) (by omega) (hf 2), or_lit _ (f 3) 3 16777216 (by omega) (by decide) (by omega) (hf 3)]
  congr 1
  simp [leN]

theorem below_set2 {w W w2 : World} {V0 V1 : Value} (hBx : Below w.heap.size w W) (hb2 : Below W.heap.size W w2) : Below w.heap.size w ((w2.setCell ⟨w.heap.size, 0, none⟩ V0).setCell ⟨w.heap.size, 1, none⟩ V1) :=
  ((hBx.trans (hb2.mono hBx.size)).setCell (p := ⟨w.heap.size, 0, none⟩) (Nat.le_refl _) _).setCell (p := ⟨w.heap.size, 1, none⟩) (Nat.le_refl _) _

set_option maxRecDepth 100000 in
set_option maxHeartbeats 1000000 in
theorem eread_c (B o cap : Nat) (f : Nat → Nat) (hf : ∀ k, f k < 256) (w : World) (h : RdB w B o 32 f) (hcap : 32 ≤ cap) :
    Calls Tryz.prog 78 #[.slice (some ⟨B, o, none⟩) 32 cap] w fun e w' => (eOk f = true → e = .returned (.tuple #[.agg #[.int .i64 (eIno f), .string (eName f)], .int .i64 0])) ∧
      (eOk f = false → e = .returned (.tuple #[.agg #[.int .i64 0, .string ⟨#[]⟩], .int .i64 5])) ∧ Below w.heap.size w w' := by
  have hBl := lt_of_cell (h 0 (by omega))
  have c0 : w.cell? ⟨B, o, none⟩ = some (.int .u8 ((f 0 : Nat) : Int)) := h 0 (by omega); have c1 := h 1 (by omega); have c2 := h 2 (by omega); have c3 := h 3 (by omega); have c4 := h 4 (by omega)
  have l0 := hf 0; have l1 := hf 1; have l2 := hf 2; have l3 := hf 3; have l4 := hf 4
  have HR := Lib.hid h; clear h
  by_cases h27 : f 4 ≤ 27
  · have t1 : decide ((27 : Int) < (f 4 : Int)) = false := by simp; omega
    have n5 : cap ≠ 5 := by omega
    have kc : ∀ W, RdB W B o 32 f → (convert 25 9 (.slice (some ⟨B, o + 5, none⟩) (f 4) (cap - 5))).run Tryz.prog W = .ok (.string (eName f)) W := fun W hW => by
      exact conv_str (P := Tryz.prog) W 25 9 5 B (o + 5) (f 4) (cap - 5) _ (fun k => hf (5 + k)) (hW.sub 5 (f 4) (by omega)) Tryz.underlying25 Tryz.underlying5 Tryz.underlying9
    obtain ⟨nm, hnm⟩ : ∃ nm, nm = eName f := ⟨_, rfl⟩
    rw [← hnm] at kc
    have kc1 := kc (w.alloc (.cells #[.int .i64 0, .string ⟨#[]⟩] 43)).drew (HR.out.below (((Below.refl _ _).alloc (Nat.le_refl _) _).drew))
    have kc2 := kc ((w.alloc (.cells #[.int .i64 0, .string ⟨#[]⟩] 43)).alloc (.cells #[.int .i64 0, .string ⟨#[]⟩] 43)).drew (HR.out.below ((((Below.refl _ _).alloc (Nat.le_refl _) _).alloc (by simp) _).drew))
    have Hnm := Lib.hid hnm
    clear kc hnm
    go_enter Tryz.func78, Tryz.ntmps78
    go_upto_region 4 with fail
    go_cut [5] (fun s5 wx => s5 = .pointer (some ⟨w.heap.size + 1, 0, none⟩) ∧ Blk 43 wx (w.heap.size + 1) [.int .i64 (eIno f), .string nm] ∧ Blk 43 wx w.heap.size [.int .i64 0, .string ⟨#[]⟩] ∧ Below w.heap.size w wx)
    case first =>
      go_region
      all_goals
        go_wp2_with fail
        go_meet
        refine ⟨rfl, ?_, (Blk.fst _ _).drew, (((Below.refl _ _).alloc (Nat.le_refl _) _).alloc (by simp) _).drew⟩
        rw [or_4 f hf]
        exact (Blk.snd _ _).drew
    case rest =>
      obtain ⟨rfl, hG1, hG0, hBx⟩ := hcut
      have a0 := hG1.cell 0; have a1 := hG1.cell 1
      have b0 := hG0.cell 0; have b1 := hG0.cell 1
      have f0 := hG0.frozen 0; have f1 := hG0.frozen 1
      simp only [List.getElem?_cons_zero, List.getElem?_cons_succ] at a0 a1 b0 b1
      have hl1 := hG1.lt
      have hl0 := hG0.lt
      have hRx := HR.out.below hBx
      have hino : eIno f < 4294967296 := leN_lt f hf 4
      have hnms : nm.size ≤ 1000000 := by rw [Hnm.out]; unfold eName; rw [strOf_size]; omega
      have HRx := Lib.hid hRx
      clear kc1 kc2 n5 c0 c1 c2 c3 c4 l0 l1 l2 l3 l4 hRx
      cases hok : entOk (eIno f) nm with
      | false =>
        have hs : eOk f = false := by simp [eOk, ← Hnm.out, hok]
        have Hs := Lib.hid hs
        have Hok := Lib.hid hok
        clear hs hok
        go_wp2_with (go_at_call 79; refine (epack_c (eIno f) nm hino hnms _).mono ?_; rintro e w2 ⟨hb2, _, he2⟩; obtain rfl := he2 Hok.out; clear he2; obtain ⟨hc2, hf2⟩ := bcell hb2)
        refine bodyPost_ret (v := .tuple #[.agg #[.int .i64 0, .string ⟨#[]⟩], .int .i64 5]) ?_ rfl ?_
        · simp [results, Tryz.results78, go_sem, hc2, hf2, hl0, b0, b1]
        · refine ⟨fun h => ?_, fun h => ?_, below_set2 hBx hb2⟩
          · rw [Hs.out] at h; cases h
          · rfl
      | true =>
        obtain ⟨q, hq⟩ : ∃ q, q = eqB (entF (eIno f) nm) f 32 := ⟨_, rfl⟩
        have hs : eOk f = q := by simp [eOk, ← Hnm.out, hok, hq, h27]
        have Hs := Lib.hid hs
        have Hok := Lib.hid hok
        have Hq := Lib.hid hq
        clear hs hok hq
        cases q with
        | true =>
          go_wp2_with (first | (go_at_call 79; refine (epack_c (eIno f) nm hino hnms _).mono ?_; rintro e w2 ⟨hb2, he2, _⟩; obtain ⟨B2, rfl, hB2, hk2⟩ := he2 Hok.out; clear he2; obtain ⟨hc2, hf2⟩ := bcell hb2; have HK := Lib.hid hk2; clear hk2) | (go_at_call 34; refine (beq_c B2 0 32 B o cap 32 (entF (eIno f) nm) f (entF_lt (entOk_size Hok.out)) hf _ (BlkB_rd HK.out) (HRx.out.below hb2)).mono ?_; rw [← Hq.out]; rintro e w3 ⟨rfl, rfl⟩))
          refine bodyPost_ret (v := .tuple #[.agg #[.int .i64 (eIno f), .string nm], .int .i64 0]) ?_ rfl ?_
          · simp [results, Tryz.results78, go_sem, hc2, hf2, hl0, b0, b1]
          · refine ⟨fun h => ?_, fun h => ?_, below_set2 hBx hb2⟩
            · rw [← Hnm.out]
            · rw [Hs.out] at h; cases h
        | false =>
          go_wp2_with (first | (go_at_call 79; refine (epack_c (eIno f) nm hino hnms _).mono ?_; rintro e w2 ⟨hb2, he2, _⟩; obtain ⟨B2, rfl, hB2, hk2⟩ := he2 Hok.out; clear he2; obtain ⟨hc2, hf2⟩ := bcell hb2; have HK := Lib.hid hk2; clear hk2) | (go_at_call 34; refine (beq_c B2 0 32 B o cap 32 (entF (eIno f) nm) f (entF_lt (entOk_size Hok.out)) hf _ (BlkB_rd HK.out) (HRx.out.below hb2)).mono ?_; rw [← Hq.out]; rintro e w3 ⟨rfl, rfl⟩))
          refine bodyPost_ret (v := .tuple #[.agg #[.int .i64 0, .string ⟨#[]⟩], .int .i64 5]) ?_ rfl ?_
          · simp [results, Tryz.results78, go_sem, hc2, hf2, hl0, b0, b1]
          · refine ⟨fun h => ?_, fun h => ?_, below_set2 hBx hb2⟩
            · rw [Hs.out] at h; cases h
            · rfl
  · have t1 : decide ((27 : Int) < (f 4 : Int)) = true := by simp; omega
    have hs : eOk f = false := by simp [eOk, h27]
    have Hs := Lib.hid hs
    clear hs
    go_enter Tryz.func78, Tryz.ntmps78
    go_wp2
    refine bodyPost_ret (v := .tuple #[.agg #[.int .i64 0, .string ⟨#[]⟩], .int .i64 5]) ?_ rfl ?_
    · simp [results, Tryz.results78, go_sem]
    · refine ⟨fun h => ?_, fun h => rfl, ?_⟩
      · rw [Hs.out] at h; cases h
      · exact (Below.refl _ _).alloc (Nat.le_refl _) _
end Go.Proofs.YtbeabehebenocaaGreatDoor
end

section
/- The entries of a block: the iterator over their bytes. -/
namespace Go.Proofs.YtbeabehebenocaaGreatDoor
open Go.RowKit Go.Shelf
attribute [local go_sem] Oper.semAt_some

/-- numbers below N -/
abbrev Below32 := { k : Nat // k < 32 }
def at32 (k : Nat) : Below32 := ⟨k % 32, Nat.mod_lt _ (by decide)⟩
theorem at32_val {k : Nat} (h : k < 32) : (at32 k).1 = k := Nat.mod_eq_of_lt h
def upto {α : Type} (f : Nat → α) (k : Nat) : List α := (List.range k).map f
theorem upto_succ {α : Type} (f : Nat → α) (k : Nat) : upto f (k + 1) = upto f k ++ [f k] := by simp [upto, List.range_succ]
theorem upto_length {α : Type} (f : Nat → α) (k : Nat) : (upto f k).length = k := by simp [upto]

set_option maxRecDepth 100000 in
set_option maxHeartbeats 2000000 in
theorem rows1_in (n : Nat) (hn : 1 ≤ n) (l Bs b off cap : Nat) (hcap : 1024 ≤ cap) (hcb : cap ≤ 1000000000) (Kp : World → World → Prop) (hKc : ∀ X Y, Kp X Y → Y.cell? ⟨Bs, 0, none⟩ = X.cell? ⟨Bs, 0, none⟩) (J Jx : List Below32 → World → Prop)
    (hY : ∀ pre x W, J pre W → pre.length < 32 → YieldAt Fence.wide (n - 1) Tryz.prog l #[.slice (some ⟨b, off + 32 * x.1, none⟩) 32 (cap - 32 * x.1)] W fun e W' =>
      (e = .returned (.bool true) ∧ J (pre ++ [x]) W' ∧ Kp W W') ∨ (e = .returned (.bool false) ∧ Jx (pre ++ [x]) W'))
    (W : World) (hc : W.cell? ⟨Bs, 0, none⟩ = some (.slice (some ⟨b, off, none⟩) 1024 cap)) (h0 : J [] W) :
    CallsIn Fence.wide n Tryz.prog 99 #[.func (.yield l) #[] #[], .pointer (some ⟨Bs, 0, none⟩)] W fun e W' => (∃ v, e = .returned v) ∧
      ((∃ ys, ys = upto at32 32 ∧ J ys W') ∨ (∃ pre, (∃ k, k ≤ 32 ∧ pre = upto at32 k) ∧ Jx pre W')) := by
  refine callsIn_of_wp Tryz.func99 rfl trivial ?_ rfl
  simp only [Tryz.ntmps99, List.size_toArray, List.length_cons, List.length_nil, Nat.reduceAdd, Nat.reduceSub, Array.replicate_succ, Array.replicate_zero, List.push_toArray, List.append_toArray, List.nil_append, List.cons_append]
  gi_wp2
  gi_loopw [3] (fun i wr => ∃ k : Nat, k ≤ 32 ∧ i = .int .i64 ((32 * k : Nat) : Int) ∧ J (upto at32 k) wr ∧ wr.cell? ⟨Bs, 0, none⟩ = some (.slice (some ⟨b, off, none⟩) 1024 cap))
    (fun i _ => 1024 - (intOf i).toNat)
  case atStart => exact ⟨0, Nat.zero_le _, rfl, h0, hc⟩
  case round =>
    obtain ⟨k, hk, rfl, hJs, hcx⟩ := hrel
    by_cases hlt : k < 32
    · obtain ⟨fn, tmps, assign, body, hy, hR⟩ := hY _ (at32 k) wr hJs (by rw [upto_length]; exact hlt)
      rw [at32_val hlt] at hy
      gi_wp2
      refine hR.mono ?_
      rintro e W3 (⟨rfl, hJ3, hk3⟩ | ⟨rfl, hJx3⟩)
      · gi_wp2
        go_roundw
        case rel => exact ⟨k + 1, by omega, by go_num, by rw [upto_succ]; exact hJ3, (hKc _ _ hk3).trans hcx⟩
        case measure => simp [intOf]; omega
      · gi_wp2
        refine bodyPost_ret (results_none rfl _ _ _) rfl ?_
        exact ⟨⟨_, rfl⟩, .inr ⟨_, ⟨k + 1, by omega, (upto_succ _ _).symm⟩, hJx3⟩⟩
    · obtain rfl : k = 32 := by omega
      gi_wp2
      go_end0
      exact ⟨⟨_, rfl⟩, .inl ⟨_, rfl, hJs⟩⟩

theorem rows_stops (n : Nat) (hn : 1 ≤ n) (Bs b off cap : Nat) (hcap : 1024 ≤ cap) (hcb : cap ≤ 1000000000) (Kp : World → World → Prop) (hKc : ∀ X Y, Kp X Y → Y.cell? ⟨Bs, 0, none⟩ = X.cell? ⟨Bs, 0, none⟩) (w : World)
    (hc : w.cell? ⟨Bs, 0, none⟩ = some (.slice (some ⟨b, off, none⟩) 1024 cap)) :
    SeqStopsK Fence.wide n Tryz.prog 99 #[.pointer (some ⟨Bs, 0, none⟩)] (fun x : Below32 => #[Value.slice (some ⟨b, off + 32 * x.1, none⟩) 32 (cap - 32 * x.1)]) Kp (fun ys => ys = upto at32 32) (fun pre => ∃ k, k ≤ 32 ∧ pre = upto at32 k) 32 w := fun l J Jx W hW _ _ hY h0 =>
  rows1_in n hn l Bs b off cap hcap hcb Kp hKc J Jx hY W ((hW.cell (p := ⟨Bs, 0, none⟩) (lt_of_cell hc)).trans hc) h0

theorem rows_c (b off n cap : Nat) (w : World) : Calls Tryz.prog 77 #[.slice (some ⟨b, off, none⟩) n cap] w fun e w' => e = .returned (.func (.func 99) #[] #[.pointer (some ⟨w.heap.size, 0, none⟩)]) ∧ w' = w.alloc (.cells #[.slice (some ⟨b, off, none⟩) n cap] 25) := by
  go_enter Tryz.func77, Tryz.ntmps77
  go_wp2
  go_ret
  exact ⟨rfl, rfl⟩

/-- an entry as read: a free one where there is none -/
def entRd (f : Nat → Nat) : Nat × ByteArray := if eOk f then (eIno f, eName f) else (0, ⟨#[]⟩)
theorem eread_r (B o cap : Nat) (f : Nat → Nat) (hf : ∀ k, f k < 256) (w : World) (h : RdB w B o 32 f) (hcap : 32 ≤ cap) :
    Calls Tryz.prog 78 #[.slice (some ⟨B, o, none⟩) 32 cap] w fun e w' => (∃ er : Int, e = .returned (.tuple #[.agg #[.int .i64 (entRd f).1, .string (entRd f).2], .int .i64 er])) ∧ Below w.heap.size w w' := by
  refine (eread_c B o cap f hf w h hcap).mono ?_
  rintro e w' ⟨h1, h2, h3⟩
  refine ⟨?_, h3⟩
  cases hk : eOk f with
  | true => exact ⟨0, by rw [h1 hk]; simp [entRd, hk]⟩
  | false => exact ⟨5, by rw [h2 hk]; simp [entRd, hk]⟩
/-- the values of n entries -/
def entsL (es : Nat → Nat × ByteArray) : Nat → List Value
  | 0 => []
  | n + 1 => entsL es n ++ [.int .i64 (es n).1, .string (es n).2]
theorem entsL_length (es : Nat → Nat × ByteArray) : ∀ n, (entsL es n).length = n * 2
  | 0 => rfl
  | n + 1 => by simp [entsL, entsL_length es n]; omega
end Go.Proofs.YtbeabehebenocaaGreatDoor
end

section
/- The entries of a block, read. -/
namespace Go.Proofs.YtbeabehebenocaaGreatDoor
open Go.RowKit Go.Shelf
attribute [local go_sem] Oper.semAt_some

theorem infoE : (Tryz.prog.info? 43).map (fun i => (i.zero, i.size, i.bytes)) = some (some (.agg #[.int .i64 0, .string ⟨#[]⟩]), 2, 24) := by kernel_rfl
/-- the k-th entry of a block -/
def blkE (f : Nat → Nat) (k : Nat) : Nat × ByteArray := entRd fun j => f (32 * k + j)
def cellsE (e : Nat × ByteArray) : List Value := [.int .i64 e.1, .string e.2]
theorem flat_upto (E : Nat → Nat × ByteArray) : ∀ n, n ≤ 32 → (upto at32 n).flatMap (fun x => cellsE (E x.1)) = entsL E n
  | 0, _ => rfl
  | n + 1, h => by
    rw [upto_succ, List.flatMap_append, flat_upto E n (by omega)]
    simp [entsL, cellsE, at32_val (show n < 32 by omega)]

theorem cells_new2 (w : World) (B : Nat) (x y : Value) (t : TypeId) (hB : w.heap.size = B) : ∀ j u, [x, y][j]? = some u → (w.alloc (.cells #[x, y] t)).cell? ((⟨B, 0, none⟩ : Addr).add j) = some u := by
  subst hB
  intro j u h
  have hb := Blk.new (e := t) w [x, y]
  have := hb.cell j
  rw [h] at this
  simpa [Addr.add_lit] using this
theorem ownFrom_size {β : Type} {B n : Nat} : OwnFrom B (fun (_ : β) W => n ≤ W.heap.size) := fun _ _ _ _ h hg _ => Nat.le_trans h hg.size
/-- below n₀, and of block B, nothing changes -/
structure KeepB (n₀ B : Nat) (W W' : World) : Prop where
  below : Below n₀ W W'
  blk : W'.heap[B]? = W.heap[B]?
theorem KeepB.cell {n₀ B : Nat} {W W' : World} (h : KeepB n₀ B W W') : W'.cell? ⟨B, 0, none⟩ = W.cell? ⟨B, 0, none⟩ := World.cell?_of_block (w := W) h.blk
theorem KeepB.trans {n₀ B : Nat} {X Y Z : World} (h : KeepB n₀ B X Y) (k : KeepB n₀ B Y Z) : KeepB n₀ B X Z := ⟨h.below.trans k.below, k.blk.trans h.blk⟩
theorem KeepB.put {n₀ B : Nat} {W : World} {l : Nat} {o : Obj} (hl : n₀ ≤ l) (hB : B ≠ l) (h : W.heap[l]? = some o) (o' : Obj) : KeepB n₀ B W (W.putObj l o') :=
  ⟨(Below.refl n₀ W).grown (grownBy_putObj' W l o') (by have := (Array.getElem?_eq_some_iff.1 h).1; omega) (fun k e => by cases e; exact hl), (grownBy_putObj' W l o').block B |> fun f => by
    by_cases hb : B < W.heap.size
    · exact f hb (fun e => hB (Option.some.inj e))
    · rw [Array.getElem?_eq_none (by simp; omega), Array.getElem?_eq_none (by omega)]⟩

set_option maxRecDepth 100000 in
set_option maxHeartbeats 4000000 in
theorem eblock_c (b o cap : Nat) (f : Nat → Nat) (hf : ∀ k, f k < 256) (w : World) (h : RdB w b o 1024 f) (hcap : 1024 ≤ cap) (hcb : cap ≤ 1000000000) :
    Calls Tryz.prog 54 #[.slice (some ⟨b, o, none⟩) 1024 cap] w fun e w' => ∃ v, e = .returned v ∧ w'.ownsRow w.heap.size 43 2 v 32 (entsL (blkE f) 32) ∧ Below w.heap.size w w' := by
  obtain ⟨i0, hi, hz0, hz1, hz2⟩ := info_parts infoE
  have HR := Lib.hid h
  have hbl := lt_of_cell (h 0 (by omega))
  clear h
  refine (callsIn_wide (n := 5)).1 ?_
  have h1 : 1 ≤ 5 - 1 - 1 := by omega
  refine callsIn_of_wp_marks Tryz.func54 rfl trivial ?_ rfl
  simp only [Tryz.ntmps54, List.size_toArray, List.length_cons, List.length_nil, Nat.reduceAdd, Nat.reduceSub, Array.replicate_succ, Array.replicate_zero, List.push_toArray, List.append_toArray, List.nil_append, List.cons_append]
  gi_wp2_with (refine ⟨trivial, ?_⟩; gi_at_call 77; refine (callsIn_wide.2 (rows_c b o 1024 cap _)).mono ?_; rintro e w' ⟨rfl, rfl⟩)
  have bO := Boxed.new w 58 (.slice none 0 0)
  have bN := Boxed.new (w.alloc (.cells #[.slice none 0 0] 58)) 25 (.slice (some ⟨b, o, none⟩) 1024 cap)
  rw [World.size_alloc] at bN
  have hB0 : Below w.heap.size w ((w.alloc (.cells #[.slice none 0 0] 58)).alloc (.cells #[.slice (some ⟨b, o, none⟩) 1024 cap] 25)) := ((Below.refl _ w).alloc (Nat.le_refl _) _).alloc (by simp) _
  refine wpIn_rangeFunc_ownG (F := Fence.wide) rfl (by decide) (gf := 99) (lb := #[.pointer (some ⟨w.heap.size + 1, 0, none⟩)]) rfl trivial (enters_of Tryz.func99 (by kernel_rfl) rfl)
    (rows_stops 4 (by omega) (w.heap.size + 1) b o cap hcap hcb (KeepB w.heap.size (w.heap.size + 1)) (fun X Y h => h.cell) _ bN.cell) (fun h k => h.trans k) (fun W l o o' hl ho _ _ => KeepB.put (by simp at hl; omega) (by simp at hl; omega) ho o') (Below.refl _ _) (fun _ => rfl)
    (fun (pre : List Below32) W => (∃ v, Boxed W w.heap.size 58 v ∧ W.ownsRow (w.heap.size + 2) 43 2 v pre.length (pre.flatMap (fun x => cellsE (blkE f x.1))) ∧ True) ∧ Below w.heap.size w W ∧ w.heap.size + 2 ≤ W.heap.size)
    (fun _ _ _ => False)
    (OwnFrom.and (Own.from (holdsRow_own (w.heap.size + 2) w.heap.size 58 43 2 (fun (pre : List Below32) => pre.length) (fun (pre : List Below32) => pre.flatMap (fun x => cellsE (blkE f x.1))) (fun _ _ => True)) _) (OwnFrom.and (ownFrom_below (Nat.le_refl _) (by simp; omega)) ownFrom_size))
    (fun _ _ _ _ _ hs _ _ => hs)
    ⟨⟨_, bO.alloc _, World.ownsRow_nil _ _ _ _, trivial⟩, hB0, by simp⟩
    (fun x => { tmps := #[.slice (some ⟨b, o, none⟩) 1024 cap, undef, .slice none 0 0, .pointer (some ⟨w.heap.size, 0, none⟩), .slice (some ⟨b, o + 32 * x.1, none⟩) 32 (cap - 32 * x.1), undef, undef, .slice (some ⟨b, o, none⟩) 1024 cap, .int .i64 1024, .bool false, .slice (some ⟨b, o, none⟩) 1024 cap, .func (.func 99) #[] #[.pointer (some ⟨w.heap.size + 1, 0, none⟩)], .slice (some ⟨b, o + 32 * x.1, none⟩) 32 (cap - 32 * x.1), undef, undef, undef, undef, undef, undef, undef, undef, undef, undef], defers := [] }) ?assign ?body ?done ?stop
  case assign =>
    intro l x W K hK
    gi_wp2
    exact hK
  case body =>
    rintro l pre x W ⟨⟨v, hv, hrow, _⟩, hB, hK2⟩ _
    have hRW := (HR.out.below hB).sub (32 * x.1) 32 (by have := x.2; omega)
    have hcx : 32 ≤ cap - 32 * x.1 := by have := x.2; omega
    have hvl := hv.lt
    have hB2 : w.heap.size + 2 ≤ W.heap.size := hK2
    have hcv := hv.cell
    have hfv := hv.frozen
    gi_wp2_with (first
      | (refine ⟨trivial, ?_⟩; gi_at_call 78; refine (CallsIn.inRound l (callsIn_wide.2 (eread_r b (o + 32 * x.1) (cap - 32 * x.1) _ (fun k => hf _) _ hRW hcx))).mono ?_; rintro e w1 ⟨⟨er, rfl⟩, hb1⟩; obtain ⟨hc1, hf1⟩ := bcell hb1; have hzz := hb1.size; have hz1' : w.heap.size < w1.heap.size := by omega
         have hv1 : Boxed w1 w.heap.size 58 v := (hb1.block _ hvl).trans hv
         have hrow1 := own_below hrow hb1
         have hk1 : KeepsOthers W w1 := ⟨hzz, fun k o h _ => (hb1.block k (Array.getElem?_eq_some_iff.1 h).1).trans h⟩)
      | (gi_at_builtin; refine wpListIn_append_own _ rfl _ _ 58 rfl (w.heap.size + 2) 43 i0 (.agg #[.int .i64 0, .string ⟨#[]⟩]) 2 24 Tryz.underlying58 hi hz0 hz1 hz2 rfl (by decide) _ _ _ rfl ((hrow1.alloc _).alloc _) ⟨_, 0, none⟩ 1 1 (cellsE (blkE f x.1)) rfl rfl (cells_new2 _ _ _ _ _ (by simp)) (by simp [cellsE, Value.oneCell']) (by unfold maxLen; omega) (by omega) (by have := hB2; simp; omega) ?_; intro v' w2 hown' hgrow _; obtain ⟨g', cap', rfl⟩ := ownsRow_succ hown'; obtain ⟨hv2, hv3, hr3, hk3, hb3⟩ := (hv1.alloc _).appended (n₀ := w.heap.size) (by decide) (own_mono (hrow1.alloc _) (by omega)) (by have := hB.size; simp; omega) (Nat.le_refl _) (own_mono hown' (by omega)) hgrow; have hc2 := hv2.cell; have hf2 := hv2.frozen; have hl2 := hv2.lt))
    have hr4 := hown'.kept (grownBy_setCell' w2 w.heap.size (.slice (some ⟨g', 0, none⟩) (pre.length + 1) cap')) (.inr (hv2.not_row (by decide) hown').symm)
    refine ⟨(hk1.trans ((KeepsOthers.alloc _ _).trans hk3)).from _, ⟨((hb1.mono (by have := hB.size; omega)).alloc (by have := hB.size; omega) _).trans hb3, ?kb⟩, ⟨_, hv3, by simpa [List.flatMap_append] using hr4, trivial⟩, hB.trans (((hb1.mono (by have := hB.size; omega)).alloc (by have := hB.size; omega) _).trans hb3), by have := hb3.size; simp at this ⊢; omega⟩
    have hs2 := hgrow.size
    simp only [World.size_alloc] at hs2
    rw [Below.heap_setCell _ _ _ _ (by simp), hgrow.block _ (by simp; omega) (by
      intro e; have := (hrow.lt _ e.symm).1; omega), Below.heap_alloc _ _ _ (by simp; omega), Below.heap_alloc _ _ _ (by omega), hb1.block _ (by omega)]
  case done =>
    rintro D ys W hD rfl ⟨⟨v, hv, hrow, _⟩, hB, _⟩ hK
    have hc := hv.cell
    gi_wp2
    refine ⟨by simp, .inl ⟨_, _, rfl, run_takeDeferred hK, ?_⟩⟩
    rw [flat_upto _ 32 (by omega), upto_length] at hrow
    exact ⟨_, results_tmp rfl _ _ _, v, rfl, own_mono (ownsRow_putObj hrow _ hK rfl) (by omega), hB.trans (belowK_b (w := w) (Nat.le_refl _) W D _ _ (by simp at hD; omega) hK rfl rfl)⟩
  case stop =>
    rintro D c pre W _ _ h _
    exact h.elim
end Go.Proofs.YtbeabehebenocaaGreatDoor
end

section
/- Inodes as bytes: what may be packed. -/
namespace Go.Proofs.YtbeabehebenocaaGreatDoor
open Go.RowKit

/-- memory holds n ints, all naturals -/
def RdN (w : World) (b o n : Nat) (f : Nat → Nat) : Prop := ∀ k, k < n → w.cell? ⟨b, o + k, none⟩ = some (.int .i64 ((f k : Nat) : Int))
def fitB (width : Nat) (f : Nat → Nat) (n : Nat) : Bool := (List.range n).all fun k => decide (f k < 256 ^ width)
theorem fitB_iff {width n : Nat} {f : Nat → Nat} : fitB width f n = true ↔ ∀ k, k < n → f k < 256 ^ width := by simp [fitB]
theorem fitB_succ (width : Nat) (f : Nat → Nat) (n : Nat) : fitB width f (n + 1) = (fitB width f n && decide (f n < 256 ^ width)) := by simp [fitB, List.range_succ]
theorem shr_fit (x width : Nat) : ((x : Int) / 2 ^ (8 * width) != 0) = !decide (x < 256 ^ width) := by
  rw [shr_byte]
  by_cases h : x < 256 ^ width
  · rw [Nat.div_eq_of_lt h]; simp [h]
  · have : 0 < x / 256 ^ width := Nat.div_pos (by omega) (Nat.pow_pos (by decide))
    have h2 : ((x / 256 ^ width : Nat) : Int) ≠ 0 := by omega
    simp [h, h2] at *
    omega

theorem fits_c (b o n cap width : Nat) (f : Nat → Nat) (w : World) (hw : width ≤ 7) (hn : n ≤ 1000000000) (h : RdN w b o n f) :
    Calls Tryz.prog 101 #[.int .i64 width, .slice (some ⟨b, o, none⟩) n cap] w fun e w' => e = .returned (.bool (fitB width f n)) ∧ w = w' := by
  go_enter Tryz.func101, Tryz.ntmps101
  go_wp2
  go_loop [6, 9, 11] (fun _ i _ => ∃ k : Nat, k ≤ n ∧ i = .int .i64 k ∧ fitB width f k = true) (fun _ i _ => n - (intOf i).toNat)
  case atStart => exact ⟨0, Nat.zero_le _, rfl, rfl⟩
  case round =>
    obtain ⟨k, hk, rfl, hfit⟩ := hrel
    by_cases hlt : k < n
    · have hc := h k hlt
      have hs := shr_fit (f k) width
      cases hd : decide (f k < 256 ^ width) with
      | true =>
        rw [hd] at hs
        go_wp2
        go_round
        case rel => exact ⟨k + 1, by omega, by go_num, by rw [fitB_succ, hfit, hd]; rfl⟩
        case measure => simp [intOf]; omega
      | false =>
        rw [hd] at hs
        go_wp2
        go_ret
        refine ⟨?_, rfl⟩
        cases hfb : fitB width f n with
        | false => rfl
        | true => have := fitB_iff.1 hfb k hlt; simp at hd; omega
    · obtain rfl : k = n := by omega
      go_wp2
      go_ret
      exact ⟨rfl, rfl⟩
end Go.Proofs.YtbeabehebenocaaGreatDoor
end

section
/- Inodes compared with the free one. -/
namespace Go.Proofs.YtbeabehebenocaaGreatDoor
open Go.RowKit

/-- an inode's thirteen numbers: kind, links, size, the pointers -/
abbrev InoN := Nat → Nat
def inoV (i : InoN) : Value := .agg #[.int .i64 (i 0 : Nat), .int .i64 (i 1 : Nat), .int .i64 (i 2 : Nat), .int .i64 (i 3 : Nat), .int .i64 (i 4 : Nat), .int .i64 (i 5 : Nat), .int .i64 (i 6 : Nat), .int .i64 (i 7 : Nat), .int .i64 (i 8 : Nat), .int .i64 (i 9 : Nat), .int .i64 (i 10 : Nat), .int .i64 (i 11 : Nat), .int .i64 (i 12 : Nat)]
def noIno : InoN := fun _ => 0
def allZ (i : InoN) : Bool := (List.range 13).all fun k => decide (i k = 0)
theorem infoInt : (Tryz.prog.info? 3).map (fun i => (i.zero, i.size, i.bytes)) = some (some (.int .i64 0), 1, 8) := by kernel_rfl
theorem ino_cmp (i : InoN) (w : World) : (Op.equalIn 10000 40 (inoV i) (.agg #[.int .i64 0, .int .i64 0, .int .i64 0, .int .i64 0, .int .i64 0, .int .i64 0, .int .i64 0, .int .i64 0, .int .i64 0, .int .i64 0, .int .i64 0, .int .i64 0, .int .i64 0])).run Tryz.prog w = .ok (allZ i) w := by
  have u3 := Tryz.underlying3
  have a3 := Tryz.isAgg3
  have z3 := Tryz.sizeOf3
  have u56 := Tryz.underlying38
  have a56 := Tryz.isAgg38
  have z56 := Tryz.sizeOf38
  have hS : Tryz.prog.underlying 40 = some (.struct (Tryz.prog.fieldsOf 40)) := by kernel_rfl
  have hp : Tryz.prog.stoodInHeld 40 = false := by kernel_rfl
  obtain ⟨j0, hj0, hy0, hy1, hy2⟩ := info_parts infoInt
  unfold inoV
  rw [show (10000 : Nat) = 9999 + 1 from rfl, run_equalIn_agg w 9999 40 _ _ hS hp]
  simp only [Program.fieldsOf, Tryz.underlying40]
  have hA : ∀ (W : World) (a0 a1 a2 a3 a4 a5 a6 a7 : Nat), (Op.equalIn 9999 38 (.agg #[.int .i64 (a0 : Nat), .int .i64 (a1 : Nat), .int .i64 (a2 : Nat), .int .i64 (a3 : Nat), .int .i64 (a4 : Nat), .int .i64 (a5 : Nat), .int .i64 (a6 : Nat), .int .i64 (a7 : Nat)]) (.agg #[.int .i64 0, .int .i64 0, .int .i64 0, .int .i64 0, .int .i64 0, .int .i64 0, .int .i64 0, .int .i64 0])).run Tryz.prog W = .ok (decide (a0 = 0 ∧ a1 = 0 ∧ a2 = 0 ∧ a3 = 0 ∧ a4 = 0 ∧ a5 = 0 ∧ a6 = 0 ∧ a7 = 0)) W := by
    intro W a0 a1 a2 a3 a4 a5 a6 a7
    rw [show (9999 : Nat) = 9998 + 1 from rfl, run_equalIn_array W 9998 _ _ u56 hj0]
    have hcl : Tryz.prog.cellsOf 3 = 1 := by kernel_rfl
    go_simp
    simp only [Op.eqItems]
    go_simp
    by_cases h0 : a0 = 0 <;> by_cases h1 : a1 = 0 <;> by_cases h2 : a2 = 0 <;> by_cases h3 : a3 = 0 <;> by_cases h4 : a4 = 0 <;> by_cases h5 : a5 = 0 <;> by_cases h6 : a6 = 0 <;> by_cases h7 : a7 = 0 <;> simp [h0, h1, h2, h3, h4, h5, h6, h7]
  have hz : allZ i = (decide (i 0 = 0) && (decide (i 1 = 0) && (decide (i 2 = 0) && (decide (i 3 = 0 ∧ i 4 = 0 ∧ i 5 = 0 ∧ i 6 = 0 ∧ i 7 = 0 ∧ i 8 = 0 ∧ i 9 = 0 ∧ i 10 = 0) && (decide (i 11 = 0) && decide (i 12 = 0)))))) := by
    rw [Bool.eq_iff_iff]
    simp only [allZ, List.all_eq_true, List.mem_range, Bool.and_eq_true, decide_eq_true_eq]
    constructor
    · intro h
      exact ⟨h 0 (by omega), h 1 (by omega), h 2 (by omega), ⟨h 3 (by omega), h 4 (by omega), h 5 (by omega), h 6 (by omega), h 7 (by omega), h 8 (by omega), h 9 (by omega), h 10 (by omega)⟩, h 11 (by omega), h 12 (by omega)⟩
    · intro ⟨h0, h1, h2, ⟨h3, h4, h5, h6, h7, h8, h9, h10⟩, h11, h12⟩ k hk
      match k, hk with
      | 0, _ | 1, _ | 2, _ | 3, _ | 4, _ | 5, _ | 6, _ | 7, _ | 8, _ | 9, _ | 10, _ | 11, _ | 12, _ => assumption
  rw [hz]
  clear hz
  go_simp
  generalize i 0 = a, i 1 = b, i 2 = c, i 11 = d, i 12 = e
  by_cases ha : a = 0 <;> by_cases hb : b = 0 <;> by_cases hc : c = 0 <;> by_cases hd : d = 0 <;> by_cases he : e = 0 <;> simp [ha, hb, hc, hd, he]
  all_goals (generalize (decide (i 3 = 0) && _) = q; cases q <;> rfl)
end Go.Proofs.YtbeabehebenocaaGreatDoor
end
