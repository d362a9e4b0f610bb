/- Part of the road to HeadsRow: Name, Ent, ERead, ERows, EBlock, Din, IEq. -/
import Derived.Lib.BufferWrite
import Derived.Deep.RegionLaw
import Derived.Deep.DeepCutAuto
import Derived.RangeFuncBox
import Derived.RangeFuncNested
import Derived.RangeFuncBound
import Derived.RangeFuncCalls
import Derived.RangeFuncLeaves
import Derived.Shelf.Abstract
import Derived.Shelf.RegionOpen
import Derived.OwnWalkIn
import Derived.TacticsInMore
import Derived.LoopNIn
import Derived.LoopIn
import Derived.Maps.AppendAt
import Derived.ChangeKeysEq
import Derived.Test.YtolbahfbhcpgdaaHeads01
set_option linter.all false
set_option linter.unusedSimpArgs false
set_option linter.unusedVariables false
set_option linter.unusedSectionVars false
section
/- Names of entries. -/
namespace Go.Proofs.Ytolbahfbhcpgdaa
open Go.RowKit

/-- may an entry have a name? -/
def nameOk (s : ByteArray) : Bool := decide (0 < s.size) && (decide (s.size ≤ 27) && (decide (Lib.indexByte s.data.toList 0 < 0) && decide (Lib.indexByte s.data.toList 47 < 0)))
theorem ix_ge : ∀ (l : List UInt8) (c : UInt8), -1 ≤ Lib.indexByte l c
  | [], _ => by simp [Lib.indexByte]
  | b :: l, c => by
    have := ix_ge l c
    simp only [Lib.indexByte]
    split
    · omega
    · split <;> omega
theorem ix_neg : ∀ (l : List UInt8) (c : UInt8), Lib.indexByte l c < 0 ↔ ∀ b ∈ l, b ≠ c
  | [], _ => by simp [Lib.indexByte]
  | b :: l, c => by
    have ih := ix_neg l c
    have hg := ix_ge l c
    simp only [Lib.indexByte, List.mem_cons, forall_eq_or_imp]
    by_cases hb : b = c
    · subst hb; simp
    · have : (b == c) = false := by simp [hb]
      rw [this, ← ih]
      by_cases hm : Lib.indexByte l c = -1
      · simp [hm, hb]
      · have : (Lib.indexByte l c == -1) = false := by simp [hm]
        simp only [this, Bool.false_eq_true, if_false]
        constructor
        · intro h; exact absurd h (by omega)
        · rintro ⟨_, h⟩; omega
theorem dlen (s : ByteArray) : s.data.toList.length = s.size := by rw [Array.length_toList]; rfl
theorem empty_iff (s : ByteArray) : s.toList.isEmpty = decide (s.size = 0) := by
  rw [ByteArray.toList_eq]
  have hl := dlen s
  cases h : s.data.toList with
  | nil => rw [h] at hl; simp only [List.length_nil] at hl; rw [decide_eq_true hl.symm]; rfl
  | cons a l => rw [h] at hl; simp only [List.length_cons] at hl; rw [decide_eq_false (by omega)]; rfl

theorem name_c (s : ByteArray) (hs : s.size ≤ 1000000) (w : World) : Calls Try.prog 87 #[.string s] w fun e w' => e = .returned (.bool (nameOk s)) ∧ w = w' := by
  have he := empty_iff s
  by_cases h0 : s.size = 0
  · have hn : nameOk s = false := by simp [nameOk, h0]
    have Hn := Lib.hid hn; clear hn
    rw [decide_eq_true h0] at he
    go_enter Try.func87, Try.ntmps87
    go_wp2
    go_ret
    exact ⟨by rw [Hn.out]; rfl, rfl⟩
  · rw [decide_eq_false h0] at he
    by_cases h1 : s.size ≤ 27
    · have t1 : decide ((s.size : Int) ≤ 27) = true := by simp; omega
      have hn0 : nameOk s = (decide (Lib.indexByte s.data.toList 0 < 0) && decide (Lib.indexByte s.data.toList 47 < 0)) := by
        have : (0 : Nat) < s.size := by omega
        simp [nameOk, h1, this]
      by_cases h2 : Lib.indexByte s.data.toList 0 < 0
      · have t2 : decide (Lib.indexByte s.data.toList 0 < 0) = true := by simp [h2]
        rw [t2, Bool.true_and] at hn0
        have Hn := Lib.hid hn0; clear hn0
        go_enter Try.func87, Try.ntmps87
        go_wp2_with (go_at_call 99; refine (strings_IndexByte s _ _).mono ?_; rintro e w2 ⟨rfl, rfl⟩)
        go_ret
        exact ⟨by rw [Hn.out]; rfl, rfl⟩
      · have t2 : decide (Lib.indexByte s.data.toList 0 < 0) = false := by simp [h2]
        rw [t2, Bool.false_and] at hn0
        have Hn := Lib.hid hn0; clear hn0
        go_enter Try.func87, Try.ntmps87
        go_wp2_with (go_at_call 99; refine (strings_IndexByte s _ _).mono ?_; rintro e w2 ⟨rfl, rfl⟩)
        go_ret
        exact ⟨by rw [Hn.out]; rfl, rfl⟩
    · have t1 : decide ((s.size : Int) ≤ 27) = false := by simp; omega
      have hn : nameOk s = false := by simp [nameOk, h1]
      have Hn := Lib.hid hn; clear hn
      go_enter Try.func87, Try.ntmps87
      go_wp2
      go_ret
      exact ⟨by rw [Hn.out]; rfl, rfl⟩

/-- a byte of a text as a number -/
def chr (s : ByteArray) (k : Nat) : Nat := (s.data.toList.getD k 0).toNat
theorem rname_c (s : ByteArray) (hs : s.size ≤ 1000000) (w : World) : Calls Try.prog 20 #[.string s] w fun e w' => e = .returned (.bool (nameOk s)) ∧ w = w' := by
  have hl := dlen s
  go_enter Try.func20, Try.ntmps20
  go_wp2
  go_loop [3] (fun i => ∃ k : Nat, k ≤ s.size ∧ i = .int .i64 k ∧ ∀ j, j < k → s.data.toList[j]? ≠ some 0 ∧ s.data.toList[j]? ≠ some 47) (fun i => s.size - (intOf i).toNat)
  case atStart => exact ⟨0, Nat.zero_le _, rfl, fun j hj => by omega⟩
  case round =>
    obtain ⟨k, hk, rfl, hno⟩ := hrel
    by_cases hlt : k < s.size
    · have HN := Lib.hid hno; clear hno
      have hget : s.data.toList[k]? = some s[k] := by rw [List.getElem?_eq_getElem (by omega)]; rfl
      by_cases hbad : s[k] = 0 ∨ s[k] = 47
      · have hn : nameOk s = false := by
          have hmem : s[k] ∈ s.data.toList := List.mem_of_getElem? hget
          rcases hbad with h | h
          · have : ¬ Lib.indexByte s.data.toList 0 < 0 := fun h2 => (ix_neg _ _).1 h2 _ hmem h
            simp [nameOk, this]
          · have : ¬ Lib.indexByte s.data.toList 47 < 0 := fun h2 => (ix_neg _ _).1 h2 _ hmem h
            simp [nameOk, this]
        have Hn := Lib.hid hn; have HG := Lib.hid hget; clear hn hget
        rcases hbad with h | h
        · have t1 : (((s[k].toNat : Nat) : Int) == 0) = true := by rw [h]; rfl
          clear h
          go_wp2
          go_ret
          exact ⟨by rw [Hn.out]; rfl, rfl⟩
        · have t1 : (((s[k].toNat : Nat) : Int) == 0) = false := by rw [h]; rfl
          have t2 : (((s[k].toNat : Nat) : Int) == 47) = true := by rw [h]; rfl
          clear h
          go_wp2
          go_ret
          exact ⟨by rw [Hn.out]; rfl, rfl⟩
      · have t1 : (((s[k].toNat : Nat) : Int) == 0) = false := by
          rw [beq_eq_false_iff_ne]; intro e; apply hbad; left; apply UInt8.toNat_inj.1; show _ = 0; omega
        have t2 : (((s[k].toNat : Nat) : Int) == 47) = false := by
          rw [beq_eq_false_iff_ne]; intro e; apply hbad; right; apply UInt8.toNat_inj.1; show _ = 47; omega
        have HG := Lib.hid hget; have HB := Lib.hid hbad; clear hget hbad
        go_wp2
        go_round
        case rel =>
          refine ⟨k + 1, by omega, by go_num, fun j hj => ?_⟩
          by_cases e : j = k
          · subst e; rw [HG.out]
            exact ⟨fun e => HB.out (.inl (Option.some.inj e)), fun e => HB.out (.inr (Option.some.inj e))⟩
          · exact HN.out j (by omega)
        case measure => simp [intOf]; omega
    · obtain rfl : k = s.size := by omega
      have h0 : Lib.indexByte s.data.toList 0 < 0 := (ix_neg _ _).2 fun b hb e => by
        obtain ⟨j, hj, e2⟩ := List.getElem_of_mem hb
        exact (hno j (by omega)).1 (by rw [List.getElem?_eq_getElem hj, e2, e])
      have h1 : Lib.indexByte s.data.toList 47 < 0 := (ix_neg _ _).2 fun b hb e => by
        obtain ⟨j, hj, e2⟩ := List.getElem_of_mem hb
        exact (hno j (by omega)).2 (by rw [List.getElem?_eq_getElem hj, e2, e])
      have hn : nameOk s = (decide (0 < s.size) && decide (s.size ≤ 27)) := by simp [nameOk, h0, h1]
      have he := empty_iff s
      clear h0 h1 hno
      by_cases hz : s.size = 0
      · rw [decide_eq_true hz] at he
        rw [decide_eq_false (by omega), Bool.false_and] at hn
        have Hn := Lib.hid hn; clear hn
        go_wp2
        go_ret
        exact ⟨by rw [Hn.out]; rfl, rfl⟩
      · rw [decide_eq_false hz] at he
        have t1 : decide ((s.size : Int) ≤ 27) = decide (s.size ≤ 27) := by
          by_cases h : s.size ≤ 27
          · rw [decide_eq_true h]; simp; omega
          · rw [decide_eq_false h]; simp; omega
        rw [decide_eq_true (by omega), Bool.true_and, ← t1] at hn
        have Hn := Lib.hid hn; clear hn t1
        go_wp2
        go_ret
        exact ⟨by rw [Hn.out]; rfl, rfl⟩
end Go.Proofs.Ytolbahfbhcpgdaa
end

section
/- Entries as bytes, packed. -/
namespace Go.Proofs.Ytolbahfbhcpgdaa
open Go.RowKit
open Go.Lib (byteCells byteCells_length)

theorem chr_lt (s : ByteArray) (k : Nat) : chr s k < 256 := by
  unfold chr
  exact UInt8.toNat_lt _
theorem byteCells_chr (s : ByteArray) : byteCells s.data.toList = bytesL (chr s) s.size := by
  apply List.ext_getElem?
  intro k
  by_cases hk : k < s.size
  · rw [bytesL_get _ _ _ hk]
    have : k < s.data.toList.length := by rw [dlen]; exact hk
    simp [byteCells, chr, List.getElem?_eq_getElem this, List.getD_eq_getElem?_getD]
  · rw [List.getElem?_eq_none (by rw [byteCells_length, dlen]; omega), List.getElem?_eq_none (by rw [bytesL_length]; omega)]
/-- an entry's bytes -/
def entF (ino : Nat) (s : ByteArray) : Nat → Nat := putF (fun k => if k < 4 then byteN ino k else if k = 4 then s.size else 0) 5 s.size (chr s)
/-- may an entry be packed? -/
def entOk (ino : Nat) (s : ByteArray) : Bool := decide (ino = 0) && decide (s.size = 0) || (decide (ino ≠ 0) && nameOk s)
theorem entOk_size {ino : Nat} {s : ByteArray} (h : entOk ino s = true) : s.size ≤ 27 := by
  simp only [entOk, nameOk, Bool.or_eq_true, Bool.and_eq_true, decide_eq_true_eq] at h
  omega
theorem entF_lt {ino : Nat} {s : ByteArray} (h : s.size ≤ 27) : ∀ k, entF ino s k < 256 := putF_lt (fun k => by (repeat' split) <;> first | exact byteN_lt _ _ | omega) (chr_lt s)

theorem step_copy_str {P : Program} {ops : Array Oper} {o : Oper} {a : Act} {w : World} {K : Act → World → Prop} {Q : Exit → Act → World → Prop} {E : Prop}
    (hg : o.guard = none) (d x : Operand) (dT sT : TypeId) (hop : o.op = Op.call { callee := Callee.builtin Builtin.copy, args := #[d, x], argTypes := #[dT, sT] })
    (elem : TypeId) (hu : P.underlying dT = some (.slice elem)) (hsz : (P.info? elem).map (·.size) = some 1)
    (g off dLen dCap : Nat) (hd : a.eval d = .slice (some ⟨g, off, none⟩) dLen dCap) (s : ByteArray) (hx : a.eval x = .string s) (hle : s.size ≤ dLen)
    (n : Nat) (f : Nat → Nat) (t : TypeId) (hb : Blk t w g (bytesL f n)) (hfit : off + s.size ≤ n)
    (hK : ∀ w', Blk t w' g (bytesL (putF f off s.size (chr s)) n) → Mods (fun k => k = g) w w' → K (a.put o.dst (goInt s.size)) w') :
    if Region.wanted o (yielded ops a.tmps) = true then Oper.wp P o a w K Q else E := by
  have hw : Region.wanted o (yielded ops a.tmps) = true := by simp [Region.wanted, hg]
  rw [if_pos hw]
  have hrun := Lib.run_copy_row_string (P := P) w dT sT o.type elem g off dLen dCap s (bytesL f n).toArray t hu hsz hb hle (by simp [bytesL_length]; omega)
  unfold Oper.wp
  simp [execOp, hop, resolve, invoke, builtin, hd, hx, hrun, Result.andThen]
  refine hK _ ?_ ⟨rfl, rfl, rfl, by simp, fun k _ hk => setRow_other w g k _ hk⟩
  rw [← bytesL_put _ _ _ _ _ hfit, ← byteCells_chr]
  have h2 := setRow_heap w g (bytesL f n).toArray (List.take off (bytesL f n) ++ (byteCells s.data.toList ++ List.drop (off + s.size) (bytesL f n))).toArray t (0, 0) hb
  have hl : (byteCells s.data.toList).length = s.size := by rw [byteCells_length, dlen]
  unfold Blk
  simp [splice, hl] at h2 ⊢
  exact h2

theorem ent_zero (s : ByteArray) (h : s.size = 0) : ∀ k, entF 0 s k = 0 := fun k => by
  have hb : byteN 0 k = 0 := by simp [byteN]
  simp [entF, putF, h, hb]
  intro h1 h2; omega
theorem ret_se {A : Option Addr} {n c : Nat} {a b : Int} (h : a = b) : Ending.returned (.tuple #[.slice A n c, .int .i64 a]) = .returned (.tuple #[.slice A n c, .int .i64 b]) := by rw [h]

set_option maxRecDepth 100000 in
set_option maxHeartbeats 1000000 in
theorem epack_c (ino : Nat) (s : ByteArray) (hi : ino < 4294967296) (hs : s.size ≤ 1000000) (w : World) :
    Calls Try.prog 73 #[.agg #[.int .i64 ino, .string s]] w fun e w' => Below w.heap.size w w' ∧
      (entOk ino s = true → ∃ B, e = .returned (.tuple #[.slice (some ⟨B, 0, none⟩) 32 32, .int .i64 0]) ∧ w.heap.size ≤ B ∧ Blk 5 w' B (bytesL (entF ino s) 32)) ∧
      (entOk ino s = false → e = .returned (.tuple #[.slice none 0 0, .int .i64 1])) := by
  obtain ⟨i0, hi0, hz0, hz1, hz2⟩ := info_parts info8
  have he := empty_iff s
  have hshift : (ino : Int) / 2 ^ 32 = 0 := by omega
  have hshift2 : (ino : Int) / 4294967296 = 0 := by omega
  have hshift3 : ((ino : Int) / 2 ^ 32 != 0) = false := by rw [hshift]; rfl
  have hshift4 : ((ino : Int) / 4294967296 != 0) = false := by rw [hshift2]; rfl
  by_cases h0 : ino = 0
  · subst h0
    by_cases hz : s.size = 0
    · rw [decide_eq_true hz] at he
      have ho : entOk 0 s = true := by simp [entOk, hz]
      have Ho := Lib.hid ho; have Hz := Lib.hid hz; clear ho hz
      go_enter Try.func73, Try.ntmps73
      go_wp2_with (at_make; refine mk_one _ rfl _ _ 22 rfl 5 i0 (.int .u8 0) 1 Try.underlying22 hi0 hz0 hz1 hz2 rfl _ _ _ _ 32 rfl rfl rfl rfl (by omega) (by unfold maxLen; omega) ?_; intro w1 hblk hgr; rw [zeros_bytes, World.size_alloc] at hblk; have HB := Lib.hid hblk; clear hblk; have hB1 := (Below.refl _ _).grown hgr (Nat.le_refl _) (fun k e => by cases e); obtain ⟨hc, hf⟩ := bcell hB1; have hB := ((Below.refl w.heap.size w).alloc (Nat.le_refl _) _).trans (hB1.mono (by simp)))
      go_ret2
      exact ⟨hB, fun _ => ⟨_, rfl, by omega, by rw [bytesL_congr (g := fun _ => 0) (fun k _ => ent_zero s Hz.out k)]; exact HB.out⟩, fun h => by rw [Ho.out] at h; cases h⟩
    · rw [decide_eq_false hz] at he
      have ho : entOk 0 s = false := by simp [entOk, hz]
      have Ho := Lib.hid ho; clear ho
      go_enter Try.func73, Try.ntmps73
      go_wp2_with (at_make; refine mk_one _ rfl _ _ 22 rfl 5 i0 (.int .u8 0) 1 Try.underlying22 hi0 hz0 hz1 hz2 rfl _ _ _ _ 32 rfl rfl rfl rfl (by omega) (by unfold maxLen; omega) ?_; intro w1 hblk hgr; rw [zeros_bytes, World.size_alloc] at hblk; have HB := Lib.hid hblk; clear hblk; have hB1 := (Below.refl _ _).grown hgr (Nat.le_refl _) (fun k e => by cases e); obtain ⟨hc, hf⟩ := bcell hB1; have hB := ((Below.refl w.heap.size w).alloc (Nat.le_refl _) _).trans (hB1.mono (by simp)))
      go_ret2
      exact ⟨hB, fun h => by (rw [Ho.out] at h; cases h), fun _ => rfl⟩
  · have t0 : (((ino : Nat) : Int) == 0) = false := by rw [beq_eq_false_iff_ne]; omega
    have t1 : decide (((ino : Nat) : Int) ≤ 0) = false := by simp; omega
    have t2 : (((0 : Int)) != 0) = false := rfl
    have ho : entOk ino s = nameOk s := by simp [entOk, h0]
    cases hn : nameOk s with
    | false =>
      have NC : ∀ W, Calls Try.prog 87 #[.string s] W fun e w' => e = .returned (.bool false) ∧ W = w' := fun W => by have := name_c s hs W; rwa [hn] at this
      rw [hn] at ho
      have Ho := Lib.hid ho; have HN := Lib.hid NC; clear ho hn he NC
      go_enter Try.func73, Try.ntmps73
      go_wp2_with (first | (go_at_call 87; refine (HN.out _).mono ?_; rintro e w2 ⟨rfl, rfl⟩) | (at_make; refine mk_one _ rfl _ _ 22 rfl 5 i0 (.int .u8 0) 1 Try.underlying22 hi0 hz0 hz1 hz2 rfl _ _ _ _ 32 rfl rfl rfl rfl (by omega) (by unfold maxLen; omega) ?_; intro w1 hblk hgr; rw [zeros_bytes, World.size_alloc] at hblk; have HB := Lib.hid hblk; clear hblk; have hB1 := (Below.refl _ _).grown hgr (Nat.le_refl _) (fun k e => by cases e); obtain ⟨hc, hf⟩ := bcell hB1; have hB := ((Below.refl w.heap.size w).alloc (Nat.le_refl _) _).trans (hB1.mono (by simp))))
      go_ret2
      exact ⟨hB, fun h => by (rw [Ho.out] at h; cases h), fun _ => rfl⟩
    | true =>
      have NC : ∀ W, Calls Try.prog 87 #[.string s] W fun e w' => e = .returned (.bool true) ∧ W = w' := fun W => by have := name_c s hs W; rwa [hn] at this
      rw [hn] at ho
      have hs27 := entOk_size ho
      have hs0 : 0 < s.size := by simp only [nameOk, Bool.and_eq_true, decide_eq_true_eq] at hn; omega
      have Ho := Lib.hid ho; have HN := Lib.hid NC; clear ho hn he NC
      go_enter Try.func73, Try.ntmps73
      go_wp2_with (first | (go_at_call 87; refine (HN.out _).mono ?_; rintro e w2 ⟨rfl, rfl⟩) | (at_make; refine mk_one _ rfl _ _ 22 rfl 5 i0 (.int .u8 0) 1 Try.underlying22 hi0 hz0 hz1 hz2 rfl _ _ _ _ 32 rfl rfl rfl rfl (by omega) (by unfold maxLen; omega) ?_; intro w1 hblk hgr; rw [zeros_bytes, World.size_alloc] at hblk; have HB := Lib.hid hblk; clear hblk; have hB1 := (Below.refl _ _).grown hgr (Nat.le_refl _) (fun k e => by cases e); obtain ⟨hc, hf⟩ := bcell hB1; have hB := ((Below.refl w.heap.size w).alloc (Nat.le_refl _) _).trans (hB1.mono (by simp))))
      have hsz1 := hB1.size
      rw [World.size_alloc] at hsz1
      go_loopw [31] (fun i wr => ∃ k : Nat, k ≤ 4 ∧ i = .int .i64 k ∧ Blk 5 wr (w.heap.size + 1) (bytesL (fun j => if j < k then byteN ino j else 0) 32) ∧ Below w.heap.size w wr ∧ wr.cell? ⟨w.heap.size, 0, none⟩ = some (.int .i64 ino) ∧ wr.cell? ⟨w.heap.size, 1, none⟩ = some (.string s)) (fun i _ => 4 - (intOf i).toNat)
      case atStart => exact ⟨0, by omega, rfl, by simpa using HB.out, hB, by rw [hc _ _ (by simp)]; simp, by rw [hc _ _ (by simp)]; simp⟩
      case round =>
        obtain ⟨k, hk, rfl, hblk, hBr, c0, c1⟩ := hrel
        by_cases hlt : k < 4
        · have hck := hblk.cell k
          rw [bytesL_get _ _ _ (by omega)] at hck
          have hfk := hblk.frozen k
          go_wp2
          go_roundw
          case rel =>
            refine ⟨k + 1, by omega, by go_num, ?_, hBr.setCell (p := ⟨w.heap.size + 1, k, none⟩) (by simp) _, ?_, ?_⟩
            · have h2 := hblk.set k (.int .u8 ((byteN ino k : Nat) : Int))
              rw [bytesL_set _ _ _ _ (by omega)] at h2
              rw [← byte_eq] at h2
              rw [show bytesL (fun j => if j < k + 1 then byteN ino j else 0) 32 = bytesL (fun j => if j = k then byteN ino k else if j < k then byteN ino j else 0) 32 from bytesL_congr fun j _ => by
                by_cases e : j = k
                · subst e; simp
                · by_cases e2 : j < k
                  · have : j < k + 1 := by omega
                    simp [e, e2, this]
                  · have : ¬ j < k + 1 := by omega
                    simp [e, e2, this]]
              exact h2
            · rw [World.cell?_setCell_other _ _ _ _ (by simp)]; exact c0
            · rw [World.cell?_setCell_other _ _ _ _ (by simp)]; exact c1
          case measure => simp [intOf]; omega
        · obtain rfl : k = 4 := by omega
          have hck := hblk.cell 4
          rw [bytesL_get _ _ _ (by omega)] at hck
          have hfk := hblk.frozen 4
          have hb4 : Hid (Blk 5 (wr.setCell ⟨w.heap.size + 1, 4, none⟩ (.int .u8 (s.size : Int))) (w.heap.size + 1) (bytesL (fun j => if j = 4 then s.size else if j < 4 then byteN ino j else 0) 32)) := by
            have h2 := hblk.set 4 (.int .u8 (s.size : Int))
            rwa [bytesL_set _ _ _ _ (by omega)] at h2
          go_wp2
          go_region_law (refine step_copy_str rfl _ _ 22 9 rfl 5 Try.underlying22 (by kernel_rfl) (w.heap.size + 1) 5 27 27 rfl s rfl (by omega) 32 (fun j => if j = 4 then s.size else if j < 4 then byteN ino j else 0) 5 (by exact hb4.out.drew) (by omega) ?_; intro w5 hb5 hm5)
          go_wp2
          go_ret2
          refine ⟨?_, fun _ => ⟨_, rfl, by omega, ?_⟩, fun h => by (rw [Ho.out] at h; cases h)⟩
          · exact ((hBr.setCell (p := ⟨w.heap.size + 1, 4, none⟩) (by simp) _).drew).trans (hm5.below (B := w.heap.size) (fun k e => by omega) (by have := hBr.size; simp; omega))
          · rw [show bytesL (entF ino s) 32 = bytesL (putF (fun j => if j = 4 then s.size else if j < 4 then byteN ino j else 0) 5 s.size (chr s)) 32 from bytesL_congr fun j _ => by
              unfold entF putF
              by_cases e : 5 ≤ j ∧ j < 5 + s.size
              · rw [if_pos e, if_pos e]
              · rw [if_neg e, if_neg e]
                by_cases e2 : j = 4
                · simp [e2]
                · by_cases e3 : j < 4 <;> simp [e2, e3]]
            exact hb5
end Go.Proofs.Ytolbahfbhcpgdaa
end

section
/- Entries read. -/
namespace Go.Proofs.Ytolbahfbhcpgdaa
open Go.RowKit

def eIno (f : Nat → Nat) : Nat := leN f 4
def eName (f : Nat → Nat) : ByteArray := strOf (fun k => f (5 + k)) (f 4)
def eOk (f : Nat → Nat) : Bool := decide (f 4 ≤ 27) && (entOk (eIno f) (eName f) && eqB (entF (eIno f) (eName f)) f 32)

theorem or_lit (n x k : Nat) (c : Int) (hk : k ≤ 6) (hc : c = ((256 ^ k : Nat) : Int)) (hn : n < 256 ^ k) (hx : x < 256) : bits .or .i64 (n : Int) ((x : Int) * c) = ((n + x * 256 ^ k : Nat) : Int) := by
  have h := or_step n x k hk hn hx
  have hp := pow256_le hk
  have h7 : (256 : Nat) ^ 6 = 281474976710656 := by decide
  have hm : x * 256 ^ k < 72057594037927936 := by
    have : x * 256 ^ k ≤ 255 * 256 ^ k := Nat.mul_le_mul_right _ (by omega)
    omega
  have e1 : (x : Int) * 2 ^ (8 * k) = ((x * 256 ^ k : Nat) : Int) := by rw [two_pow8i]; simp
  rw [e1, wrap64_nat _ (by omega)] at h
  have e2 : (x : Int) * c = ((x * 256 ^ k : Nat) : Int) := by rw [hc]; simp
  rw [e2]; exact h
theorem or_4 (f : Nat → Nat) (hf : ∀ k, f k < 256) : bits .or .i64 (bits .or .i64 (bits .or .i64 (f 0 : Int) ((f 1 : Int) * 256)) ((f 2 : Int) * 65536)) ((f 3 : Int) * 16777216) = (leN f 4 : Int) := by
  have h0 := hf 0; have h1 := hf 1; have h2 := hf 2
  rw [or_lit (f 0) (f 1) 1 256 (by omega) (by decide) (by omega) (hf 1), or_lit _ (f 2) 2 65536 (by omega) (by decide) (by omega) (hf 2), or_lit _ (f 3) 3 16777216 (by omega) (by decide) (by omega) (hf 3)]
  congr 1
  simp [leN]

theorem below_set2 {w W w2 : World} {V0 V1 : Value} (hBx : Below w.heap.size w W) (hb2 : Below W.heap.size W w2) : Below w.heap.size w ((w2.setCell ⟨w.heap.size, 0, none⟩ V0).setCell ⟨w.heap.size, 1, none⟩ V1) :=
  ((hBx.trans (hb2.mono hBx.size)).setCell (p := ⟨w.heap.size, 0, none⟩) (Nat.le_refl _) _).setCell (p := ⟨w.heap.size, 1, none⟩) (Nat.le_refl _) _

set_option maxRecDepth 100000 in
set_option maxHeartbeats 1000000 in
theorem eread_c (B o cap : Nat) (f : Nat → Nat) (hf : ∀ k, f k < 256) (w : World) (h : RdB w B o 32 f) (hcap : 32 ≤ cap) :
    Calls Try.prog 72 #[.slice (some ⟨B, o, none⟩) 32 cap] w fun e w' => (eOk f = true → e = .returned (.tuple #[.agg #[.int .i64 (eIno f), .string (eName f)], .int .i64 0])) ∧
      (eOk f = false → e = .returned (.tuple #[.agg #[.int .i64 0, .string ⟨#[]⟩], .int .i64 5])) ∧ Below w.heap.size w w' := by
  have hBl := lt_of_cell (h 0 (by omega))
  have c0 : w.cell? ⟨B, o, none⟩ = some (.int .u8 ((f 0 : Nat) : Int)) := h 0 (by omega); have c1 := h 1 (by omega); have c2 := h 2 (by omega); have c3 := h 3 (by omega); have c4 := h 4 (by omega)
  have l0 := hf 0; have l1 := hf 1; have l2 := hf 2; have l3 := hf 3; have l4 := hf 4
  have HR := Lib.hid h; clear h
  by_cases h27 : f 4 ≤ 27
  · have t1 : decide ((27 : Int) < (f 4 : Int)) = false := by simp; omega
    have n5 : cap ≠ 5 := by omega
    have kc : ∀ W, RdB W B o 32 f → (convert 22 9 (.slice (some ⟨B, o + 5, none⟩) (f 4) (cap - 5))).run Try.prog W = .ok (.string (eName f)) W := fun W hW => by
      exact conv_str (P := Try.prog) W 22 9 5 B (o + 5) (f 4) (cap - 5) _ (fun k => hf (5 + k)) (hW.sub 5 (f 4) (by omega)) Try.underlying22 Try.underlying5 Try.underlying9
    obtain ⟨nm, hnm⟩ : ∃ nm, nm = eName f := ⟨_, rfl⟩
    rw [← hnm] at kc
    have kc1 := kc (w.alloc (.cells #[.int .i64 0, .string ⟨#[]⟩] 38)).drew (HR.out.below (((Below.refl _ _).alloc (Nat.le_refl _) _).drew))
    have kc2 := kc ((w.alloc (.cells #[.int .i64 0, .string ⟨#[]⟩] 38)).alloc (.cells #[.int .i64 0, .string ⟨#[]⟩] 38)).drew (HR.out.below ((((Below.refl _ _).alloc (Nat.le_refl _) _).alloc (by simp) _).drew))
    have Hnm := Lib.hid hnm
    clear kc hnm
    go_enter Try.func72, Try.ntmps72
    go_upto_region 4 with fail
    go_cut [5] (fun s5 wx => s5 = .pointer (some ⟨w.heap.size + 1, 0, none⟩) ∧ Blk 38 wx (w.heap.size + 1) [.int .i64 (eIno f), .string nm] ∧ Blk 38 wx w.heap.size [.int .i64 0, .string ⟨#[]⟩] ∧ Below w.heap.size w wx)
    case first =>
      go_region
      all_goals
        go_wp2_with fail
        go_meet
        refine ⟨rfl, ?_, (Blk.fst _ _).drew, (((Below.refl _ _).alloc (Nat.le_refl _) _).alloc (by simp) _).drew⟩
        rw [or_4 f hf]
        exact (Blk.snd _ _).drew
    case rest =>
      obtain ⟨rfl, hG1, hG0, hBx⟩ := hcut
      have a0 := hG1.cell 0; have a1 := hG1.cell 1
      have b0 := hG0.cell 0; have b1 := hG0.cell 1
      have f0 := hG0.frozen 0; have f1 := hG0.frozen 1
      simp only [List.getElem?_cons_zero, List.getElem?_cons_succ] at a0 a1 b0 b1
      have hl1 := hG1.lt
      have hl0 := hG0.lt
      have hRx := HR.out.below hBx
      have hino : eIno f < 4294967296 := leN_lt f hf 4
      have hnms : nm.size ≤ 1000000 := by rw [Hnm.out]; unfold eName; rw [strOf_size]; omega
      have HRx := Lib.hid hRx
      clear kc1 kc2 n5 c0 c1 c2 c3 c4 l0 l1 l2 l3 l4 hRx
      cases hok : entOk (eIno f) nm with
      | false =>
        have hs : eOk f = false := by simp [eOk, ← Hnm.out, hok]
        have Hs := Lib.hid hs
        have Hok := Lib.hid hok
        clear hs hok
        go_wp2_with (go_at_call 73; refine (epack_c (eIno f) nm hino hnms _).mono ?_; rintro e w2 ⟨hb2, _, he2⟩; obtain rfl := he2 Hok.out; clear he2; obtain ⟨hc2, hf2⟩ := bcell hb2)
        refine bodyPost_ret (v := .tuple #[.agg #[.int .i64 0, .string ⟨#[]⟩], .int .i64 5]) ?_ rfl ?_
        · simp [results, Try.results72, go_sem, hc2, hf2, hl0, b0, b1]
        · refine ⟨fun h => ?_, fun h => ?_, below_set2 hBx hb2⟩
          · rw [Hs.out] at h; cases h
          · rfl
      | true =>
        obtain ⟨q, hq⟩ : ∃ q, q = eqB (entF (eIno f) nm) f 32 := ⟨_, rfl⟩
        have hs : eOk f = q := by simp [eOk, ← Hnm.out, hok, hq, h27]
        have Hs := Lib.hid hs
        have Hok := Lib.hid hok
        have Hq := Lib.hid hq
        clear hs hok hq
        cases q with
        | true =>
          go_wp2_with (first | (go_at_call 73; refine (epack_c (eIno f) nm hino hnms _).mono ?_; rintro e w2 ⟨hb2, he2, _⟩; obtain ⟨B2, rfl, hB2, hk2⟩ := he2 Hok.out; clear he2; obtain ⟨hc2, hf2⟩ := bcell hb2; have HK := Lib.hid hk2; clear hk2) | (go_at_call 36; refine (beq_c B2 0 32 B o cap 32 (entF (eIno f) nm) f (entF_lt (entOk_size Hok.out)) hf _ (BlkB_rd HK.out) (HRx.out.below hb2)).mono ?_; rw [← Hq.out]; rintro e w3 ⟨rfl, rfl⟩))
          refine bodyPost_ret (v := .tuple #[.agg #[.int .i64 (eIno f), .string nm], .int .i64 0]) ?_ rfl ?_
          · simp [results, Try.results72, go_sem, hc2, hf2, hl0, b0, b1]
          · refine ⟨fun h => ?_, fun h => ?_, below_set2 hBx hb2⟩
            · rw [← Hnm.out]
            · rw [Hs.out] at h; cases h
        | false =>
          go_wp2_with (first | (go_at_call 73; refine (epack_c (eIno f) nm hino hnms _).mono ?_; rintro e w2 ⟨hb2, he2, _⟩; obtain ⟨B2, rfl, hB2, hk2⟩ := he2 Hok.out; clear he2; obtain ⟨hc2, hf2⟩ := bcell hb2; have HK := Lib.hid hk2; clear hk2) | (go_at_call 36; refine (beq_c B2 0 32 B o cap 32 (entF (eIno f) nm) f (entF_lt (entOk_size Hok.out)) hf _ (BlkB_rd HK.out) (HRx.out.below hb2)).mono ?_; rw [← Hq.out]; rintro e w3 ⟨rfl, rfl⟩))
          refine bodyPost_ret (v := .tuple #[.agg #[.int .i64 0, .string ⟨#[]⟩], .int .i64 5]) ?_ rfl ?_
          · simp [results, Try.results72, go_sem, hc2, hf2, hl0, b0, b1]
          · refine ⟨fun h => ?_, fun h => ?_, below_set2 hBx hb2⟩
            · rw [Hs.out] at h; cases h
            · rfl
  · have t1 : decide ((27 : Int) < (f 4 : Int)) = true := by simp; omega
    have hs : eOk f = false := by simp [eOk, h27]
    have Hs := Lib.hid hs
    clear hs
    go_enter Try.func72, Try.ntmps72
    go_wp2
    refine bodyPost_ret (v := .tuple #[.agg #[.int .i64 0, .string ⟨#[]⟩], .int .i64 5]) ?_ rfl ?_
    · simp [results, Try.results72, go_sem]
    · refine ⟨fun h => ?_, fun h => rfl, ?_⟩
      · rw [Hs.out] at h; cases h
      · exact (Below.refl _ _).alloc (Nat.le_refl _) _
end Go.Proofs.Ytolbahfbhcpgdaa
end

section
/- The entries of a block: the iterator over their bytes. -/
namespace Go.Proofs.Ytolbahfbhcpgdaa
open Go.RowKit Go.Shelf
attribute [local go_sem] Oper.semAt_some

/-- numbers below N -/
abbrev Below32 := { k : Nat // k < 32 }
def at32 (k : Nat) : Below32 := ⟨k % 32, Nat.mod_lt _ (by decide)⟩
theorem at32_val {k : Nat} (h : k < 32) : (at32 k).1 = k := Nat.mod_eq_of_lt h
def upto {α : Type} (f : Nat → α) (k : Nat) : List α := (List.range k).map f
theorem upto_succ {α : Type} (f : Nat → α) (k : Nat) : upto f (k + 1) = upto f k ++ [f k] := by simp [upto, List.range_succ]
theorem upto_length {α : Type} (f : Nat → α) (k : Nat) : (upto f k).length = k := by simp [upto]

set_option maxRecDepth 100000 in
set_option maxHeartbeats 2000000 in
theorem rows1_in (n : Nat) (hn : 1 ≤ n) (l Bs b off cap : Nat) (hcap : 1024 ≤ cap) (hcb : cap ≤ 1000000000) (Kp : World → World → Prop) (hKc : ∀ X Y, Kp X Y → Y.cell? ⟨Bs, 0, none⟩ = X.cell? ⟨Bs, 0, none⟩) (J Jx : List Below32 → World → Prop)
    (hY : ∀ pre x W, J pre W → pre.length < 32 → YieldAt Fence.wide (n - 1) Try.prog l #[.slice (some ⟨b, off + 32 * x.1, none⟩) 32 (cap - 32 * x.1)] W fun e W' =>
      (e = .returned (.bool true) ∧ J (pre ++ [x]) W' ∧ Kp W W') ∨ (e = .returned (.bool false) ∧ Jx (pre ++ [x]) W'))
    (W : World) (hc : W.cell? ⟨Bs, 0, none⟩ = some (.slice (some ⟨b, off, none⟩) 1024 cap)) (h0 : J [] W) :
    CallsIn Fence.wide n Try.prog 86 #[.func (.yield l) #[] #[], .pointer (some ⟨Bs, 0, none⟩)] W fun e W' => (∃ v, e = .returned v) ∧
      ((∃ ys, ys = upto at32 32 ∧ J ys W') ∨ (∃ pre, (∃ k, k ≤ 32 ∧ pre = upto at32 k) ∧ Jx pre W')) := by
  refine callsIn_of_wp Try.func86 rfl trivial ?_ rfl
  simp only [Try.ntmps86, List.size_toArray, List.length_cons, List.length_nil, Nat.reduceAdd, Nat.reduceSub, Array.replicate_succ, Array.replicate_zero, List.push_toArray, List.append_toArray, List.nil_append, List.cons_append]
  gi_wp2
  gi_loopw [3] (fun i wr => ∃ k : Nat, k ≤ 32 ∧ i = .int .i64 ((32 * k : Nat) : Int) ∧ J (upto at32 k) wr ∧ wr.cell? ⟨Bs, 0, none⟩ = some (.slice (some ⟨b, off, none⟩) 1024 cap))
    (fun i _ => 1024 - (intOf i).toNat)
  case atStart => exact ⟨0, Nat.zero_le _, rfl, h0, hc⟩
  case round =>
    obtain ⟨k, hk, rfl, hJs, hcx⟩ := hrel
    by_cases hlt : k < 32
    · obtain ⟨fn, tmps, assign, body, hy, hR⟩ := hY _ (at32 k) wr hJs (by rw [upto_length]; exact hlt)
      rw [at32_val hlt] at hy
      gi_wp2
      refine hR.mono ?_
      rintro e W3 (⟨rfl, hJ3, hk3⟩ | ⟨rfl, hJx3⟩)
      · gi_wp2
        go_roundw
        case rel => exact ⟨k + 1, by omega, by go_num, by rw [upto_succ]; exact hJ3, (hKc _ _ hk3).trans hcx⟩
        case measure => simp [intOf]; omega
      · gi_wp2
        refine bodyPost_ret (results_none rfl _ _ _) rfl ?_
        exact ⟨⟨_, rfl⟩, .inr ⟨_, ⟨k + 1, by omega, (upto_succ _ _).symm⟩, hJx3⟩⟩
    · obtain rfl : k = 32 := by omega
      gi_wp2
      go_end0
      exact ⟨⟨_, rfl⟩, .inl ⟨_, rfl, hJs⟩⟩

theorem rows_stops (n : Nat) (hn : 1 ≤ n) (Bs b off cap : Nat) (hcap : 1024 ≤ cap) (hcb : cap ≤ 1000000000) (Kp : World → World → Prop) (hKc : ∀ X Y, Kp X Y → Y.cell? ⟨Bs, 0, none⟩ = X.cell? ⟨Bs, 0, none⟩) (w : World)
    (hc : w.cell? ⟨Bs, 0, none⟩ = some (.slice (some ⟨b, off, none⟩) 1024 cap)) :
    SeqStopsK Fence.wide n Try.prog 86 #[.pointer (some ⟨Bs, 0, none⟩)] (fun x : Below32 => #[Value.slice (some ⟨b, off + 32 * x.1, none⟩) 32 (cap - 32 * x.1)]) Kp (fun ys => ys = upto at32 32) (fun pre => ∃ k, k ≤ 32 ∧ pre = upto at32 k) 32 w := fun l J Jx W hW _ _ hY h0 =>
  rows1_in n hn l Bs b off cap hcap hcb Kp hKc J Jx hY W ((hW.cell (p := ⟨Bs, 0, none⟩) (lt_of_cell hc)).trans hc) h0

theorem rows_c (b off n cap : Nat) (w : World) : Calls Try.prog 71 #[.slice (some ⟨b, off, none⟩) n cap] w fun e w' => e = .returned (.func (.func 86) #[] #[.pointer (some ⟨w.heap.size, 0, none⟩)]) ∧ w' = w.alloc (.cells #[.slice (some ⟨b, off, none⟩) n cap] 22) := by
  go_enter Try.func71, Try.ntmps71
  go_wp2
  go_ret
  exact ⟨rfl, rfl⟩

/-- an entry as read: a free one where there is none -/
def entRd (f : Nat → Nat) : Nat × ByteArray := if eOk f then (eIno f, eName f) else (0, ⟨#[]⟩)
theorem eread_r (B o cap : Nat) (f : Nat → Nat) (hf : ∀ k, f k < 256) (w : World) (h : RdB w B o 32 f) (hcap : 32 ≤ cap) :
    Calls Try.prog 72 #[.slice (some ⟨B, o, none⟩) 32 cap] w fun e w' => (∃ er : Int, e = .returned (.tuple #[.agg #[.int .i64 (entRd f).1, .string (entRd f).2], .int .i64 er])) ∧ Below w.heap.size w w' := by
  refine (eread_c B o cap f hf w h hcap).mono ?_
  rintro e w' ⟨h1, h2, h3⟩
  refine ⟨?_, h3⟩
  cases hk : eOk f with
  | true => exact ⟨0, by rw [h1 hk]; simp [entRd, hk]⟩
  | false => exact ⟨5, by rw [h2 hk]; simp [entRd, hk]⟩
/-- the values of n entries -/
def entsL (es : Nat → Nat × ByteArray) : Nat → List Value
  | 0 => []
  | n + 1 => entsL es n ++ [.int .i64 (es n).1, .string (es n).2]
theorem entsL_length (es : Nat → Nat × ByteArray) : ∀ n, (entsL es n).length = n * 2
  | 0 => rfl
  | n + 1 => by simp [entsL, entsL_length es n]; omega
end Go.Proofs.Ytolbahfbhcpgdaa
end

section
/- The entries of a block, read. -/
namespace Go.Proofs.Ytolbahfbhcpgdaa
open Go.RowKit Go.Shelf
attribute [local go_sem] Oper.semAt_some

theorem infoE : (Try.prog.info? 38).map (fun i => (i.zero, i.size, i.bytes)) = some (some (.agg #[.int .i64 0, .string ⟨#[]⟩]), 2, 24) := by kernel_rfl
/-- the k-th entry of a block -/
def blkE (f : Nat → Nat) (k : Nat) : Nat × ByteArray := entRd fun j => f (32 * k + j)
def cellsE (e : Nat × ByteArray) : List Value := [.int .i64 e.1, .string e.2]
theorem flat_upto (E : Nat → Nat × ByteArray) : ∀ n, n ≤ 32 → (upto at32 n).flatMap (fun x => cellsE (E x.1)) = entsL E n
  | 0, _ => rfl
  | n + 1, h => by
    rw [upto_succ, List.flatMap_append, flat_upto E n (by omega)]
    simp [entsL, cellsE, at32_val (show n < 32 by omega)]

theorem cells_new2 (w : World) (B : Nat) (x y : Value) (t : TypeId) (hB : w.heap.size = B) : ∀ j u, [x, y][j]? = some u → (w.alloc (.cells #[x, y] t)).cell? ((⟨B, 0, none⟩ : Addr).add j) = some u := by
  subst hB
  intro j u h
  have hb := Blk.new (e := t) w [x, y]
  have := hb.cell j
  rw [h] at this
  simpa [Addr.add_lit] using this
theorem ownFrom_size {β : Type} {B n : Nat} : OwnFrom B (fun (_ : β) W => n ≤ W.heap.size) := fun _ _ _ _ h hg _ => Nat.le_trans h hg.size
/-- below n₀, and of block B, nothing changes -/
structure KeepB (n₀ B : Nat) (W W' : World) : Prop where
  below : Below n₀ W W'
  blk : W'.heap[B]? = W.heap[B]?
theorem KeepB.cell {n₀ B : Nat} {W W' : World} (h : KeepB n₀ B W W') : W'.cell? ⟨B, 0, none⟩ = W.cell? ⟨B, 0, none⟩ := World.cell?_of_block (w := W) h.blk
theorem KeepB.trans {n₀ B : Nat} {X Y Z : World} (h : KeepB n₀ B X Y) (k : KeepB n₀ B Y Z) : KeepB n₀ B X Z := ⟨h.below.trans k.below, k.blk.trans h.blk⟩
theorem KeepB.put {n₀ B : Nat} {W : World} {l : Nat} {o : Obj} (hl : n₀ ≤ l) (hB : B ≠ l) (h : W.heap[l]? = some o) (o' : Obj) : KeepB n₀ B W (W.putObj l o') :=
  ⟨(Below.refl n₀ W).grown (grownBy_putObj' W l o') (by have := (Array.getElem?_eq_some_iff.1 h).1; omega) (fun k e => by cases e; exact hl), (grownBy_putObj' W l o').block B |> fun f => by
    by_cases hb : B < W.heap.size
    · exact f hb (fun e => hB (Option.some.inj e))
    · rw [Array.getElem?_eq_none (by simp; omega), Array.getElem?_eq_none (by omega)]⟩

set_option maxRecDepth 100000 in
set_option maxHeartbeats 4000000 in
theorem eblock_c (b o cap : Nat) (f : Nat → Nat) (hf : ∀ k, f k < 256) (w : World) (h : RdB w b o 1024 f) (hcap : 1024 ≤ cap) (hcb : cap ≤ 1000000000) :
    Calls Try.prog 50 #[.slice (some ⟨b, o, none⟩) 1024 cap] w fun e w' => ∃ v, e = .returned v ∧ w'.ownsRow w.heap.size 38 2 v 32 (entsL (blkE f) 32) ∧ Below w.heap.size w w' := by
  obtain ⟨i0, hi, hz0, hz1, hz2⟩ := info_parts infoE
  have HR := Lib.hid h
  have hbl := lt_of_cell (h 0 (by omega))
  clear h
  refine (callsIn_wide (n := 5)).1 ?_
  have h1 : 1 ≤ 5 - 1 - 1 := by omega
  refine callsIn_of_wp_marks Try.func50 rfl trivial ?_ rfl
  simp only [Try.ntmps50, List.size_toArray, List.length_cons, List.length_nil, Nat.reduceAdd, Nat.reduceSub, Array.replicate_succ, Array.replicate_zero, List.push_toArray, List.append_toArray, List.nil_append, List.cons_append]
  gi_wp2_with (refine ⟨trivial, ?_⟩; gi_at_call 71; refine (callsIn_wide.2 (rows_c b o 1024 cap _)).mono ?_; rintro e w' ⟨rfl, rfl⟩)
  have bO := Boxed.new w 39 (.slice none 0 0)
  have bN := Boxed.new (w.alloc (.cells #[.slice none 0 0] 39)) 22 (.slice (some ⟨b, o, none⟩) 1024 cap)
  rw [World.size_alloc] at bN
  have hB0 : Below w.heap.size w ((w.alloc (.cells #[.slice none 0 0] 39)).alloc (.cells #[.slice (some ⟨b, o, none⟩) 1024 cap] 22)) := ((Below.refl _ w).alloc (Nat.le_refl _) _).alloc (by simp) _
  refine wpIn_rangeFunc_ownG (F := Fence.wide) rfl (by decide) (gf := 86) (lb := #[.pointer (some ⟨w.heap.size + 1, 0, none⟩)]) rfl trivial (enters_of Try.func86 (by kernel_rfl) rfl)
    (rows_stops 4 (by omega) (w.heap.size + 1) b o cap hcap hcb (KeepB w.heap.size (w.heap.size + 1)) (fun X Y h => h.cell) _ bN.cell) (fun h k => h.trans k) (fun W l o o' hl ho _ _ => KeepB.put (by simp at hl; omega) (by simp at hl; omega) ho o') (Below.refl _ _) (fun _ => rfl)
    (fun (pre : List Below32) W => (∃ v, Boxed W w.heap.size 39 v ∧ W.ownsRow (w.heap.size + 2) 38 2 v pre.length (pre.flatMap (fun x => cellsE (blkE f x.1))) ∧ True) ∧ Below w.heap.size w W ∧ w.heap.size + 2 ≤ W.heap.size)
    (fun _ _ _ => False)
    (OwnFrom.and (Own.from (holdsRow_own (w.heap.size + 2) w.heap.size 39 38 2 (fun (pre : List Below32) => pre.length) (fun (pre : List Below32) => pre.flatMap (fun x => cellsE (blkE f x.1))) (fun _ _ => True)) _) (OwnFrom.and (ownFrom_below (Nat.le_refl _) (by simp; omega)) ownFrom_size))
    (fun _ _ _ _ _ hs _ _ => hs)
    ⟨⟨_, bO.alloc _, World.ownsRow_nil _ _ _ _, trivial⟩, hB0, by simp⟩
    (fun x => { tmps := #[.slice (some ⟨b, o, none⟩) 1024 cap, undef, .slice none 0 0, .pointer (some ⟨w.heap.size, 0, none⟩), .slice (some ⟨b, o + 32 * x.1, none⟩) 32 (cap - 32 * x.1), undef, undef, .slice (some ⟨b, o, none⟩) 1024 cap, .int .i64 1024, .bool false, .slice (some ⟨b, o, none⟩) 1024 cap, .func (.func 86) #[] #[.pointer (some ⟨w.heap.size + 1, 0, none⟩)], .slice (some ⟨b, o + 32 * x.1, none⟩) 32 (cap - 32 * x.1), undef, undef, undef, undef, undef, undef, undef, undef, undef, undef], defers := [] }) ?assign ?body ?done ?stop
  case assign =>
    intro l x W K hK
    gi_wp2
    exact hK
  case body =>
    rintro l pre x W ⟨⟨v, hv, hrow, _⟩, hB, hK2⟩ _
    have hRW := (HR.out.below hB).sub (32 * x.1) 32 (by have := x.2; omega)
    have hcx : 32 ≤ cap - 32 * x.1 := by have := x.2; omega
    have hvl := hv.lt
    have hB2 : w.heap.size + 2 ≤ W.heap.size := hK2
    have hcv := hv.cell
    have hfv := hv.frozen
    gi_wp2_with (first
      | (refine ⟨trivial, ?_⟩; gi_at_call 72; refine (CallsIn.inRound l (callsIn_wide.2 (eread_r b (o + 32 * x.1) (cap - 32 * x.1) _ (fun k => hf _) _ hRW hcx))).mono ?_; rintro e w1 ⟨⟨er, rfl⟩, hb1⟩; obtain ⟨hc1, hf1⟩ := bcell hb1; have hzz := hb1.size; have hz1' : w.heap.size < w1.heap.size := by omega
         have hv1 : Boxed w1 w.heap.size 39 v := (hb1.block _ hvl).trans hv
         have hrow1 := own_below hrow hb1
         have hk1 : KeepsOthers W w1 := ⟨hzz, fun k o h _ => (hb1.block k (Array.getElem?_eq_some_iff.1 h).1).trans h⟩)
      | (gi_at_builtin; refine wpListIn_append_own _ rfl _ _ 39 rfl (w.heap.size + 2) 38 i0 (.agg #[.int .i64 0, .string ⟨#[]⟩]) 2 24 Try.underlying39 hi hz0 hz1 hz2 rfl (by decide) _ _ _ rfl ((hrow1.alloc _).alloc _) ⟨_, 0, none⟩ 1 1 (cellsE (blkE f x.1)) rfl rfl (cells_new2 _ _ _ _ _ (by simp)) (by simp [cellsE, Value.oneCell']) (by unfold maxLen; omega) (by omega) (by have := hB2; simp; omega) ?_; intro v' w2 hown' hgrow _; obtain ⟨g', cap', rfl⟩ := ownsRow_succ hown'; obtain ⟨hv2, hv3, hr3, hk3, hb3⟩ := (hv1.alloc _).appended (n₀ := w.heap.size) (by decide) (own_mono (hrow1.alloc _) (by omega)) (by have := hB.size; simp; omega) (Nat.le_refl _) (own_mono hown' (by omega)) hgrow; have hc2 := hv2.cell; have hf2 := hv2.frozen; have hl2 := hv2.lt))
    have hr4 := hown'.kept (grownBy_setCell' w2 w.heap.size (.slice (some ⟨g', 0, none⟩) (pre.length + 1) cap')) (.inr (hv2.not_row (by decide) hown').symm)
    refine ⟨(hk1.trans ((KeepsOthers.alloc _ _).trans hk3)).from _, ⟨((hb1.mono (by have := hB.size; omega)).alloc (by have := hB.size; omega) _).trans hb3, ?kb⟩, ⟨_, hv3, by simpa [List.flatMap_append] using hr4, trivial⟩, hB.trans (((hb1.mono (by have := hB.size; omega)).alloc (by have := hB.size; omega) _).trans hb3), by have := hb3.size; simp at this ⊢; omega⟩
    have hs2 := hgrow.size
    simp only [World.size_alloc] at hs2
    rw [Below.heap_setCell _ _ _ _ (by simp), hgrow.block _ (by simp; omega) (by
      intro e; have := (hrow.lt _ e.symm).1; omega), Below.heap_alloc _ _ _ (by simp; omega), Below.heap_alloc _ _ _ (by omega), hb1.block _ (by omega)]
  case done =>
    rintro D ys W hD rfl ⟨⟨v, hv, hrow, _⟩, hB, _⟩ hK
    have hc := hv.cell
    gi_wp2
    refine ⟨by simp, .inl ⟨_, _, rfl, run_takeDeferred hK, ?_⟩⟩
    rw [flat_upto _ 32 (by omega), upto_length] at hrow
    exact ⟨_, results_tmp rfl _ _ _, v, rfl, own_mono (ownsRow_putObj hrow _ hK rfl) (by omega), hB.trans (belowK_b (w := w) (Nat.le_refl _) W D _ _ (by simp at hD; omega) hK rfl rfl)⟩
  case stop =>
    rintro D c pre W _ _ h _
    exact h.elim
end Go.Proofs.Ytolbahfbhcpgdaa
end

section
/- Inodes as bytes: what may be packed. -/
namespace Go.Proofs.Ytolbahfbhcpgdaa
open Go.RowKit

/-- memory holds n ints, all naturals -/
def RdN (w : World) (b o n : Nat) (f : Nat → Nat) : Prop := ∀ k, k < n → w.cell? ⟨b, o + k, none⟩ = some (.int .i64 ((f k : Nat) : Int))
theorem RdN.below {w w' : World} {b o n : Nat} {f : Nat → Nat} (h : RdN w b o n f) (hb : Below w.heap.size w w') : RdN w' b o n f :=
  fun k hk => by rw [hb.cell (p := ⟨b, o + k, none⟩) (lt_of_cell (h k hk))]; exact h k hk
def fitB (width : Nat) (f : Nat → Nat) (n : Nat) : Bool := (List.range n).all fun k => decide (f k < 256 ^ width)
theorem fitB_iff {width n : Nat} {f : Nat → Nat} : fitB width f n = true ↔ ∀ k, k < n → f k < 256 ^ width := by simp [fitB]
theorem fitB_succ (width : Nat) (f : Nat → Nat) (n : Nat) : fitB width f (n + 1) = (fitB width f n && decide (f n < 256 ^ width)) := by simp [fitB, List.range_succ]
theorem shr_fit (x width : Nat) : ((x : Int) / 2 ^ (8 * width) != 0) = !decide (x < 256 ^ width) := by
  rw [shr_byte]
  by_cases h : x < 256 ^ width
  · rw [Nat.div_eq_of_lt h]; simp [h]
  · have : 0 < x / 256 ^ width := Nat.div_pos (by omega) (Nat.pow_pos (by decide))
    have h2 : ((x / 256 ^ width : Nat) : Int) ≠ 0 := by omega
    simp [h, h2] at *
    omega

theorem fits_c (b o n cap width : Nat) (f : Nat → Nat) (w : World) (hw : width ≤ 7) (hn : n ≤ 1000000000) (h : RdN w b o n f) :
    Calls Try.prog 88 #[.int .i64 width, .slice (some ⟨b, o, none⟩) n cap] w fun e w' => e = .returned (.bool (fitB width f n)) ∧ w = w' := by
  go_enter Try.func88, Try.ntmps88
  go_wp2
  go_loop [6, 9, 11] (fun _ i _ => ∃ k : Nat, k ≤ n ∧ i = .int .i64 k ∧ fitB width f k = true) (fun _ i _ => n - (intOf i).toNat)
  case atStart => exact ⟨0, Nat.zero_le _, rfl, rfl⟩
  case round =>
    obtain ⟨k, hk, rfl, hfit⟩ := hrel
    by_cases hlt : k < n
    · have hc := h k hlt
      have hs := shr_fit (f k) width
      cases hd : decide (f k < 256 ^ width) with
      | true =>
        rw [hd] at hs
        go_wp2
        go_round
        case rel => exact ⟨k + 1, by omega, by go_num, by rw [fitB_succ, hfit, hd]; rfl⟩
        case measure => simp [intOf]; omega
      | false =>
        rw [hd] at hs
        go_wp2
        go_ret
        refine ⟨?_, rfl⟩
        cases hfb : fitB width f n with
        | false => rfl
        | true => have := fitB_iff.1 hfb k hlt; simp at hd; omega
    · obtain rfl : k = n := by omega
      go_wp2
      go_ret
      exact ⟨rfl, rfl⟩
theorem infoI : (Try.prog.info? 49).map (fun i => (i.zero, i.size, i.bytes)) = some (some (.agg #[.int .i64 0, .int .i64 0, .int .i64 0, .int .i64 0, .int .i64 0, .int .i64 0, .int .i64 0, .int .i64 0, .int .i64 0, .int .i64 0, .int .i64 0, .int .i64 0, .int .i64 0]), 13, 104) := by kernel_rfl
end Go.Proofs.Ytolbahfbhcpgdaa
end

section
/- Inodes compared with the free one. -/
namespace Go.Proofs.Ytolbahfbhcpgdaa
open Go.RowKit

/-- an inode's thirteen numbers: kind, links, size, the pointers -/
abbrev InoN := Nat → Nat
def inoV (i : InoN) : Value := .agg #[.int .i64 (i 0 : Nat), .int .i64 (i 1 : Nat), .int .i64 (i 2 : Nat), .int .i64 (i 3 : Nat), .int .i64 (i 4 : Nat), .int .i64 (i 5 : Nat), .int .i64 (i 6 : Nat), .int .i64 (i 7 : Nat), .int .i64 (i 8 : Nat), .int .i64 (i 9 : Nat), .int .i64 (i 10 : Nat), .int .i64 (i 11 : Nat), .int .i64 (i 12 : Nat)]
def noIno : InoN := fun _ => 0
def allZ (i : InoN) : Bool := (List.range 13).all fun k => decide (i k = 0)
theorem infoInt : (Try.prog.info? 3).map (fun i => (i.zero, i.size, i.bytes)) = some (some (.int .i64 0), 1, 8) := by kernel_rfl
theorem ino_cmp (i : InoN) (w : World) : (Op.equalIn 10000 49 (inoV i) (.agg #[.int .i64 0, .int .i64 0, .int .i64 0, .int .i64 0, .int .i64 0, .int .i64 0, .int .i64 0, .int .i64 0, .int .i64 0, .int .i64 0, .int .i64 0, .int .i64 0, .int .i64 0])).run Try.prog w = .ok (allZ i) w := by
  have u3 := Try.underlying3
  have a3 := Try.isAgg3
  have z3 := Try.sizeOf3
  have u56 := Try.underlying47
  have a56 := Try.isAgg47
  have z56 := Try.sizeOf47
  have hS : Try.prog.underlying 49 = some (.struct (Try.prog.fieldsOf 49)) := by kernel_rfl
  have hp : Try.prog.stoodInHeld 49 = false := by kernel_rfl
  obtain ⟨j0, hj0, hy0, hy1, hy2⟩ := info_parts infoInt
  unfold inoV
  rw [show (10000 : Nat) = 9999 + 1 from rfl, run_equalIn_agg w 9999 49 _ _ hS hp]
  simp only [Program.fieldsOf, Try.underlying49]
  have hA : ∀ (W : World) (a0 a1 a2 a3 a4 a5 a6 a7 : Nat), (Op.equalIn 9999 47 (.agg #[.int .i64 (a0 : Nat), .int .i64 (a1 : Nat), .int .i64 (a2 : Nat), .int .i64 (a3 : Nat), .int .i64 (a4 : Nat), .int .i64 (a5 : Nat), .int .i64 (a6 : Nat), .int .i64 (a7 : Nat)]) (.agg #[.int .i64 0, .int .i64 0, .int .i64 0, .int .i64 0, .int .i64 0, .int .i64 0, .int .i64 0, .int .i64 0])).run Try.prog W = .ok (decide (a0 = 0 ∧ a1 = 0 ∧ a2 = 0 ∧ a3 = 0 ∧ a4 = 0 ∧ a5 = 0 ∧ a6 = 0 ∧ a7 = 0)) W := by
    intro W a0 a1 a2 a3 a4 a5 a6 a7
    rw [show (9999 : Nat) = 9998 + 1 from rfl, run_equalIn_array W 9998 _ _ u56 hj0]
    have hcl : Try.prog.cellsOf 3 = 1 := by kernel_rfl
    go_simp
    simp only [Op.eqItems]
    go_simp
    by_cases h0 : a0 = 0 <;> by_cases h1 : a1 = 0 <;> by_cases h2 : a2 = 0 <;> by_cases h3 : a3 = 0 <;> by_cases h4 : a4 = 0 <;> by_cases h5 : a5 = 0 <;> by_cases h6 : a6 = 0 <;> by_cases h7 : a7 = 0 <;> simp [h0, h1, h2, h3, h4, h5, h6, h7]
  have hz : allZ i = (decide (i 0 = 0) && (decide (i 1 = 0) && (decide (i 2 = 0) && (decide (i 3 = 0 ∧ i 4 = 0 ∧ i 5 = 0 ∧ i 6 = 0 ∧ i 7 = 0 ∧ i 8 = 0 ∧ i 9 = 0 ∧ i 10 = 0) && (decide (i 11 = 0) && decide (i 12 = 0)))))) := by
    rw [Bool.eq_iff_iff]
    simp only [allZ, List.all_eq_true, List.mem_range, Bool.and_eq_true, decide_eq_true_eq]
    constructor
    · intro h
      exact ⟨h 0 (by omega), h 1 (by omega), h 2 (by omega), ⟨h 3 (by omega), h 4 (by omega), h 5 (by omega), h 6 (by omega), h 7 (by omega), h 8 (by omega), h 9 (by omega), h 10 (by omega)⟩, h 11 (by omega), h 12 (by omega)⟩
    · intro ⟨h0, h1, h2, ⟨h3, h4, h5, h6, h7, h8, h9, h10⟩, h11, h12⟩ k hk
      match k, hk with
      | 0, _ | 1, _ | 2, _ | 3, _ | 4, _ | 5, _ | 6, _ | 7, _ | 8, _ | 9, _ | 10, _ | 11, _ | 12, _ => assumption
  rw [hz]
  clear hz
  go_simp
  generalize i 0 = a, i 1 = b, i 2 = c, i 11 = d, i 12 = e
  by_cases ha : a = 0 <;> by_cases hb : b = 0 <;> by_cases hc : c = 0 <;> by_cases hd : d = 0 <;> by_cases he : e = 0 <;> simp [ha, hb, hc, hd, he]
  all_goals (generalize (decide (i 3 = 0) && _) = q; cases q <;> rfl)
end Go.Proofs.Ytolbahfbhcpgdaa
end
