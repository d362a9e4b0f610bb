/- Part of the road to RpCard: IPack, PPtr, EPB, SRead, Head. -/
import Derived.Deep.RegionHeld3
import Derived.Deep.RegionLawGrows
import Derived.Deep.AppendLies
import Derived.Deep.DeepCutAuto
import Derived.Deep.RegionLaw
import Derived.Test.YtbeabehebenocaaGreatDoorRpo02
import Derived.Test.YtbeabehebenocaaGreatDoorRpo01
set_option linter.all false
set_option linter.unusedSimpArgs false
set_option linter.unusedVariables false
set_option linter.unusedSectionVars false
section
/- Inodes as bytes, packed. -/
namespace Go.Proofs.YtbeabehebenocaaGreatDoor
open Go.RowKit

def inoOk (i : InoN) : Bool := decide (i 0 ≤ 2) && (decide (i 0 ≠ 0) || allZ i)
/-- the first k pointers behind the first eight bytes -/
def inoK (i : InoN) : Nat → Nat → Nat
  | 0 => catF 4 (catF 2 (byteN (i 0)) (byteN (i 1))) (byteN (i 2))
  | k + 1 => catF (8 + 4 * k) (inoK i k) (byteN (i (3 + k)))
def inoF (i : InoN) : Nat → Nat := catF 48 (inoK i 10) (fun _ => 0)
theorem inoK_lt (i : InoN) : ∀ k j, inoK i k j < 256
  | 0 => catF_lt (catF_lt (byteN_lt _) (byteN_lt _)) (byteN_lt _)
  | k + 1 => catF_lt (inoK_lt i k) (byteN_lt _)
theorem inoF_lt (i : InoN) : ∀ j, inoF i j < 256 := catF_lt (inoK_lt i 10) (fun _ => by decide)
structure InoR (i : InoN) : Prop where
  k : i 0 < 65536
  l : i 1 < 65536
  s : i 2 < 4294967296
  p : ∀ k, 3 ≤ k → k < 13 → i k < 4294967296

theorem rd1 (w : World) (B : Nat) (x : Nat) (t : TypeId) (h : w.heap.size = B := by simp) : RdN (w.alloc (.cells #[.int .i64 (x : Int)] t)) B 0 1 (fun _ => x) := fun k hk => by
  subst h; obtain rfl : k = 0 := by omega
  rw [(Blk.new (e := t) w [.int .i64 (x : Int)]).cell]; rfl
theorem rd3 (w : World) (B : Nat) (x y z : Nat) (t : TypeId) (h : w.heap.size = B := by simp) : RdN (w.alloc (.cells #[.int .i64 (x : Int), .int .i64 (y : Int), .int .i64 (z : Int)] t)) B 0 3 (fun k => if k = 0 then x else if k = 1 then y else z) := fun k hk => by
  subst h
  rw [(Blk.new (e := t) w [.int .i64 (x : Int), .int .i64 (y : Int), .int .i64 (z : Int)]).cell]
  match k, hk with
  | 0, _ | 1, _ | 2, _ => rfl
def inoL (i : InoN) : List Value := [.int .i64 (i 0 : Nat), .int .i64 (i 1 : Nat), .int .i64 (i 2 : Nat), .int .i64 (i 3 : Nat), .int .i64 (i 4 : Nat), .int .i64 (i 5 : Nat), .int .i64 (i 6 : Nat), .int .i64 (i 7 : Nat), .int .i64 (i 8 : Nat), .int .i64 (i 9 : Nat), .int .i64 (i 10 : Nat), .int .i64 (i 11 : Nat), .int .i64 (i 12 : Nat)]
theorem inoL_get (i : InoN) (k : Nat) (h : k < 13) : (inoL i)[k]? = some (.int .i64 (i k : Nat)) := by
  match k, h with
  | 0, _ | 1, _ | 2, _ | 3, _ | 4, _ | 5, _ | 6, _ | 7, _ | 8, _ | 9, _ | 10, _ | 11, _ | 12, _ => rfl
theorem inoL_rd {w : World} {B : Nat} {i : InoN} {t : TypeId} (h : Blk t w B (inoL i)) : RdN w B 3 8 (fun k => i (3 + k)) := fun k hk => by
  rw [h.cell, inoL_get _ _ (by omega)]
theorem inoL_new (w : World) (i : InoN) (t : TypeId) : Blk t (w.alloc (.cells #[.int .i64 (i 0 : Nat), .int .i64 (i 1 : Nat), .int .i64 (i 2 : Nat), .int .i64 (i 3 : Nat), .int .i64 (i 4 : Nat), .int .i64 (i 5 : Nat), .int .i64 (i 6 : Nat), .int .i64 (i 7 : Nat), .int .i64 (i 8 : Nat), .int .i64 (i 9 : Nat), .int .i64 (i 10 : Nat), .int .i64 (i 11 : Nat), .int .i64 (i 12 : Nat)] t)) w.heap.size (inoL i) := Blk.new (e := t) w (inoL i)
theorem rdD (w : World) (i : InoN) (t : TypeId) (o o2 : Obj) : RdN (((w.alloc (.cells #[.int .i64 (i 0 : Nat), .int .i64 (i 1 : Nat), .int .i64 (i 2 : Nat), .int .i64 (i 3 : Nat), .int .i64 (i 4 : Nat), .int .i64 (i 5 : Nat), .int .i64 (i 6 : Nat), .int .i64 (i 7 : Nat), .int .i64 (i 8 : Nat), .int .i64 (i 9 : Nat), .int .i64 (i 10 : Nat), .int .i64 (i 11 : Nat), .int .i64 (i 12 : Nat)] t)).alloc o).alloc o2) w.heap.size 3 8 (fun k => i (3 + k)) :=
  inoL_rd (((inoL_new w i t).alloc o).alloc o2)

theorem step_bytes {P : Program} {ops : Array Oper} {o : Oper} {a : Act} {w : World} {K : Act → World → Prop} {Q : Exit → Act → World → Prop} {E : Prop} (hgd : o.guard = none) (s x : Operand) (t : TypeId)
    (ho : o.op = .call { callee := .builtin .append, args := #[s, x], argTypes := #[t, t] })
    (base : Nat) (e : TypeId) (i : TypeInfo) (ht : P.underlying t = some (.slice e)) (hi : P.info? e = some i) (hz : i.zero = some (.int .u8 0)) (hsize : i.size = 1) (hby : i.bytes = 1)
    (v : Value) (n : Nat) (f : Nat → Nat) (hs : a.eval s = v) (hown : w.ownsRow base e 1 v n (bytesL f n))
    (b2 o2 m c2 : Nat) (g : Nat → Nat) (hx : a.eval x = .slice (some ⟨b2, o2, none⟩) m c2) (hr : RdB w b2 o2 m g) (hm : 0 < m) (hnm : n + m ≤ 1000000000) (hbase : base ≤ w.heap.size)
    (h : ∀ q cap w', w'.ownsRow base e 1 (.slice (some ⟨q, 0, none⟩) (n + m) cap) (n + m) (bytesL (catF n f g) (n + m)) → w.grownBy w' v.ownBlock → (v.ownBlock = some q ∨ w.heap.size ≤ q) → K (a.put o.dst (.slice (some ⟨q, 0, none⟩) (n + m) cap)) w') :
    if Region.wanted o (yielded ops a.tmps) = true then Oper.wp P o a w K Q else E := by
  refine step_append_lies w hgd s x t ho base e i (.int .u8 0) 1 1 ht hi hz hsize hby rfl (by decide) v n _ hs hown ⟨b2, o2, none⟩ m c2 (bytesL g m) hx (by simp [bytesL_length]) ?_ ?_ hm (by unfold maxLen; omega) (by omega) hbase _ rfl ?_
  · intro j u hj
    have hl : j < m := by
      by_cases hlt : j < m
      · exact hlt
      · rw [List.getElem?_eq_none (by simp [bytesL_length]; omega)] at hj; cases hj
    rw [bytesL_get _ _ _ hl] at hj
    cases hj
    have := hr j hl
    cases j with
    | zero => simpa [Addr.add_lit] using this
    | succ j => simpa [Addr.add_lit] using this
  · intro u hu
    simp only [bytesL, List.mem_map] at hu
    obtain ⟨k, _, rfl⟩ := hu
    rfl
  · intro q cap w' h1 h2 h3 _
    rw [bytesL_append] at h1
    exact h q cap w' h1 h2 (h3.imp id fun e => by omega)

theorem keepI {w w' : World} {i : InoN} (h : Blk 40 w' w.heap.size (inoL i)) (hB : Below w.heap.size w w') : w'.cell? ⟨w.heap.size, 0, none⟩ = some (.int .i64 (i 0 : Nat)) ∧ w'.cell? ⟨w.heap.size, 1, none⟩ = some (.int .i64 (i 1 : Nat)) ∧ w'.cell? ⟨w.heap.size, 2, none⟩ = some (.int .i64 (i 2 : Nat)) ∧ Blk 40 w' w.heap.size (inoL i) ∧ w.heap.size < w'.heap.size ∧ Below w.heap.size w w' :=
  ⟨by rw [h.cell]; rfl, by rw [h.cell]; rfl, by rw [h.cell]; rfl, h, h.lt, hB⟩

def intsL (f : Nat → Nat) (n : Nat) : List Value := (List.range n).map fun k => Value.int .i64 ((f k : Nat) : Int)
theorem intsL_get (f : Nat → Nat) (n k : Nat) (h : k < n) : (intsL f n)[k]? = some (.int .i64 ((f k : Nat) : Int)) := by simp [intsL, h]
theorem intsL_length (f : Nat → Nat) (n : Nat) : (intsL f n).length = n := by simp [intsL]
theorem rdn_news {w : World} {b o n : Nat} {f : Nat → Nat} (h : RdN w b o n f) : ∀ j u, (intsL f n)[j]? = some u → w.cell? ((⟨b, o, none⟩ : Addr).add j) = some u := by
  intro j u hj
  have hl : j < n := by
    by_cases hlt : j < n
    · exact hlt
    · rw [List.getElem?_eq_none (by simp [intsL_length]; omega)] at hj; cases hj
  rw [intsL_get _ _ _ hl] at hj
  cases hj
  have := h j hl
  cases j with
  | zero => simpa [Addr.add_lit] using this
  | succ j => simpa [Addr.add_lit] using this
theorem own_rdn {w : World} {base e n g cap : Nat} {f : Nat → Nat} (h : w.ownsRow base e 1 (.slice (some ⟨g, 0, none⟩) n cap) n (intsL f n)) (hn : 0 < n) : RdN w g 0 n f := by
  obtain ⟨hl, h⟩ := h
  rcases h with ⟨_, h⟩ | ⟨g', cap, cur, e, hb, hg, hc, hm, hs, ht⟩
  · omega
  · cases e
    intro k hk
    rw [Nat.zero_add, cell_of_row w g k cur _ (0, 0) hg]
    have h1 := intsL_get f n k hk
    rw [← ht, List.getElem?_take_of_lt (by omega)] at h1
    simpa using h1
theorem intsL_ten (i : InoN) : intsL (fun k => i (3 + k)) 8 ++ [.int .i64 (i 11 : Nat), .int .i64 (i 12 : Nat)] = intsL (fun k => i (3 + k)) 10 := rfl
theorem keepI2 {w w' : World} {i : InoN} {e : TypeId} {v : Value} {xs : List Value} (h : Blk 40 w' w.heap.size (inoL i)) (ho : w'.ownsRow (w.heap.size + 1) e 1 v 8 xs) {w6 : World} (h6 : w6.heap.size ≤ w'.heap.size) (hB : Below w.heap.size w w') : w'.cell? ⟨w.heap.size, 11, none⟩ = some (.int .i64 (i 11 : Nat)) ∧ w'.cell? ⟨w.heap.size, 12, none⟩ = some (.int .i64 (i 12 : Nat)) ∧ Blk 40 w' w.heap.size (inoL i) ∧ w'.ownsRow (w.heap.size + 1) e 1 v 8 xs ∧ w.heap.size < w'.heap.size ∧ w6.heap.size ≤ w'.heap.size ∧ Below w.heap.size w w' :=
  ⟨by rw [h.cell]; rfl, by rw [h.cell]; rfl, h, ho, h.lt, h6, hB⟩

set_option maxRecDepth 100000 in
set_option maxHeartbeats 1000000 in
theorem ipack_c (i : InoN) (hr : InoR i) (w : World) :
    Calls Tryz.prog 83 #[inoV i] w fun e w' => Below w.heap.size w w' ∧
      (inoOk i = true → ∃ B cap, e = .returned (.tuple #[.slice (some ⟨B, 0, none⟩) 64 cap, .int .i64 0]) ∧ w'.ownsRow w.heap.size 5 1 (.slice (some ⟨B, 0, none⟩) 64 cap) 64 (bytesL (inoF i) 64)) ∧
      (inoOk i = false → e = .returned (.tuple #[.slice none 0 0, .int .i64 1])) := by
  obtain ⟨i0, hi0, hz0, hz1, hz2⟩ := info_parts info8
  obtain ⟨j0, hj0, hy0, hy1, hy2⟩ := info_parts infoInt
  have HR := Lib.hid hr
  unfold inoV
  have l1 : i 1 < 65536 := hr.l
  have hk := hr.k
  clear hr
  by_cases hk2 : 2 < i 0
  · have ho : inoOk i = false := by simp [inoOk]; omega
    have Ho := Lib.hid ho; clear ho
    go_enter Tryz.func83, Tryz.ntmps83
    go_wp2
    go_ret2
    exact ⟨(Below.refl _ _).alloc (Nat.le_refl _) _, fun h => by (rw [Ho.out] at h; cases h), fun _ => rfl⟩
  · have F1 : fitB 2 (fun _ => i 1) 1 = true := fitB_iff.2 fun _ _ => by simpa using l1
    have F2 : fitB 4 (fun k => if k = 0 then i 2 else if k = 1 then i 11 else i 12) 3 = true := fitB_iff.2 fun k hk => by
      have h1 := HR.out.s; have h2 := HR.out.p 11 (by omega) (by omega); have h3 := HR.out.p 12 (by omega) (by omega)
      show (if k = 0 then i 2 else if k = 1 then i 11 else i 12) < 4294967296
      (repeat' split) <;> assumption
    have F3 : fitB 4 (fun k => i (3 + k)) 8 = true := fitB_iff.2 fun k hk => HR.out.p (3 + k) (by omega) (by omega)
    have HF1 := Lib.hid F1; have HF2 := Lib.hid F2; have HF3 := Lib.hid F3
    clear F1 F2 F3
    have d0 : decide ((i 0 : Int) < 0) = false := by simp
    have d1 : decide ((2 : Int) < (i 0 : Int)) = false := by simp; omega
    have hCmp := fun W => ino_cmp i W
    have gE : Tryz.prog.eqGuardType Tryz.prog.depth 40 = false := by kernel_rfl
    unfold inoV at hCmp
    by_cases hbad : i 0 = 0 ∧ allZ i = false
    · have e0 : (((i 0 : Nat) : Int) == 0) = true := by simp [hbad.1]
      have ho : inoOk i = false := by simp [inoOk, hbad.1, hbad.2]
      rw [hbad.2] at hCmp
      have Ho := Lib.hid ho; clear hbad ho
      go_enter Tryz.func83, Tryz.ntmps83
      have C1 : ∀ W B, RdN W B 0 1 (fun _ => i 1) → Calls Tryz.prog 101 #[.int .i64 2, .slice (some ⟨B, 0, none⟩) 1 1] W fun e w' => e = .returned (.bool true) ∧ W = w' := fun W B h => by
        have := fits_c B 0 1 1 2 _ W (by omega) (by omega) h; rwa [HF1.out] at this
      have C2 : ∀ W B, RdN W B 0 3 (fun k => if k = 0 then i 2 else if k = 1 then i 11 else i 12) → Calls Tryz.prog 101 #[.int .i64 4, .slice (some ⟨B, 0, none⟩) 3 3] W fun e w' => e = .returned (.bool true) ∧ W = w' := fun W B h => by
        have := fits_c B 0 3 3 4 _ W (by omega) (by omega) h; rwa [HF2.out] at this
      have C3 : ∀ W B, RdN W B 3 8 (fun k => i (3 + k)) → Calls Tryz.prog 101 #[.int .i64 4, .slice (some ⟨B, 3, none⟩) 8 8] W fun e w' => e = .returned (.bool true) ∧ W = w' := fun W B h => by
        have := fits_c B 3 8 8 4 _ W (by omega) (by omega) h; rwa [HF3.out] at this
      have HC1 := Lib.hid C1; have HC2 := Lib.hid C2; have HC3 := Lib.hid C3
      clear C1 C2 C3
      go_wp2_with (go_at_call 101; first
        | (with_reducible refine (HC1.out _ _ (rd1 _ _ _ _)).mono ?_; rintro e w1 ⟨rfl, rfl⟩)
        | (with_reducible refine (HC2.out _ _ (rd3 _ _ _ _ _ _)).mono ?_; rintro e w1 ⟨rfl, rfl⟩)
        | (with_reducible refine (HC3.out _ _ (rdD _ _ _ _ _)).mono ?_; rintro e w1 ⟨rfl, rfl⟩))
      go_ret2
      exact ⟨(((Below.refl _ _).alloc (Nat.le_refl _) _).alloc (by simp) _).alloc (by simp; omega) _, fun h => by (rw [Ho.out] at h; cases h), fun _ => rfl⟩
    · obtain ⟨z, e0, hCm, ho⟩ : ∃ z, (((i 0 : Nat) : Int) == 0) = z ∧ (z = true → allZ i = true) ∧ inoOk i = true := by
        by_cases h0 : i 0 = 0
        · have hz : allZ i = true := by
            cases h : allZ i with
            | true => rfl
            | false => exact absurd ⟨h0, h⟩ hbad
          exact ⟨true, by simp [h0], fun _ => hz, by simp [inoOk, h0, hz]⟩
        · exact ⟨false, by simpa using h0, fun h => (by cases h), by simp [inoOk, h0]; omega⟩
      have Ho := Lib.hid ho; clear ho hbad
      have hC2 : z = true → ∀ W, (Op.equalIn 10000 40 (.agg #[.int .i64 (i 0 : Nat), .int .i64 (i 1 : Nat), .int .i64 (i 2 : Nat), .int .i64 (i 3 : Nat), .int .i64 (i 4 : Nat), .int .i64 (i 5 : Nat), .int .i64 (i 6 : Nat), .int .i64 (i 7 : Nat), .int .i64 (i 8 : Nat), .int .i64 (i 9 : Nat), .int .i64 (i 10 : Nat), .int .i64 (i 11 : Nat), .int .i64 (i 12 : Nat)]) (.agg #[.int .i64 0, .int .i64 0, .int .i64 0, .int .i64 0, .int .i64 0, .int .i64 0, .int .i64 0, .int .i64 0, .int .i64 0, .int .i64 0, .int .i64 0, .int .i64 0, .int .i64 0])).run Tryz.prog W = .ok true W := fun h W => by
        have := hCmp W; rwa [hCm h] at this
      clear hCmp hCm
      cases z
      all_goals (try simp only [forall_const] at hC2)
      all_goals (
        go_enter Tryz.func83, Tryz.ntmps83
        have C1 : ∀ W B, RdN W B 0 1 (fun _ => i 1) → Calls Tryz.prog 101 #[.int .i64 2, .slice (some ⟨B, 0, none⟩) 1 1] W fun e w' => e = .returned (.bool true) ∧ W = w' := fun W B h => by
          have := fits_c B 0 1 1 2 _ W (by omega) (by omega) h; rwa [HF1.out] at this
        have C2 : ∀ W B, RdN W B 0 3 (fun k => if k = 0 then i 2 else if k = 1 then i 11 else i 12) → Calls Tryz.prog 101 #[.int .i64 4, .slice (some ⟨B, 0, none⟩) 3 3] W fun e w' => e = .returned (.bool true) ∧ W = w' := fun W B h => by
          have := fits_c B 0 3 3 4 _ W (by omega) (by omega) h; rwa [HF2.out] at this
        have C3 : ∀ W B, RdN W B 3 8 (fun k => i (3 + k)) → Calls Tryz.prog 101 #[.int .i64 4, .slice (some ⟨B, 3, none⟩) 8 8] W fun e w' => e = .returned (.bool true) ∧ W = w' := fun W B h => by
          have := fits_c B 3 8 8 4 _ W (by omega) (by omega) h; rwa [HF3.out] at this
        have HC1 := Lib.hid C1; have HC2 := Lib.hid C2; have HC3 := Lib.hid C3
        clear C1 C2 C3
        go_wp2_with (go_at_call 101; first
          | (with_reducible refine (HC1.out _ _ (rd1 _ _ _ _)).mono ?_; rintro e w1 ⟨rfl, rfl⟩)
          | (with_reducible refine (HC2.out _ _ (rd3 _ _ _ _ _ _)).mono ?_; rintro e w1 ⟨rfl, rfl⟩)
          | (with_reducible refine (HC3.out _ _ (rdD _ _ _ _ _)).mono ?_; rintro e w1 ⟨rfl, rfl⟩))
        have P0 : ∀ W, Calls Tryz.prog 102 #[.int .i64 (i 0 : Nat), .int .i64 2] W fun e w' => ∃ v, e = .returned v ∧ w'.ownsRow W.heap.size 5 1 v 2 (bytesL (byteN (i 0)) 2) ∧ Below W.heap.size W w' := fun W => put_c (i 0) 2 W (by omega)
        have P1 : ∀ W, Calls Tryz.prog 102 #[.int .i64 (i 1 : Nat), .int .i64 2] W fun e w' => ∃ v, e = .returned v ∧ w'.ownsRow W.heap.size 5 1 v 2 (bytesL (byteN (i 1)) 2) ∧ Below W.heap.size W w' := fun W => put_c (i 1) 2 W (by omega)
        have P2 : ∀ W, Calls Tryz.prog 102 #[.int .i64 (i 2 : Nat), .int .i64 4] W fun e w' => ∃ v, e = .returned v ∧ w'.ownsRow W.heap.size 5 1 v 4 (bytesL (byteN (i 2)) 4) ∧ Below W.heap.size W w' := fun W => put_c (i 2) 4 W (by omega)
        have HP0 := Lib.hid P0; have HP1 := Lib.hid P1; have HP2 := Lib.hid P2
        clear P0 P1 P2
        have hB0 := Lib.hid (inoL_new w i 40)
        go_region_held3 (fun w' => w'.cell? ⟨w.heap.size, 0, none⟩ = some (.int .i64 (i 0 : Nat)) ∧ w'.cell? ⟨w.heap.size, 1, none⟩ = some (.int .i64 (i 1 : Nat)) ∧ w'.cell? ⟨w.heap.size, 2, none⟩ = some (.int .i64 (i 2 : Nat)) ∧ Blk 40 w' w.heap.size (inoL i) ∧ w.heap.size < w'.heap.size ∧ Below w.heap.size w w')
          (first
            | exact keepI ((hB0.out.alloc _).alloc _).drew (((((Below.refl _ _).alloc (by omega) _).alloc (by simp) _).alloc (by simp; omega) _).drew)
            | (go_split_ands; first
              | exact keepI (Blk.below (by assumption) hb6 (by omega)) (Below.trans (by assumption) (hb6.mono (by omega)))
              | exact keepI (Blk.below (by assumption) hb2 (by omega)) (Below.trans (by assumption) (hb2.mono (by omega)))
              | exact keepI (Blk.below (by assumption) hb3 (by omega)) (Below.trans (by assumption) (hb3.mono (by omega)))
              | exact keepI (Blk.below (by assumption) hb1 (by omega)) (Below.trans (by assumption) (hb1.mono (by omega)))
              | exact keepI (Blk.below (by assumption) hb0 (by simp; omega)) (Below.trans (by assumption) (hb0.mono (by simp; omega)))))
          (first
            | (go_at_call 102; with_reducible refine (HP0.out _).mono ?_; rintro e w2 ⟨v0, rfl, ho0, hb0⟩; obtain ⟨g0, cap0, rfl, hg0, _, _, hr0⟩ := own_rd ho0 (by omega); have hs0 : w.heap.size + 1 ≤ w2.heap.size := by (have := hb0.size; simp at this; omega))
            | (go_at_call 102; with_reducible refine (HP1.out _).mono ?_; rintro e w3 ⟨v1, rfl, ho1, hb1⟩; obtain ⟨g1, cap1, rfl, hg1, _, _, hr1⟩ := own_rd ho1 (by omega); have hs1 := hb1.size)
            | (go_at_call 102; with_reducible refine (HP2.out _).mono ?_; rintro e w5 ⟨v2, rfl, ho2, hb2⟩; obtain ⟨g2, cap2, rfl, hg2, _, _, hr2⟩ := own_rd ho2 (by omega); have hs2 := hb2.size)
            | (refine step_bytes rfl _ _ 25 rfl (w.heap.size + 1) 5 i0 Tryz.underlying25 hi0 hz0 hz1 hz2 _ 4 (catF 2 (byteN (i 0)) (byteN (i 1))) rfl (by exact own_below ho3 hb2) g2 0 4 cap2 _ rfl hr2 (by omega) (by omega) (by omega) ?_; intro g6 cap6 w6 ho6 hgr6 hat6; have hb6 := own_below_grown (own_below ho3 hb2) hgr6 (by omega); have hs6 := hb6.size)
            | (refine step_bytes rfl _ _ 25 rfl (w.heap.size + 1) 5 i0 Tryz.underlying25 hi0 hz0 hz1 hz2 _ 2 (byteN (i 0)) rfl (by exact own_mono (own_below ho0 hb1) (by simp)) g1 0 2 cap1 _ rfl hr1 (by omega) (by omega) (by omega) ?_; intro g3 cap3 w4 ho3 hgr3 hat3; have hb3 := own_below_grown (base := w.heap.size + 1) (own_mono (own_below ho0 hb1) (by simp)) hgr3 (by omega); have hs3 := hb3.size))
        rename_i hHeld
        obtain ⟨c0, c1, c2, hbI, hlI, hBI⟩ := hHeld
        have HBI := Lib.hid hbI
        have c11 := hbI.cell 11
        have c12 := hbI.cell 12
        rw [inoL_get _ _ (by omega)] at c11 c12
        have hg6l := (ho6.lt g6 rfl).2
        clear hbI hB0 hgr3 hgr6 hat3 hr0 hr1 hr2
        have HO6 := Lib.hid ho6
        clear ho0 ho1 ho2 ho3 ho6 hb0 hb1 hb2 hb3 hb6
        go_wp2
        go_region_held3 (fun w' => w'.cell? ⟨w.heap.size, 11, none⟩ = some (.int .i64 (i 11 : Nat)) ∧ w'.cell? ⟨w.heap.size, 12, none⟩ = some (.int .i64 (i 12 : Nat)) ∧ Blk 40 w' w.heap.size (inoL i) ∧ w'.ownsRow (w.heap.size + 1) 5 1 (.slice (some ⟨g6, 0, none⟩) 8 cap6) 8 (bytesL (inoK i 0) 8) ∧ w.heap.size < w'.heap.size ∧ w6.heap.size ≤ w'.heap.size ∧ Below w.heap.size w w')
          (first
            | exact keepI2 HBI.out.drew (HO6.out.drew) (Nat.le_refl _) hBI.drew
            | (go_split_ands; first
              | exact keepI2 (Blk.below (by assumption) hb7 (by omega)) (own_below (by assumption) hb7) (Nat.le_trans (by assumption) (by simpa using hb7.size)) (Below.trans (by assumption) (hb7.mono (by omega)))
              | exact keepI2 (Blk.alloc (by assumption) _) (World.ownsRow.alloc (by assumption) _) (Nat.le_trans (by assumption) (by simp)) (Below.alloc (by assumption) (by omega) _)))
          (first
            | (refine step_append_grows rfl _ _ 45 rfl 3 j0 (.int .i64 0) 1 8 Tryz.underlying45 hj0 hy0 hy1 hy2 rfl (by decide) (some ⟨w.heap.size, 3, none⟩) 8 8 (intsL (fun k => i (3 + k)) 8) rfl (by simp) rfl (fun b' e => by cases e; exact rdn_news (inoL_rd (Blk.alloc (by assumption) _))) ⟨_, 0, none⟩ 2 2 [.int .i64 (i 11 : Nat), .int .i64 (i 12 : Nat)] rfl rfl (cells_new2 _ _ _ _ _ rfl) (by simp [Value.oneCell']) (by omega) (by unfold maxLen; omega) (by omega) ?_; intro v7 w7 ho7 hgr7; obtain ⟨g7, cap7, rfl⟩ := ownsRow_succ ho7; rw [intsL_ten] at ho7; have hg67 : g6 ≠ g7 := (by have h1 := (ho7.lt g7 rfl).1; simp at h1; omega); have hb7 := (Below.refl _ _).grown hgr7 (Nat.le_refl _) (fun k e => by cases e)))
        rename_i hHeld2
        obtain ⟨_, _, _, ho8, _, _, hB8⟩ := hHeld2
        have hr7 := own_rdn ho7 (by omega)
        have H8 := Lib.hid ho8; have HR7 := Lib.hid hr7
        clear ho7 ho8 hr7 hgr7 hb7
        have hl7 := lt_of_cell (HR7.out 0 (by omega))
        go_wp2
        go_loopw [4, 67] (fun v i' wr => ∃ k : Nat, k ≤ 10 ∧ i' = .int .i64 k ∧ wr.ownsRow w.heap.size 5 1 v (8 + 4 * k) (bytesL (inoK i k) (8 + 4 * k)) ∧ RdN wr g7 0 10 (fun k => i (3 + k)) ∧ v.ownBlock ≠ some g7 ∧ Below w.heap.size w wr) (fun _ i' _ => 10 - (intOf i').toNat)
        case atStart => exact ⟨0, by omega, rfl, own_mono H8.out (by omega), HR7.out, by simp [Value.ownBlock]; exact hg67, hB8⟩
        case round =>
          obtain ⟨k, hk, rfl, hown, hrd, hne, hB⟩ := hrel
          by_cases hlt : k < 10
          · have hck := hrd k hlt
            rw [Nat.zero_add] at hck
            have hgl := lt_of_cell hck
            have HO := Lib.hid hown; have HN := Lib.hid hne; have HD := Lib.hid hrd
            clear hown hrd hne
            go_wp2_with (first
              | (go_at_call 102; refine (put_c (i (3 + k)) 4 wr (by omega)).mono ?_; rintro e w2 ⟨v4, rfl, ho4, hb4⟩; obtain ⟨g4, cap4, rfl, hg4, _, _, hr4⟩ := own_rd ho4 (by omega))
              | (at_builtin; refine app_bytes rfl _ _ 25 rfl w.heap.size 5 i0 Tryz.underlying25 hi0 hz0 hz1 hz2 _ _ (inoK i k) rfl (by exact .inl (own_below HO.out hb4)) g4 0 4 cap4 _ rfl hr4 (by omega) (by omega) (by have := hb4.size; have := hB.size; omega) ?_; intro g5 cap5 w3 ho5 hgr5 hat5))
            refine ⟨?_, ?measure⟩
            iterate 11 apply Exists.intro
            refine ⟨?rel, rfl⟩
            case rel =>
              have h4 := hb4.size
              have hne5 : g5 ≠ g7 := by
                rcases hat5 with h | h
                · intro e; exact HN.out (h.trans (congrArg some e))
                · omega
              have hm : Mods (fun q => u4.ownBlock = some q) wr w3 := ((Mods.refl _ wr).trans_below hb4 (Nat.le_refl _)).grown hgr5 fun q e _ => e
              exact ⟨k + 1, by omega, by go_num, ho5, fun j hj => by rw [hm.cell hgl (HN.out)]; exact HD.out j hj, by simp [Value.ownBlock, hne5], (hB.trans (hb4.mono hB.size)).grown hgr5 (by have := hB.size; omega) (fun q e => by have := (HO.out.lt q e).1; omega)⟩
            case measure => simp [intOf]; omega
          · obtain rfl : k = 10 := by omega
            go_wp2_with (first
              | (at_builtin; refine app_zeros _ rfl _ _ 25 3 rfl w.heap.size 5 i0 (.int .u8 0) 1 .i64 .i64 Tryz.underlying25 Tryz.underlying3 hi0 hz0 hz1 hz2 rfl rfl _ 48 (bytesL (inoK i 10) 48) rfl (by exact hown) (by omega) 16 16 rfl rfl (by omega) (by unfold maxLen; omega) (by omega) hB.size ?_; intro g9 cap9 w9 ho9 hgr9 hat9))
            go_ret2
            rw [zeros_bytes, bytesL_append] at ho9
            refine ⟨hB.grown hgr9 hB.size (fun q e => (hown.lt q e).1), fun _ => ⟨_, _, rfl, ho9⟩, fun h => by (rw [Ho.out] at h; cases h)⟩)
end Go.Proofs.YtbeabehebenocaaGreatDoor
end

section
/- Pointers as bytes, packed. -/
namespace Go.Proofs.YtbeabehebenocaaGreatDoor
open Go.RowKit

end Go.Proofs.YtbeabehebenocaaGreatDoor
end

section
/- A block of entries, packed. -/
namespace Go.Proofs.YtbeabehebenocaaGreatDoor
open Go.RowKit

/-- memory holds n entries -/
def RdE (w : World) (b n : Nat) (E : Nat → Nat × ByteArray) : Prop := ∀ k, k < n → w.cell? ⟨b, k * 2, none⟩ = some (.int .i64 ((E k).1 : Nat)) ∧ w.cell? ⟨b, k * 2 + 1, none⟩ = some (.string (E k).2)
theorem RdE.lt {w : World} {b n : Nat} {E : Nat → Nat × ByteArray} (h : RdE w b n E) (hn : 0 < n) : b < w.heap.size := lt_of_cell (h 0 hn).1
theorem RdE.below {w w' : World} {b n C : Nat} {E : Nat → Nat × ByteArray} (h : RdE w b n E) (hb : Below C w w') (hC : b < C) : RdE w' b n E := fun k hk => by
  rw [hb.cell (p := ⟨b, k * 2, none⟩) hC, hb.cell (p := ⟨b, k * 2 + 1, none⟩) hC]; exact h k hk
/-- the bytes of a block of entries -/
def pbF (E : Nat → Nat × ByteArray) (k : Nat) : Nat → Nat := fun j => if j < 32 * k then entF (E (j / 32)).1 (E (j / 32)).2 (j % 32) else 0
theorem pbF_succ (E : Nat → Nat × ByteArray) (k : Nat) : bytesL (catF (32 * k) (pbF E k) (entF (E k).1 (E k).2)) (32 * k + 32) = bytesL (pbF E (k + 1)) (32 * k + 32) := bytesL_congr fun j hj => by
  unfold catF pbF
  by_cases h : j < 32 * k
  · rw [if_pos h, if_pos h, if_pos (by omega)]
  · rw [if_neg h, if_pos (by omega), show j / 32 = k by omega, show j % 32 = j - 32 * k by omega]

set_option maxRecDepth 100000 in
set_option maxHeartbeats 1000000 in
theorem pblock_c (b n cap : Nat) (E : Nat → Nat × ByteArray) (w : World) (hn : n = 32) (hE : ∀ k, k < 32 → (E k).1 < 4294967296 ∧ (E k).2.size ≤ 1000000 ∧ entOk (E k).1 (E k).2 = true) (h : RdE w b 32 E) :
    Calls Tryz.prog 56 #[.slice (some ⟨b, 0, none⟩) 32 cap] w fun e w' => ∃ B c, e = .returned (.tuple #[.slice (some ⟨B, 0, none⟩) 1024 c, .int .i64 0]) ∧ w'.ownsRow w.heap.size 5 1 (.slice (some ⟨B, 0, none⟩) 1024 c) 1024 (bytesL (pbF E 32) 1024) ∧ Below w.heap.size w w' := by
  obtain ⟨i0, hi0, hz0, hz1, hz2⟩ := info_parts info8
  have HE := Lib.hid hE
  have HR := Lib.hid h
  have hbl := h.lt (by omega)
  clear h hE
  go_enter Tryz.func56, Tryz.ntmps56
  go_wp2
  go_loopw [4, 14] (fun v i' wr => ∃ k : Nat, k ≤ 32 ∧ i' = .int .i64 k ∧ wr.ownsRow w.heap.size 5 1 v (32 * k) (bytesL (pbF E k) (32 * k)) ∧ Below w.heap.size w wr) (fun _ i' _ => 32 - (intOf i').toNat)
  case atStart => exact ⟨0, by omega, rfl, World.ownsRow_nil _ _ _ _, Below.refl _ _⟩
  case round =>
    obtain ⟨k, hk, rfl, hown, hB⟩ := hrel
    by_cases hlt : k < 32
    · obtain ⟨hc0, hc1⟩ := (HR.out.below hB hbl) k hlt
      have hs := hB.size
      have HO := Lib.hid hown
      obtain ⟨q1, q2, q3⟩ := HE.out k hlt
      have HQ := Lib.hid q3
      clear hown q3
      go_wp2_with (first
        | (go_at_call 79; refine (epack_c (E k).1 (E k).2 q1 q2 _).mono ?_; rintro e w2 ⟨hb4, hyes, -⟩; obtain ⟨g4, rfl, hg4, hk4⟩ := hyes HQ.out; have hr4 := Lib.hid (BlkB_rd hk4); have hs4 := hb4.size; simp only [World.size_alloc] at hs4 hg4; clear hk4 hyes)
        | (at_builtin; refine app_bytes rfl _ _ 25 rfl w.heap.size 5 i0 Tryz.underlying25 hi0 hz0 hz1 hz2 _ _ (pbF E k) rfl (by exact .inl (own_below (HO.out.alloc _) hb4)) g4 0 32 32 _ rfl hr4.out (by omega) (by omega) (by omega) ?_; intro g5 cap5 w3 ho5 hgr5 hat5))
      go_roundw
      case rel =>
        rw [pbF_succ] at ho5
        have hB2 : Below w.heap.size w w2 := (hB.alloc hs _).trans (hb4.mono (by simp; omega))
        exact ⟨k + 1, by omega, by go_num, ho5, hB2.grown hgr5 (by omega) (fun q e => (HO.out.lt q e).1)⟩
      case measure => simp [intOf]; omega
    · obtain rfl : k = 32 := by omega
      obtain ⟨g4, cap4, rfl, hg4, hc4, hc5, hr4⟩ := own_rd hown (by omega)
      go_wp2_with (first
        | (at_builtin; refine app_zeros _ rfl _ _ 25 3 rfl w.heap.size 5 i0 (.int .u8 0) 1 .i64 .i64 Tryz.underlying25 Tryz.underlying3 hi0 hz0 hz1 hz2 rfl rfl _ 1024 (bytesL (pbF E 32) 1024) rfl (by exact hown) (by omega) 0 _ rfl rfl (by omega) (by unfold maxLen; omega) (by omega) hB.size ?_; intro g9 cap9 w9 ho9 hgr9 hat9))
      go_ret2
      exact ⟨_, _, rfl, by simpa using ho9, hB.grown hgr9 hB.size (fun q e => (hown.lt q e).1)⟩
end Go.Proofs.YtbeabehebenocaaGreatDoor
end

section
/- The superblock read. -/
namespace Go.Proofs.YtbeabehebenocaaGreatDoor
open Go.RowKit

theorem pack_no (g : Geo) (hg : g.okB = false) (w : World) : Calls Tryz.prog 67 #[.agg #[.int .i64 g.gr, .int .i64 g.ino, .int .i64 g.da]] w fun e w' => e = .returned (.tuple #[.slice none 0 0, .int .i64 1]) ∧ Below w.heap.size w w' := by
  go_enter Tryz.func67, Tryz.ntmps67
  go_wp2_with (go_at_call 64; refine (check_no g hg _).mono ?_; rintro e w1 ⟨rfl, hb⟩)
  go_ret2
  exact ⟨rfl, ((Below.refl _ _).alloc (Nat.le_refl _) _).trans (hb.mono (by simp))⟩

def supG (f : Nat → Nat) : Geo := ⟨leN (fun k => f (8 + k)) 4, leN (fun k => f (12 + k)) 4, leN (fun k => f (16 + k)) 4⟩
def supOk (f : Nat → Nat) : Bool := (supG f).okB && eqB (superF (supG f)) f 1024

set_option maxRecDepth 100000 in
set_option maxHeartbeats 1000000 in
theorem sread_c (B o cap : Nat) (f : Nat → Nat) (hf : ∀ k, f k < 256) (w : World) (h : RdB w B o 1024 f) (hcap : 1024 ≤ cap) :
    Calls Tryz.prog 36 #[.slice (some ⟨B, o, none⟩) 1024 cap] w fun e w' => (supOk f = true → e = .returned (.tuple #[.agg #[.int .i64 (supG f).gr, .int .i64 (supG f).ino, .int .i64 (supG f).da], .int .i64 0])) ∧
      (supOk f = false → e = .returned (.tuple #[.agg #[.int .i64 0, .int .i64 0, .int .i64 0], .int .i64 4])) ∧ Below w.heap.size w w' := by
  have hBl := lt_of_cell (h 0 (by omega))
  obtain ⟨G, hG⟩ : ∃ G, G = supG f := ⟨_, rfl⟩
  have e1 : leN (fun k => f (8 + k)) 4 = G.gr := by rw [hG]; rfl
  have e2 : leN (fun k => f (12 + k)) 4 = G.ino := by rw [hG]; rfl
  have e3 : leN (fun k => f (16 + k)) 4 = G.da := by rw [hG]; rfl
  have v1 : ∀ W c, RdB W B o 1024 f → Calls Tryz.prog 66 #[.slice (some ⟨B, o + 8, none⟩) 4 c] W fun e w' => e = .returned (.int .i64 G.gr) ∧ W = w' := fun W c h => by
    have := value_c B (o + 8) 4 c _ W (fun k => hf (8 + k)) (by omega) (h.sub 8 4 (by omega)); rwa [e1] at this
  have v2 : ∀ W c, RdB W B o 1024 f → Calls Tryz.prog 66 #[.slice (some ⟨B, o + 12, none⟩) 4 c] W fun e w' => e = .returned (.int .i64 G.ino) ∧ W = w' := fun W c h => by
    have := value_c B (o + 12) 4 c _ W (fun k => hf (12 + k)) (by omega) (h.sub 12 4 (by omega)); rwa [e2] at this
  have v3 : ∀ W c, RdB W B o 1024 f → Calls Tryz.prog 66 #[.slice (some ⟨B, o + 16, none⟩) 4 c] W fun e w' => e = .returned (.int .i64 G.da) ∧ W = w' := fun W c h => by
    have := value_c B (o + 16) 4 c _ W (fun k => hf (16 + k)) (by omega) (h.sub 16 4 (by omega)); rwa [e3] at this
  have V1 := Lib.hid v1; have V2 := Lib.hid v2; have V3 := Lib.hid v3; have HG := Lib.hid hG; have HR := Lib.hid h
  have c1 : (12 : Int) ≤ (cap : Int) := by omega
  have c2 : (16 : Int) ≤ (cap : Int) := by omega
  have c3 : (20 : Int) ≤ (cap : Int) := by omega
  have n1 : cap ≠ 8 := by omega
  have n2 : cap ≠ 12 := by omega
  have n3 : cap ≠ 16 := by omega
  have x1 : IntKind.i64.wrap 12 = 12 := by decide
  have x2 : IntKind.i64.wrap 16 = 16 := by decide
  have x3 : IntKind.i64.wrap (8 + 4) = 12 := by decide
  have x4 : IntKind.i64.wrap (8 + 8) = 16 := by decide
  clear v1 v2 v3 e1 e2 e3 hG h
  go_enter Tryz.func36, Tryz.ntmps36
  go_upto_region 4 with fail
  go_cut [5] (fun s5 wx => s5 = .pointer (some ⟨w.heap.size + 1, 0, none⟩) ∧ Blk 24 wx (w.heap.size + 1) [.int .i64 G.gr, .int .i64 G.ino, .int .i64 G.da] ∧ Blk 24 wx w.heap.size [.int .i64 0, .int .i64 0, .int .i64 0] ∧ Below w.heap.size w wx)
  case first =>
    go_region_held3 (fun w' => RdB w' B o 1024 f ∧ w.heap.size < w'.heap.size ∧ Below w.heap.size w w')
      (first | (go_split_ands; exact ⟨HR.out.below (((Below.refl _ _).alloc (Nat.le_refl _) _).drew), by simp, ((Below.refl _ _).alloc (Nat.le_refl _) _).drew⟩) | (go_split_ands; exact ⟨HR.out.below ((((Below.refl _ _).alloc (Nat.le_refl _) _).alloc (by simp) _).drew), by simp; omega, (((Below.refl _ _).alloc (Nat.le_refl _) _).alloc (by simp) _).drew⟩) | go_keep)
      (first
        | (go_at_call 66; go_split_ands; ((with_reducible refine (V1.out _ _ (by assumption)).mono ?_)); rintro e w2 ⟨rfl, rfl⟩)
        | (go_at_call 66; go_split_ands; ((with_reducible refine (V2.out _ _ (by assumption)).mono ?_)); rintro e w2 ⟨rfl, rfl⟩)
        | (go_at_call 66; go_split_ands; ((with_reducible refine (V3.out _ _ (by assumption)).mono ?_)); rintro e w2 ⟨rfl, rfl⟩))
    all_goals
      go_wp2_with fail
      go_meet
      exact ⟨rfl, (Blk.snd _ _).drew, (Blk.fst _ _).drew, (((Below.refl _ _).alloc (Nat.le_refl _) _).alloc (by simp) _).drew⟩
  case rest =>
    obtain ⟨rfl, hG1, hG0, hBx⟩ := hcut
    have a0 := hG1.cell 0; have a1 := hG1.cell 1; have a2 := hG1.cell 2
    have b0 := hG0.cell 0; have b1 := hG0.cell 1; have b2 := hG0.cell 2
    have f0 := hG0.frozen 0; have f1 := hG0.frozen 1; have f2 := hG0.frozen 2
    simp only [List.getElem?_cons_zero, List.getElem?_cons_succ] at a0 a1 a2 b0 b1 b2
    have hl1 := hG1.lt
    have hl0 := hG0.lt
    have hRx := HR.out.below hBx
    clear x1 x2 x3 x4 n1 n2 n3 c1 c2 c3
    cases hok : G.okB with
    | false =>
      have hs : supOk f = false := by simp [supOk, ← HG.out, hok]
      have Hs := Lib.hid hs
      have Hok := Lib.hid hok
      clear hs hok
      go_wp2_with (go_at_call 67; refine (pack_no G Hok.out _).mono ?_; rintro e w2 ⟨rfl, hb2⟩; obtain ⟨hc2, hf2⟩ := bcell hb2)
      refine bodyPost_ret (v := .tuple #[.agg #[.int .i64 0, .int .i64 0, .int .i64 0], .int .i64 4]) ?_ rfl ?_
      · simp [results, Tryz.results36, go_sem, hc2, hf2, hl0, b0, b1, b2]
      · refine ⟨fun h => ?_, fun _ => rfl, ?_⟩
        · rw [Hs.out] at h; cases h
        · exact (((hBx.trans (hb2.mono hBx.size)).setCell (p := ⟨w.heap.size, 0, none⟩) (Nat.le_refl _) _).setCell (p := ⟨w.heap.size, 1, none⟩) (Nat.le_refl _) _).setCell (p := ⟨w.heap.size, 2, none⟩) (Nat.le_refl _) _
    | true =>
      obtain ⟨q, hq⟩ : ∃ q, q = eqB (superF G) f 1024 := ⟨_, rfl⟩
      have hs : supOk f = q := by simp [supOk, ← HG.out, hok, hq]
      have Hs := Lib.hid hs
      have Hok := Lib.hid (Geo.okB_iff.1 hok)
      have Hq := Lib.hid hq
      have HRx := Lib.hid hRx
      clear hs hok hq hRx
      cases q with
      | true =>
        go_wp2_with (first
          | (go_at_call 67; refine (pack_ok G Hok.out _).mono ?_; rintro e w2 ⟨B2, rfl, hB2, hk2, hb2⟩; obtain ⟨hc2, hf2⟩ := bcell hb2; have HK := Lib.hid hk2; clear hk2)
          | (go_at_call 34; refine (beq_c B2 0 1024 B o cap 1024 (superF G) f (superF_lt G) hf _ (BlkB_rd HK.out) (HRx.out.below hb2)).mono ?_; rw [← Hq.out]; rintro e w3 ⟨rfl, rfl⟩))
        refine bodyPost_ret (v := .tuple #[.agg #[.int .i64 G.gr, .int .i64 G.ino, .int .i64 G.da], .int .i64 0]) ?_ rfl ?_
        · simp [results, Tryz.results36, go_sem, hc2, hf2, hl0, b0, b1, b2]
        · refine ⟨fun h => ?_, fun h => ?_, ?_⟩
          · rw [← HG.out]
          · rw [Hs.out] at h; cases h
          · exact (((hBx.trans (hb2.mono hBx.size)).setCell (p := ⟨w.heap.size, 0, none⟩) (Nat.le_refl _) _).setCell (p := ⟨w.heap.size, 1, none⟩) (Nat.le_refl _) _).setCell (p := ⟨w.heap.size, 2, none⟩) (Nat.le_refl _) _
      | false =>
        go_wp2_with (first
          | (go_at_call 67; refine (pack_ok G Hok.out _).mono ?_; rintro e w2 ⟨B2, rfl, hB2, hk2, hb2⟩; obtain ⟨hc2, hf2⟩ := bcell hb2; have HK := Lib.hid hk2; clear hk2)
          | (go_at_call 34; refine (beq_c B2 0 1024 B o cap 1024 (superF G) f (superF_lt G) hf _ (BlkB_rd HK.out) (HRx.out.below hb2)).mono ?_; rw [← Hq.out]; rintro e w3 ⟨rfl, rfl⟩))
        refine bodyPost_ret (v := .tuple #[.agg #[.int .i64 0, .int .i64 0, .int .i64 0], .int .i64 4]) ?_ rfl ?_
        · simp [results, Tryz.results36, go_sem, hc2, hf2, hl0, b0, b1, b2]
        · refine ⟨fun h => ?_, fun h => ?_, ?_⟩
          · rw [Hs.out] at h; cases h
          · rfl
          · exact (((hBx.trans (hb2.mono hBx.size)).setCell (p := ⟨w.heap.size, 0, none⟩) (Nat.le_refl _) _).setCell (p := ⟨w.heap.size, 1, none⟩) (Nat.le_refl _) _).setCell (p := ⟨w.heap.size, 2, none⟩) (Nat.le_refl _) _
end Go.Proofs.YtbeabehebenocaaGreatDoor
end

section
/- Heads, packed. -/
namespace Go.Proofs.YtbeabehebenocaaGreatDoor
open Go.RowKit
open Go.Lib (byteCells byteCells_length)

theorem step_copy_blk {P : Program} {ops : Array Oper} {o : Oper} {a : Act} {w : World} {K : Act → World → Prop} {Q : Exit → Act → World → Prop} {E : Prop} (hgd : o.guard = none) (d s : Operand) (dT sT : TypeId)
    (ho : o.op = .call { callee := .builtin .copy, args := #[d, s], argTypes := #[dT, sT] }) (elem : TypeId) (hu : P.underlying dT = some (.slice elem)) (hsz : (P.info? elem).map (·.size) = some 1)
    (g off dLen dCap sb so sLen sCap : Nat) (hd : a.eval d = .slice (some ⟨g, off, none⟩) dLen dCap) (hs : a.eval s = .slice (some ⟨sb, so, none⟩) sLen sCap)
    (n : Nat) (f fs : Nat → Nat) (t : TypeId) (hg : Blk t w g (bytesL f n)) (m : Nat) (hm : m = Nat.min sLen dLen) (hsrc : RdB w sb so m fs) (hfit : off + m ≤ n)
    (h : ∀ w', Blk t w' g (bytesL (putF f off m fs) n) → Mods (fun k => k = g) w w' → K (a.put o.dst (goInt m)) w') :
    if Region.wanted o (yielded ops a.tmps) = true then Oper.wp P o a w K Q else E := by
  have hw : Region.wanted o (yielded ops a.tmps) = true := by simp [Region.wanted, hgd]
  rw [if_pos hw]
  have hl : (bytesL fs m).length = m := bytesL_length _ _
  have hrun := run_copy_row (P := P) w dT sT o.type elem g off dLen dCap ⟨sb, so, none⟩ sLen sCap (bytesL f n).toArray t (bytesL fs m) hu hsz hg (by rw [hl, hm]) (rd_news hsrc) (by simp [bytesL_length]; omega) (bytes_one _ _)
  have h2 := h (w.setRow g (splice (bytesL f n) off (bytesL fs m)).toArray) (by rw [bytesL_put _ _ _ _ _ hfit]; exact setRow_heap w g _ _ t _ hg) ⟨rfl, rfl, rfl, by simp, fun k _ hk => setRow_other w g k _ hk⟩
  simp only [splice, hl] at h2
  unfold Oper.wp
  simp [execOp, ho, resolve, invoke, builtin, hd, hs, hrun, Result.andThen, hl]
  exact h2
theorem copy_str {P : Program} {w : World} {ops : Array Oper} {rest : List Oper} {o : Oper} {a : Act} {Q : Exit → Act → World → Prop}
    (hg : o.guard = none) (d x : Operand) (dT sT : TypeId) (hop : o.op = Op.call { callee := Callee.builtin Builtin.copy, args := #[d, x], argTypes := #[dT, sT] })
    (elem : TypeId) (hu : P.underlying dT = some (.slice elem)) (hsz : (P.info? elem).map (·.size) = some 1)
    (g off dLen dCap : Nat) (hd : a.eval d = .slice (some ⟨g, off, none⟩) dLen dCap) (s : ByteArray) (hx : a.eval x = .string s) (hle : s.size ≤ dLen)
    (n : Nat) (f : Nat → Nat) (t : TypeId) (hb : Blk t w g (bytesL f n)) (hfit : off + s.size ≤ n)
    (hK : ∀ w', Blk t w' g (bytesL (putF f off s.size (chr s)) n) → Mods (fun k => k = g) w w' → wpList P ops Q rest (a.put o.dst (goInt s.size)) w') :
    wpList P ops Q (o :: rest) a w := by
  refine wpList_plain hg fun K hK' => ?_
  have h := step_copy_str (P := P) (ops := ops) (w := w) (K := K) (Q := Q) (E := True) hg d x dT sT hop elem hu hsz g off dLen dCap hd s hx hle n f t hb hfit (fun w' h1 h2 => hK' _ _ (hK w' h1 h2))
  have hw : Region.wanted o (yielded ops a.tmps) = true := by simp [Region.wanted, hg]
  rw [if_pos hw] at h
  exact h

theorem counts_c (g : Geo) (hg : g.Ok) (w : World) : Calls Tryz.prog 84 #[.agg #[.int .i64 g.gr, .int .i64 g.ino, .int .i64 g.da]] w fun e w' => e = .returned (.tuple #[.int .i64 (16 * g.ino : Nat), .int .i64 g.da]) ∧ Below w.heap.size w w' := by
  have i2 := hg.i2
  have hw := wrap_in ((g.ino : Int) * 16) (by omega) (by omega)
  have he : ((16 * g.ino : Nat) : Int) = (g.ino : Int) * 16 := by omega
  go_enter Tryz.func84, Tryz.ntmps84
  go_wp2_with fail
  go_quiet (fail)
  go_wp2
  go_ret2
  rw [he]
  exact ⟨rfl, bdrewN ((Below.refl _ _).alloc (Nat.le_refl _) _) _⟩

/-- a head's bytes -/
def headF (g : Geo) (k : Nat) (fi fd : Nat → Nat) : Nat → Nat :=
  putF (putF (putF (putF (fun _ => 0) 0 2 (chr ⟨#[67, 71]⟩)) 2 2 (byteN k)) 16 8 (rowB fi 8 (16 * g.ino))) 64 ((g.da + 7) / 8) (rowB fd ((g.da + 7) / 8) g.da)

theorem zeroF_blk {e : TypeId} {w : World} {B n : Nat} (h : Blk e w B (List.replicate n (.int .u8 0))) : Blk e w B (bytesL (fun _ => 0) n) := by rwa [zeros_bytes] at h

set_option maxRecDepth 100000 in
set_option maxHeartbeats 1000000 in
theorem phead_c (g : Geo) (hg : g.Ok) (k : Nat) (hk : k < g.gr) (b1 c1 b2 c2 : Nat) (fi fd : Nat → Nat) (hfi : ∀ j, fi j < 256) (hfd : ∀ j, fd j < 256) (w : World) (h1 : RdB w b1 0 8 fi) (h2 : RdB w b2 0 ((g.da + 7) / 8) fd) :
    Calls Tryz.prog 63 #[.agg #[.int .i64 g.gr, .int .i64 g.ino, .int .i64 g.da], .int .i64 k, .slice (some ⟨b1, 0, none⟩) 8 c1, .slice (some ⟨b2, 0, none⟩) ((g.da + 7) / 8) c2] w fun e w' => ∃ B, e = .returned (.tuple #[.slice (some ⟨B, 0, none⟩) 1024 1024, .int .i64 0]) ∧ w.heap.size ≤ B ∧ Blk 5 w' B (bytesL (headF g k fi fd) 1024) ∧ Below w.heap.size w w' := by
  obtain ⟨i0, hi0, hz0, hz1, hz2⟩ := info_parts info8
  obtain ⟨m, hm⟩ : ∃ m, m = (g.da + 7) / 8 := ⟨_, rfl⟩
  rw [← hm] at h2 ⊢
  have hd1 := hg.d1; have hd2 := hg.d2; have hi2 := hg.i2
  have hm1 : 1 ≤ m := by omega
  have hm2 : m ≤ 125 := by omega
  have hmd : g.da ≤ 8 * m := by omega
  obtain ⟨p, hp⟩ : ∃ p, p = g.da + 7 := ⟨_, rfl⟩
  obtain ⟨q, hq⟩ : ∃ q, q = 16 * g.ino := ⟨_, rfl⟩
  have hq64 : q ≤ 64 := by omega
  have e1 : IntKind.i64.wrap ((g.da : Int) + 7) = (p : Int) := by rw [wrap_in _ (by omega) (by omega)]; omega
  have e2 : IntKind.i64.wrap ((p : Int) / 8) = (m : Int) := by
    have := wrap_ediv p 8 (by omega)
    rw [show ((8 : Nat) : Int) = 8 from rfl] at this
    rw [this]; congr 1; omega
  have CC : ∀ W, Calls Tryz.prog 84 #[.agg #[.int .i64 g.gr, .int .i64 g.ino, .int .i64 g.da]] W fun e w' => e = .returned (.tuple #[.int .i64 q, .int .i64 g.da]) ∧ Below W.heap.size W w' := fun W => by
    have := counts_c g hg W; rwa [← hq] at this
  have Hm := Lib.hid hm; have Hq := Lib.hid hq; have HCC := Lib.hid CC; clear hm hq hp CC
  have H1 := Lib.hid h1; have H2 := Lib.hid h2
  have hl1 := lt_of_cell (h1 0 (by omega)); have hl2 := lt_of_cell (h2 0 (by omega))
  clear h1 h2
  go_enter Tryz.func63, Tryz.ntmps63
  go_wp2_with (first
    | (go_at_call 62; refine (head_c g hg k hk _).mono ?_; rintro e w1 ⟨rfl, hb1⟩; obtain ⟨hc1, hf1⟩ := bcell hb1; have hs1 : w.heap.size < w1.heap.size := by (have := hb1.size; simp at this; omega))
    | (go_at_call 84; refine (HCC.out _).mono ?_; rintro e w2 ⟨rfl, hb2⟩)
    | (at_make; refine mk_one _ rfl _ _ 25 rfl 5 i0 (.int .u8 0) 1 Tryz.underlying25 hi0 hz0 hz1 hz2 rfl _ _ _ _ 1024 rfl rfl rfl rfl (by omega) (by unfold maxLen; omega) ?_; intro w3 hblk hgr; have HB3 := Lib.hid (zeroF_blk hblk); clear hblk)
    | (refine copy_str rfl _ _ 25 9 rfl 5 Tryz.underlying25 (by kernel_rfl) _ 0 1024 1024 rfl ⟨#[67, 71]⟩ rfl (by decide) 1024 (fun _ => 0) 5 HB3.out (by decide) ?_; intro w4 hb4 hm4; have HB4 := Lib.hid hb4; clear hb4))
  have hs2 := hb2.size
  have hs3 := hgr.size
  have hs4 := hm4.size
  have hl4 := HB4.out.lt
  have hBx : Below w.heap.size w w4 := (((((Below.refl _ w).alloc (Nat.le_refl _) _).trans (hb1.mono (by simp))).trans (hb2.mono (by omega))).grown hgr (by omega) (fun k e => by cases e)).trans (hm4.below (fun k e => by omega) (by omega))
  clear hc1 hf1 hb1 hb2 hgr hm4 HB3
  go_region_held3 (fun w' => w2.heap.size < w'.heap.size ∧ Below w.heap.size w w')
    (first
      | exact ⟨hl4, hBx.drew⟩
      | (go_split_ands; exact ⟨by have := hb5.size; simp at this; omega, Below.trans (by assumption) (hb5.mono (by (try simp); omega))⟩)
      | (go_split_ands; exact ⟨by have := hm6.size; omega, Below.trans (by assumption) (hm6.below (fun k e => by omega) (by omega))⟩))
    (first
      | (go_at_call 85; refine (number_c k 2 _ (by omega)).mono ?_; rintro e w5 ⟨v5, rfl, ho5, hb5⟩; obtain ⟨g5, cap5, rfl, hg5, _, _, hr5⟩ := own_rd ho5 (by omega); have hB5 := (HB4.out.drew).below hb5 (by simpa using hl4); have hs5 := hb5.size; simp at hs5)
      | (refine step_copy_blk rfl _ _ 25 25 rfl 5 Tryz.underlying25 (by kernel_rfl) w2.heap.size 2 1022 1022 g5 0 2 cap5 rfl rfl 1024 _ (byteN k) 5 hB5 2 rfl hr5 (by omega) ?_; intro w6 hb6 hm6; have HB6 := Lib.hid hb6; clear hb6; have hs6 := hm6.size))
  rename_i hHeld
  obtain ⟨hl6, hBx6⟩ := hHeld
  have hR1 := Lib.hid (H1.out.below hBx6.drew)
  clear hm6 hb5 hB5 ho5 hr5
  go_wp2_with fail
  go_region_held3 (fun w' => w2.heap.size < w'.heap.size ∧ Below w.heap.size w w')
    (first
      | exact ⟨hl6, hBx6.drew⟩
      | (go_split_ands; exact ⟨by have := hb7.size; simp at this; omega, Below.trans (by assumption) (hb7.mono (by (try simp); omega))⟩)
      | (go_split_ands; exact ⟨by have := hm8.size; omega, Below.trans (by assumption) (hm8.below (fun k e => by omega) (by omega))⟩))
    (first
      | (go_at_call 86; refine (row_c b1 0 8 c1 q 8 fi _ hfi hR1.out (by omega) (by omega) (by omega)).mono ?_; rintro e w7 ⟨g7, rfl, hg7, hk7, hb7⟩; have hB7 := (HB6.out.drew).below hb7 (by simpa using hl6); have hs7 := hb7.size; simp at hs7)
      | (refine step_copy_blk rfl _ _ 25 25 rfl 5 Tryz.underlying25 (by kernel_rfl) w2.heap.size 16 1008 1008 g7 0 8 8 rfl rfl 1024 _ (rowB fi 8 q) 5 hB7 8 rfl (BlkB_rd hk7) (by omega) ?_; intro w8 hb8 hm8; have HB8 := Lib.hid hb8; clear hb8; have hs8 := hm8.size))
  rename_i hHeld2
  obtain ⟨hl8, hBx8⟩ := hHeld2
  have hR2 := Lib.hid (H2.out.below hBx8.drew)
  clear hm8 hb7 hB7 hk7
  go_wp2_with fail
  go_region_held3 (fun w' => w2.heap.size < w'.heap.size ∧ Below w.heap.size w w')
    (first
      | exact ⟨hl8, hBx8.drew⟩
      | (go_split_ands; exact ⟨by have := hb9.size; simp at this; omega, Below.trans (by assumption) (hb9.mono (by (try simp); omega))⟩)
      | (go_split_ands; exact ⟨by have := hm10.size; omega, Below.trans (by assumption) (hm10.below (fun k e => by omega) (by omega))⟩))
    (first
      | (go_at_call 86; refine (row_c b2 0 m c2 g.da m fd _ hfd hR2.out (by omega) (by omega) (by omega)).mono ?_; rintro e w9 ⟨g9, rfl, hg9, hk9, hb9⟩; have hB9 := (HB8.out.drew).below hb9 (by simpa using hl8); have hs9 := hb9.size; simp at hs9)
      | (refine step_copy_blk rfl _ _ 25 25 rfl 5 Tryz.underlying25 (by kernel_rfl) w2.heap.size 64 960 960 g9 0 m m rfl rfl 1024 _ (rowB fd m g.da) 5 hB9 m (by show m = min m 960; omega) (BlkB_rd hk9) (by omega) ?_; intro w10 hb10 hm10; have HB10 := Lib.hid hb10; clear hb10; have hs10 := hm10.size))
  rename_i hHeld3
  obtain ⟨hl10, hBx10⟩ := hHeld3
  clear hm10 hb9 hB9 hk9
  go_wp2
  go_ret2
  have hfin := HB10.out
  rw [Hq.out, Hm.out] at hfin
  exact ⟨_, rfl, by omega, hfin, hBx10⟩
end Go.Proofs.YtbeabehebenocaaGreatDoor
end
