/- Part of the road to ClPrintCard: ClPlain, Base, Mem, AppZ, Copy, ClHex, ClShelf, ClUnhex, ClShown, ClText. -/
import Derived.Lib.ItoaNum
import Derived.Lib.ItoaLen
import Derived.Lib.AtoiAll
import Derived.Lib.Join
import Derived.Lib.CutLaws
import Derived.WalkKit
import Derived.WalkSpells
import Derived.WalkLawsBesides
import Derived.Lib.Hide
import Derived.RangeFuncBox
import Derived.Deep.AppendLies
import Derived.ArgAppend
import Derived.OwnWalk
import Derived.Laws.MakeOwn
import Derived.Lib.AppendZeros
import Derived.Laws.CopyOwn
import Derived.Test.YtlkeegmpjjoicaaDoorProg
import Derived.Laws.BitsAllLaws
import Derived.Laws.Cover4
import Derived.Laws.IdiomStrings
import Derived.Laws.BitsLemmas
import Derived.Deep.RegionHeld3
import Derived.Deep.RegionLawGrows
import Derived.Deep.QuietTactic
import Derived.BigQuiet
import Derived.StillTailTactics
import Derived.Shelf.Strings.OnBuilder
import Derived.Shelf.Strings.Builder1
import Derived.Shelf.Strings.Builder2
import Derived.Shelf.Small.Strs
import Derived.Shelf.LaysM
import Derived.Shelf.Strconv.Itoa3
import Derived.Shelf.LaysC
import Derived.Shelf.Strconv.AtoiAll
import Derived.Shelf.Strings.Cut
import Derived.Ground.Names2Prog
set_option linter.all false
set_option linter.unusedSimpArgs false
set_option linter.unusedVariables false
set_option linter.unusedSectionVars false
section
/- Calls as lines: the plain side. -/
namespace Go.Proofs.YtlkeegmpjjoicaaDoor

def hx (n : Nat) : UInt8 := UInt8.ofNat (if n < 10 then 48 + n else 87 + n)
def hexB (c : UInt8) : List UInt8 := [hx (c.toNat / 16), hx (c.toNat % 16)]
def hexL (l : List UInt8) : List UInt8 := l.flatMap hexB
/-- is a byte of a path written by two digits? -/
def escB (c : UInt8) : Bool := decide (c.toNat < 33) || (decide (126 < c.toNat) || decide (c.toNat = 37))
def shB (c : UInt8) : List UInt8 := if escB c then 37 :: hexB c else [c]
def shL (l : List UInt8) : List UInt8 := if l = [] then [37] else l.flatMap shB
def datL (l : List UInt8) : List UInt8 := if l = [] then [45] else hexL l

/-- the bytes that may stand in a word of a line -/
def wordB (c : UInt8) : Bool := decide (33 ≤ c.toNat) && decide (c.toNat ≤ 126)
theorem hx_fin : ∀ n : Fin 16, wordB (hx n.val) = true ∧ hx n.val ≠ 37 ∧ (hx n.val = 37 → False) ∧ (48 ≤ (hx n.val).toNat) ∧ hx n.val ≠ 45 := by decide +kernel
theorem hx_word (n : Nat) (h : n < 16) : wordB (hx n) = true := (hx_fin ⟨n, h⟩).1
theorem div16 (c : UInt8) : c.toNat / 16 < 16 := by have := c.toNat_lt; omega
theorem mod16 (c : UInt8) : c.toNat % 16 < 16 := Nat.mod_lt _ (by decide)
theorem hexB_word (c : UInt8) : ∀ x ∈ hexB c, wordB x = true := by
  intro x hx
  simp only [hexB, List.mem_cons, List.not_mem_nil, or_false] at hx
  rcases hx with rfl | rfl
  · exact hx_word _ (div16 c)
  · exact hx_word _ (mod16 c)
theorem hexL_word (l : List UInt8) : ∀ x ∈ hexL l, wordB x = true := by
  intro x hx
  obtain ⟨c, _, h⟩ := List.mem_flatMap.1 hx
  exact hexB_word c x h
theorem hexL_length (l : List UInt8) : (hexL l).length = 2 * l.length := by
  induction l with
  | nil => rfl
  | cons a l ih => rw [hexL, List.flatMap_cons, List.length_append, List.length_cons]; rw [hexL] at ih; rw [ih]; simp [hexB]; omega
theorem shB_word (c : UInt8) : ∀ x ∈ shB c, wordB x = true := by
  intro x hx
  unfold shB at hx
  split at hx
  · rcases List.mem_cons.1 hx with rfl | h
    · decide
    · exact hexB_word c x h
  · rename_i h
    simp only [escB, Bool.or_eq_true, decide_eq_true_eq, not_or] at h
    rw [List.mem_singleton] at hx; subst hx
    simp only [wordB, Bool.and_eq_true, decide_eq_true_eq]
    omega
theorem shL_word (l : List UInt8) : ∀ x ∈ shL l, wordB x = true := by
  intro x hx
  unfold shL at hx
  split at hx
  · rw [List.mem_singleton] at hx; subst hx; decide
  · obtain ⟨c, _, h⟩ := List.mem_flatMap.1 hx
    exact shB_word c x h
theorem datL_word (l : List UInt8) : ∀ x ∈ datL l, wordB x = true := by
  intro x hx
  unfold datL at hx
  split at hx
  · rw [List.mem_singleton] at hx; subst hx; decide
  · exact hexL_word l x hx
theorem shB_length (c : UInt8) : 1 ≤ (shB c).length ∧ (shB c).length ≤ 3 := by
  unfold shB; split <;> simp [hexB]
theorem shL_length (l : List UInt8) : 1 ≤ (shL l).length ∧ (shL l).length ≤ 3 * l.length + 1 := by
  unfold shL
  split
  · simp
  · rename_i h
    have : ∀ l : List UInt8, l.length ≤ (l.flatMap shB).length ∧ (l.flatMap shB).length ≤ 3 * l.length := by
      intro l
      induction l with
      | nil => simp
      | cons a l ih => have := shB_length a; rw [List.flatMap_cons, List.length_append, List.length_cons]; omega
    have h1 := this l
    have : 0 < l.length := List.length_pos_iff.2 h
    omega
theorem datL_length (l : List UInt8) : 1 ≤ (datL l).length ∧ (datL l).length ≤ 2 * l.length + 1 := by
  unfold datL
  split
  · simp
  · rename_i h
    have : 0 < l.length := List.length_pos_iff.2 h
    rw [hexL_length]; omega

/-! ### numbers -/
theorem decDigits_digit (u : Nat) : ∀ x ∈ Lib.decDigits u, 48 ≤ x.toNat ∧ x.toNat ≤ 57 := by
  induction u using Nat.strongRecOn with
  | ind u ih =>
    intro x hx
    rw [Lib.decDigits] at hx
    have one : ∀ d, d < 10 → x = UInt8.ofNat (48 + d) → 48 ≤ x.toNat ∧ x.toNat ≤ 57 := fun d hd e => by
      subst e
      rw [UInt8.toNat_ofNat']; omega
    split at hx
    · rename_i h; rw [List.mem_singleton] at hx; exact one u h hx
    · rcases List.mem_append.1 hx with h | h
      · exact ih (u / 10) (by omega) x h
      · rw [List.mem_singleton] at h; exact one _ (Nat.mod_lt _ (by decide)) h
theorem decDigits_ne (u : Nat) : Lib.decDigits u ≠ [] := by
  rw [Lib.decDigits]; split <;> simp
theorem parse_append : ∀ (l r : List UInt8) (acc m : Nat), Lib.parseUint10 acc l = .ok m → Lib.parseUint10 acc (l ++ r) = Lib.parseUint10 m r
  | [], r, acc, m, h => by simp only [Lib.parseUint10] at h; cases h; rfl
  | c :: l, r, acc, m, h => by
    simp only [Lib.parseUint10] at h
    simp only [List.cons_append, Lib.parseUint10]
    split at h
    · rename_i h1; rw [if_pos h1]
      split at h
      · cases h
      · rename_i h2; rw [if_neg h2]
        split at h
        · cases h
        · rename_i h3; rw [if_neg h3]; exact parse_append l r _ m h
    · cases h
theorem parse_dec (u : Nat) (hu : u < 18446744073709551616) : Lib.parseUint10 0 (Lib.decDigits u) = .ok u := by
  induction u using Nat.strongRecOn with
  | ind u ih =>
    rw [Lib.decDigits]
    have e : ∀ d, d < 10 → (UInt8.ofNat (48 + d)).toNat = 48 + d := fun d hd => by rw [UInt8.toNat_ofNat']; omega
    split
    · rename_i h
      simp only [Lib.parseUint10, e u h]
      rw [if_pos (by omega), if_neg (by omega), if_neg (by omega)]
      congr 1; omega
    · rename_i h
      rw [parse_append _ _ _ _ (ih (u / 10) (by omega) (by omega))]
      have hm : u % 10 < 10 := Nat.mod_lt _ (by decide)
      simp only [Lib.parseUint10, e _ hm]
      rw [if_pos (by omega), if_neg (by omega), if_neg (by omega)]
      congr 1; omega
theorem atoi_itoa (n : Int) (h0 : -9223372036854775808 ≤ n) (h1 : n ≤ 9223372036854775807) : Lib.atoiAll (Lib.itoa n) = .ok n := by
  unfold Lib.itoa
  split
  · rename_i h
    have hp := parse_dec n.natAbs (by omega)
    have hne := decDigits_ne n.natAbs
    simp only [Lib.atoiAll]
    have e45 : (45 : UInt8).toNat = 45 := rfl
    simp only [e45, or_true, if_true, Lib.parseMag, if_neg hne, hp, not_true, false_and, if_false, true_and]
    rw [if_neg (by omega)]
    congr 1; omega
  · rename_i h
    have hp := parse_dec n.toNat (by omega)
    have hne := decDigits_ne n.toNat
    have hd := decDigits_digit n.toNat
    obtain ⟨c, r, hcr⟩ := List.exists_cons_of_ne_nil hne
    rw [hcr] at hp hd ⊢
    have hc := hd c (.head _)
    simp only [Lib.atoiAll]
    rw [if_neg (by omega)]
    have h45 : ¬ c.toNat = 45 := by omega
    simp only [Lib.parseMag, List.cons_ne_nil, if_false, hp, h45, not_false_iff, true_and, false_and]
    rw [if_neg (by omega)]
    congr 1; omega
theorem itoa_word (n : Int) : ∀ x ∈ Lib.itoa n, wordB x = true := by
  intro x hx
  unfold Lib.itoa at hx
  have dw : ∀ u, x ∈ Lib.decDigits u → wordB x = true := fun u h => by
    have := decDigits_digit u x h
    simp only [wordB, Bool.and_eq_true, decide_eq_true_eq]; omega
  split at hx
  · rcases List.mem_cons.1 hx with rfl | h
    · decide
    · exact dw _ h
  · exact dw _ hx

/-! ### the words of a line -/
theorem index_blank : ∀ (x r : List UInt8), (∀ b ∈ x, b ≠ 32) → Lib.index (x ++ 32 :: r) [32] = x.length
  | [], r, _ => by simp [Lib.index]
  | a :: x, r, h => by
    have ih := index_blank x r fun b hb => h b (.tail _ hb)
    have ha : a ≠ 32 := h a (.head _)
    have hp : ([32] : List UInt8).isPrefixOf (a :: (x ++ 32 :: r)) = false := by
      simp only [List.isPrefixOf, Bool.and_true]
      rw [beq_eq_false_iff_ne]; exact fun e => ha e.symm
    rw [List.cons_append]; unfold Lib.index
    rw [if_neg (by rw [hp]; decide), ih]
    have : ((x.length : Int) == -1) = false := by rw [beq_eq_false_iff_ne]; omega
    simp [this]
theorem index_no_blank : ∀ (x : List UInt8), (∀ b ∈ x, b ≠ 32) → Lib.index x [32] = -1
  | [], _ => rfl
  | a :: x, h => by
    have ih := index_no_blank x fun b hb => h b (.tail _ hb)
    have ha : a ≠ 32 := h a (.head _)
    have hp : ([32] : List UInt8).isPrefixOf (a :: x) = false := by
      simp only [List.isPrefixOf, Bool.and_true]
      rw [beq_eq_false_iff_ne]; exact fun e => ha e.symm
    unfold Lib.index
    rw [if_neg (by rw [hp]; decide), ih]; rfl
theorem cut_blank (x r : List UInt8) (h : ∀ b ∈ x, b ≠ 32) : Lib.cut (x ++ 32 :: r) [32] = (x, r, true) := by
  unfold Lib.cut
  rw [index_blank x r h, if_pos (by omega)]
  simp
theorem cut_no_blank (x : List UInt8) (h : ∀ b ∈ x, b ≠ 32) : Lib.cut x [32] = (x, [], false) := by
  unfold Lib.cut
  rw [index_no_blank x h, if_neg (by omega)]
theorem join_cons2 (x y : List UInt8) (r : List (List UInt8)) : Lib.join (x :: y :: r) [32] = x ++ 32 :: Lib.join (y :: r) [32] := by
  simp [Lib.join_cons, Lib.joinTail]
def noBlank (x : List UInt8) : Prop := ∀ b ∈ x, b ≠ 32
theorem noBlank_of_word {x : List UInt8} (h : ∀ b ∈ x, wordB b = true) : noBlank x := fun b hb e => by
  have := h b hb; subst e; revert this; decide
/-- one step of going over a line: its first word, what is behind it, whether there is more -/
theorem cut_join (x : List UInt8) (r : List (List UInt8)) (h : noBlank x) : Lib.cut (Lib.join (x :: r) [32]) [32] = (x, Lib.join r [32], decide (r ≠ [])) := by
  cases r with
  | nil => rw [Lib.join_one, cut_no_blank x h]; rfl
  | cons y r => rw [join_cons2, cut_blank x _ h]; simp

/-! ### a call and its line -/
structure CV where
  kind : Int
  path : ByteArray
  to : ByteArray
  off : Int
  n : Int
  dat : List UInt8
def wd : Nat → ByteArray
  | 1 => ⟨#[99, 114, 101, 97, 116, 101]⟩
  | 2 => ⟨#[109, 107, 100, 105, 114]⟩
  | 3 => ⟨#[108, 105, 110, 107]⟩
  | 4 => ⟨#[117, 110, 108, 105, 110, 107]⟩
  | 5 => ⟨#[114, 109, 100, 105, 114]⟩
  | 6 => ⟨#[114, 101, 110, 97, 109, 101]⟩
  | 7 => ⟨#[114, 101, 97, 100]⟩
  | 8 => ⟨#[119, 114, 105, 116, 101]⟩
  | 9 => ⟨#[116, 114, 117, 110, 99]⟩
  | 10 => ⟨#[115, 116, 97, 116]⟩
  | 11 => ⟨#[108, 105, 115, 116]⟩
  | 12 => ⟨#[102, 115, 121, 110, 99]⟩
  | 13 => ⟨#[115, 121, 110, 99]⟩
  | _ => ⟨#[]⟩
def fd : Nat → ByteArray
  | 1 => ⟨#[112]⟩
  | 2 => ⟨#[112]⟩
  | 3 => ⟨#[112, 113]⟩
  | 4 => ⟨#[112]⟩
  | 5 => ⟨#[112]⟩
  | 6 => ⟨#[112, 113]⟩
  | 7 => ⟨#[112, 111, 110]⟩
  | 8 => ⟨#[112, 111, 100]⟩
  | 9 => ⟨#[112, 110]⟩
  | 10 => ⟨#[112]⟩
  | 11 => ⟨#[112]⟩
  | 12 => ⟨#[112]⟩
  | _ => ⟨#[]⟩
def fieldL (c : CV) (f : UInt8) : List UInt8 :=
  if f = 112 then shL c.path.data.toList else if f = 113 then shL c.to.data.toList else if f = 111 then Lib.itoa c.off else if f = 110 then Lib.itoa c.n else datL c.dat
def known (k : Int) : Bool := decide (1 ≤ k) && decide (k ≤ 13)
/-- the words of a call's line -/
def piecesL (c : CV) : List (List UInt8) := (wd c.kind.toNat).data.toList :: (fd c.kind.toNat).data.toList.map (fieldL c)
def printL (c : CV) : List UInt8 := if known c.kind then Lib.join (piecesL c) [32] else []
/-- a call with what its kind names alone -/
def setF (o c : CV) (f : UInt8) : CV :=
  if f = 112 then { o with path := c.path } else if f = 113 then { o with to := c.to } else if f = 111 then { o with off := c.off } else if f = 110 then { o with n := c.n } else { o with dat := c.dat }
def bareV (k : Int) : CV := ⟨k, ⟨#[]⟩, ⟨#[]⟩, 0, 0, []⟩
def clearV (c : CV) : CV := (fd c.kind.toNat).data.toList.foldl (fun o f => setF o c f) (bareV c.kind)
theorem fieldL_word (c : CV) (f : UInt8) : ∀ x ∈ fieldL c f, wordB x = true := by
  unfold fieldL
  split
  · exact shL_word _
  · split
    · exact shL_word _
    · split
      · exact itoa_word _
      · split
        · exact itoa_word _
        · exact datL_word _
theorem wd_word : ∀ k : Fin 14, ∀ x ∈ (wd k.val).data.toList, wordB x = true := by decide +kernel
theorem wd_fin : ∀ k : Fin 14, ∀ j : Fin 14, 1 ≤ k.val → 1 ≤ j.val → (wd k.val).data.toList = (wd j.val).data.toList → k = j := by decide +kernel
theorem wd_ne : ∀ k : Fin 14, 1 ≤ k.val → (wd k.val).data.toList ≠ [] := by decide +kernel
theorem fd_fin : ∀ k : Fin 14, (fd k.val).data.toList.length ≤ 3 ∧ ∀ f ∈ (fd k.val).data.toList, (f = 112 ∨ f = 113 ∨ f = 111 ∨ f = 110 ∨ f = 100) := by decide +kernel
theorem pieces_word (c : CV) (h : known c.kind = true) : ∀ p ∈ piecesL c, ∀ x ∈ p, wordB x = true := by
  simp only [known, Bool.and_eq_true, decide_eq_true_eq] at h
  intro p hp x hx
  rcases List.mem_cons.1 hp with rfl | hp
  · exact wd_word ⟨c.kind.toNat, by omega⟩ x hx
  · obtain ⟨f, _, rfl⟩ := List.mem_map.1 hp
    exact fieldL_word c f x hx
end Go.Proofs.YtlkeegmpjjoicaaDoor
end

section
/- Small plain lemmas on numbers, bytes and reading memory that the walks share. -/
namespace Go.Proofs.YtlkeegmpjjoicaaDoor
open Go.RowKit

/-- memory holds n bytes from an address on -/
def RdB (w : World) (b o n : Nat) (f : Nat → Nat) : Prop := ∀ k, k < n → w.cell? ⟨b, o + k, none⟩ = some (.int .u8 ((f k : Nat) : Int))
/-- memory holds n ints from an address on -/
def RdI (w : World) (b o n : Nat) (f : Nat → Int) : Prop := ∀ k, k < n → w.cell? ⟨b, o + k, none⟩ = some (.int .i64 (f k))

theorem ret_int {k : IntKind} {a b : Int} (h : a = b) : Ending.returned (.int k a) = .returned (.int k b) := by rw [h]
theorem ret_ib {a b : Int} {c d : Bool} (h : a = b) (h2 : c = d) : Ending.returned (.tuple #[.int .i64 a, .bool c]) = .returned (.tuple #[.int .i64 b, .bool d]) := by rw [h, h2]
theorem ret_iib {a b a2 b2 : Int} {c d : Bool} (h : a = b) (h1 : a2 = b2) (h2 : c = d) : Ending.returned (.tuple #[.int .i64 a, .int .i64 a2, .bool c]) = .returned (.tuple #[.int .i64 b, .int .i64 b2, .bool d]) := by rw [h, h1, h2]
theorem wrap_in (x : Int) (h0 : -9223372036854775808 ≤ x) (h1 : x ≤ 9223372036854775807) : IntKind.i64.wrap x = x := by rw [IntKind.wrap_i64]; omega
theorem mul_le_cast {a b c : Nat} (h : a * b ≤ c) : (a : Int) * (b : Int) ≤ (c : Int) := by rw [← Int.natCast_mul]; omega
theorem mul_nn (a b : Nat) : 0 ≤ (a : Int) * (b : Int) := by rw [← Int.natCast_mul]; omega
theorem wrap_nat (x : Nat) (h : x < 9223372036854775808) : IntKind.i64.wrap (x : Int) = (x : Int) := wrap_in _ (by omega) (by omega)
theorem wrap_tdiv (a b : Nat) (h : a < 9223372036854775808) : IntKind.i64.wrap (Int.tdiv (a : Int) (b : Int)) = ((a / b : Nat) : Int) := by
  have : a / b ≤ a := Nat.div_le_self _ _
  rw [← Int.ofNat_tdiv]; exact wrap_nat _ (by omega)
theorem wrap_tmod (a b : Nat) (h : a < 9223372036854775808) : IntKind.i64.wrap (Int.tmod (a : Int) (b : Int)) = ((a % b : Nat) : Int) := by
  have : a % b ≤ a := Nat.mod_le _ _
  rw [← Int.ofNat_tmod]; exact wrap_nat _ (by omega)
theorem wrap_ediv (a b : Nat) (h : a < 9223372036854775808) : IntKind.i64.wrap ((a : Int) / (b : Int)) = ((a / b : Nat) : Int) := by
  have : a / b ≤ a := Nat.div_le_self _ _
  rw [← Int.natCast_ediv]; exact wrap_nat _ (by omega)
theorem lt_of_cell {w : World} {b o : Nat} {v : Value} (h : w.cell? ⟨b, o, none⟩ = some v) : b < w.heap.size := by
  exact World.block_lt_of_cell? w ⟨b, o, none⟩ h
theorem RdB.below {w w' : World} {b o n : Nat} {f : Nat → Nat} (h : RdB w b o n f) (hb : Below w.heap.size w w') : RdB w' b o n f :=
  fun k hk => by rw [hb.cell (p := ⟨b, o + k, none⟩) (lt_of_cell (h k hk))]; exact h k hk
theorem RdB.z {w : World} {b n : Nat} {f : Nat → Nat} (h : RdB w b 0 n f) (k : Nat) (hk : k < n) : w.cell? ⟨b, k, none⟩ = some (.int .u8 ((f k : Nat) : Int)) := by
  have := h k hk
  rwa [Nat.zero_add] at this
theorem RdI.below {w w' : World} {b o n : Nat} {f : Nat → Int} (h : RdI w b o n f) (hb : Below w.heap.size w w') : RdI w' b o n f :=
  fun k hk => by rw [hb.cell (p := ⟨b, o + k, none⟩) (lt_of_cell (h k hk))]; exact h k hk
theorem RdB.sub {w : World} {b o n : Nat} {f : Nat → Nat} (h : RdB w b o n f) (s m : Nat) (hs : s + m ≤ n) : RdB w b (o + s) m (fun k => f (s + k)) :=
  fun k hk => by rw [show o + s + k = o + (s + k) by omega]; exact h (s + k) (by omega)

theorem bcell {W w1 : World} (hb : Below W.heap.size W w1) : (∀ b o, b < W.heap.size → w1.cell? ⟨b, o, none⟩ = W.cell? ⟨b, o, none⟩) ∧ (∀ b o, b < W.heap.size → w1.frozen? ⟨b, o, none⟩ = W.frozen? ⟨b, o, none⟩) :=
  ⟨fun b o h => hb.cell (p := ⟨b, o, none⟩) h, fun b o h => hb.frozen (p := ⟨b, o, none⟩) h⟩

theorem bdrewN {B : Nat} {a b : World} (h : Below B a b) (n : Nat) : Below B a (b.drewN n) := by
  unfold World.drewN
  exact ⟨h.os, h.tape, h.output, h.size, h.block⟩
/-- the number of n bytes, the lowest first -/
def leN (f : Nat → Nat) : Nat → Nat
  | 0 => 0
  | k + 1 => leN f k + f k * 256 ^ k
theorem leN_lt (f : Nat → Nat) (hf : ∀ k, f k < 256) : ∀ n, leN f n < 256 ^ n
  | 0 => by simp [leN]
  | n + 1 => by
    have := leN_lt f hf n
    have h2 := hf n
    simp only [leN, Nat.pow_succ]
    have : f n * 256 ^ n ≤ 255 * 256 ^ n := Nat.mul_le_mul_right _ (by omega)
    omega
theorem leN_congr {f g : Nat → Nat} : ∀ n, (∀ k, k < n → f k = g k) → leN f n = leN g n
  | 0, _ => rfl
  | n + 1, h => by simp only [leN]; rw [leN_congr n (fun k hk => h k (by omega)), h n (by omega)]
theorem two_pow8 (k : Nat) : 2 ^ (8 * k) = 256 ^ k := by rw [Nat.pow_mul]
theorem two_pow8i (k : Nat) : (2 : Int) ^ (8 * k) = ((256 ^ k : Nat) : Int) := by rw [← two_pow8]; simp
theorem pow256_le {k m : Nat} (h : k ≤ m) : 256 ^ k ≤ 256 ^ m := Nat.pow_le_pow_right (by decide) h
theorem wrap64_nat (x : Nat) (h : x < 9223372036854775808) : wrap64 (x : Int) = x := by unfold wrap64; omega
theorem or_step (n x k : Nat) (hk : k ≤ 6) (hn : n < 256 ^ k) (hx : x < 256) : bits .or .i64 (n : Int) (wrap64 ((x : Int) * 2 ^ (8 * k))) = ((n + x * 256 ^ k : Nat) : Int) := by
  have hp := pow256_le hk
  have h7 : (256 : Nat) ^ 6 = 281474976710656 := by decide
  have hm : x * 256 ^ k < 72057594037927936 := by
    have : x * 256 ^ k ≤ 255 * 256 ^ k := Nat.mul_le_mul_right _ (by omega)
    omega
  have e1 : (x : Int) * 2 ^ (8 * k) = ((x * 256 ^ k : Nat) : Int) := by rw [two_pow8i]; simp
  rw [e1, wrap64_nat _ (by omega)]
  rw [(bits_nat .i64 63 (by decide) (fun m h0 h1 => by rw [IntKind.wrap_i64]; omega) n (x * 256 ^ k) (by omega) (by omega)).2]
  rw [← two_pow8, Nat.mul_comm x, Nat.or_comm, ← Nat.two_pow_add_eq_or_of_lt (by rw [two_pow8]; exact hn), Nat.add_comm]

/-- the k-th byte of a number -/
def byteN (n k : Nat) : Nat := n / 256 ^ k % 256
theorem byteN_lt (n k : Nat) : byteN n k < 256 := Nat.mod_lt _ (by decide)
theorem leN_byteN (n : Nat) : ∀ k, leN (byteN n) k = n % 256 ^ k
  | 0 => by simp [leN, Nat.mod_one]
  | k + 1 => by
    simp only [leN, leN_byteN n k, byteN]
    rw [Nat.pow_succ, Nat.mod_mul, Nat.mul_comm (256 ^ k)]
theorem byteN_leN (f : Nat → Nat) (hf : ∀ k, f k < 256) : ∀ n k, k < n → byteN (leN f n) k = f k
  | 0, _, h => by omega
  | n + 1, k, h => by
    by_cases e : k = n
    · subst e
      simp only [byteN, leN]
      rw [Nat.add_mul_div_right _ _ (Nat.pow_pos (by decide)), Nat.div_eq_of_lt (leN_lt f hf k), Nat.zero_add]
      exact Nat.mod_eq_of_lt (hf k)
    · have ih := byteN_leN f hf n k (by omega)
      simp only [byteN, leN] at ih ⊢
      have h2 : f n * 256 ^ n = f n * 256 ^ (n - k - 1) * 256 * 256 ^ k := by
        rw [Nat.mul_assoc, Nat.mul_assoc]; congr 1
        rw [show n = (n - k - 1) + (k + 1) by omega, Nat.pow_add, Nat.pow_succ, Nat.mul_comm (256 ^ k) 256, show n - k - 1 + (k + 1) - k - 1 = n - k - 1 by omega]
      rw [h2, Nat.add_mul_div_right _ _ (Nat.pow_pos (by decide)), Nat.add_mul_mod_self_right]
      exact ih
/-- the values of n bytes -/
def bytesL (f : Nat → Nat) (n : Nat) : List Value := (List.range n).map fun k => Value.int .u8 ((f k : Nat) : Int)
theorem bytesL_length (f : Nat → Nat) (n : Nat) : (bytesL f n).length = n := by simp [bytesL]
theorem bytesL_snoc (f : Nat → Nat) (n : Nat) : bytesL f (n + 1) = bytesL f n ++ [.int .u8 ((f n : Nat) : Int)] := by simp [bytesL, List.range_succ]
theorem bytesL_get (f : Nat → Nat) (n k : Nat) (h : k < n) : (bytesL f n)[k]? = some (.int .u8 ((f k : Nat) : Int)) := by simp [bytesL, h]
theorem bytesL_congr {f g : Nat → Nat} {n : Nat} (h : ∀ k, k < n → f k = g k) : bytesL f n = bytesL g n := by
  unfold bytesL
  exact List.map_congr_left fun k hk => by rw [h k (by simpa using hk)]
/-- f up to n, then g -/
def catF (n : Nat) (f g : Nat → Nat) : Nat → Nat := fun k => if k < n then f k else g (k - n)
theorem bytesL_append (f g : Nat → Nat) (n m : Nat) : bytesL f n ++ bytesL g m = bytesL (catF n f g) (n + m) := by
  unfold bytesL
  rw [List.range_add, List.map_append, List.map_map]
  congr 1
  · exact List.map_congr_left fun k hk => by have : k < n := by simpa using hk
                                             simp [catF, this]
  · exact List.map_congr_left fun k _ => by have : ¬ n + k < n := by omega
                                            simp [catF, this]
/-- of the blocks that were there only those in s may have changed -/
structure Mods (s : Nat → Prop) (w w' : World) : Prop where
  os : w'.os = w.os
  tape : w'.tape = w.tape
  output : w'.output = w.output
  size : w.heap.size ≤ w'.heap.size
  block : ∀ k, k < w.heap.size → ¬ s k → w'.heap[k]? = w.heap[k]?
theorem Mods.refl (s : Nat → Prop) (w : World) : Mods s w w := ⟨rfl, rfl, rfl, Nat.le_refl _, fun _ _ _ => rfl⟩
theorem Mods.trans {s t : Nat → Prop} {a b c : World} (h : Mods s a b) (k : Mods t b c) (hst : ∀ i, i < a.heap.size → t i → s i) : Mods s a c :=
  ⟨k.os.trans h.os, k.tape.trans h.tape, k.output.trans h.output, Nat.le_trans h.size k.size, fun i hi hn => (k.block i (Nat.lt_of_lt_of_le hi h.size) fun ht => hn (hst i hi ht)).trans (h.block i hi hn)⟩
theorem Mods.mono {s t : Nat → Prop} {a b : World} (h : Mods s a b) (hst : ∀ i, i < a.heap.size → s i → t i) : Mods t a b :=
  ⟨h.os, h.tape, h.output, h.size, fun i hi hn => h.block i hi fun hs => hn (hst i hi hs)⟩
theorem Mods.drew {s : Nat → Prop} {a b : World} (h : Mods s a b) : Mods s a b.drew := ⟨h.os, h.tape, h.output, h.size, h.block⟩
theorem Mods.alloc {s : Nat → Prop} {a b : World} (h : Mods s a b) (o : Obj) : Mods s a (b.alloc o) :=
  h.trans (t := fun _ => False) ⟨rfl, rfl, rfl, by simp, fun k hk _ => Below.heap_alloc _ _ _ hk⟩ fun _ _ f => f.elim
theorem Mods.setCell {s : Nat → Prop} {a b : World} (h : Mods s a b) (p : Addr) (hp : p.block < a.heap.size → s p.block) (u : Value) : Mods s a (b.setCell p u) :=
  h.trans (t := fun k => k = p.block) ⟨rfl, rfl, rfl, by simp [World.setCell], fun k hk hn => Below.heap_setCell _ _ _ _ hn⟩ fun i hi e => by subst e; exact hp hi
theorem Mods.grown {s : Nat → Prop} {a b c : World} {row : Option Nat} (h : Mods s a b) (hg : b.grownBy c row) (hr : ∀ k, row = some k → k < a.heap.size → s k) : Mods s a c :=
  h.trans (t := fun k => row = some k) ⟨hg.os, hg.tape, hg.output, hg.size, fun k hk hn => hg.block k hk fun e => hn e.symm⟩ fun i hi e => hr i e hi
theorem Mods.of_below {a b : World} {B : Nat} (h : Below B a b) : Mods (fun k => B ≤ k) a b := ⟨h.os, h.tape, h.output, h.size, fun k _ hn => h.block k (by omega)⟩
theorem Mods.below {s : Nat → Prop} {a b : World} {B : Nat} (h : Mods s a b) (hs : ∀ k, s k → B ≤ k) (hB : B ≤ a.heap.size) : Below B a b :=
  ⟨h.os, h.tape, h.output, h.size, fun k hk => h.block k (by omega) fun e => by have := hs k e; omega⟩
theorem Mods.cell {s : Nat → Prop} {a b : World} (h : Mods s a b) {g o : Nat} (hg : g < a.heap.size) (hn : ¬ s g) : b.cell? ⟨g, o, none⟩ = a.cell? ⟨g, o, none⟩ :=
  World.cell?_of_block (w := a) (h.block g hg hn)
theorem Mods.frozen {s : Nat → Prop} {a b : World} (h : Mods s a b) {g o : Nat} (hg : g < a.heap.size) (hn : ¬ s g) : b.frozen? ⟨g, o, none⟩ = a.frozen? ⟨g, o, none⟩ :=
  World.frozen?_of_block (w := a) (h.block g hg hn)
theorem Mods.trans_below {s : Nat → Prop} {a b c : World} {B : Nat} (h : Mods s a b) (k : Below B b c) (hB : a.heap.size ≤ B) : Mods s a c :=
  h.trans (Mods.of_below k) fun i hi e => by omega

/-- the same slice, or a new one -/
def SameOr (w : World) (v v' : Value) : Prop := v'.ownBlock = v.ownBlock ∨ ∀ g, v'.ownBlock = some g → w.heap.size ≤ g
theorem SameOr.refl (w : World) (v : Value) : SameOr w v v := .inl rfl
theorem SameOr.step {w wr : World} {v v' : Value} {g n cap : Nat} (h : SameOr w v v') (hat : v'.ownBlock = some g ∨ wr.heap.size ≤ g) (hs : w.heap.size ≤ wr.heap.size) : SameOr w v (.slice (some ⟨g, 0, none⟩) n cap) := by
  rcases hat with h1 | h1
  · rcases h with h2 | h2
    · exact .inl (h1.symm.trans h2)
    · exact .inr fun g' e => by cases e; exact h2 g h1
  · exact .inr fun g' e => by cases e; exact Nat.le_trans hs h1
theorem SameOr.mods {s : Nat → Prop} {w wr w1 : World} {v v' : Value} (h : SameOr w v v') (hm : Mods s w wr) (hg : wr.grownBy w1 v'.ownBlock) (hs : ∀ k, v.ownBlock = some k → s k) : Mods s w w1 :=
  hm.grown hg fun k e hk => by
    rcases h with h | h
    · exact hs k (h ▸ e)
    · have := h k e; omega

/-- a slice that append may take: the call's own, or one that is full (so that append makes a new one) -/
def Src (w : World) (base : Nat) (e : TypeId) (size : Nat) (v : Value) (n : Nat) (xs : List Value) : Prop :=
  w.ownsRow base e size v n xs ∨ ∃ b, v = .slice (some b) n n ∧ 0 < n ∧ xs.length = n * size ∧ ∀ j u, xs[j]? = some u → w.cell? (b.add j) = some u
theorem own_mono {w : World} {base base' : Nat} {e : TypeId} {size : Nat} {v : Value} {n : Nat} {xs : List Value} (h : w.ownsRow base e size v n xs) (hb : base' ≤ base) : w.ownsRow base' e size v n xs := by
  obtain ⟨hl, h⟩ := h
  refine ⟨hl, ?_⟩
  rcases h with h | ⟨g, cap, cur, rfl, hbg, r⟩
  · exact .inl h
  · exact .inr ⟨g, cap, cur, rfl, by omega, r⟩
theorem grownBy_any {w w' : World} {row : Option Nat} (h : w.grownBy w' none) : w.grownBy w' row := ⟨h.os, h.tape, h.output, h.size, fun k hk _ => h.block k hk (by simp)⟩

/-- append(s, t...), at least one -/
theorem src_append {P : Program} {ops : Array Oper} {rest : List Oper} {o : Oper} {a : Act} {w : World} {Q : Exit → Act → World → Prop} (hgd : o.guard = none) (s x : Operand) (t : TypeId)
    (ho : o.op = .call { callee := .builtin .append, args := #[s, x], argTypes := #[t, t] })
    (base : Nat) (e : TypeId) (i : TypeInfo) (z : Value) (size bytes : Nat) (ht : P.underlying t = some (.slice e)) (hi : P.info? e = some i) (hz : i.zero = some z)
    (hsize : i.size = size) (hby : i.bytes = bytes) (hzs : z.cells.size = size) (hsz : 0 < size)
    (v : Value) (n : Nat) (xs : List Value) (hs : a.eval s = v) (hown : Src w base e size v n xs)
    (ad : Addr) (m c : Nat) (news : List Value) (hx : a.eval x = .slice (some ad) m c) (hl : news.length = m * size) (hnews : ∀ j u, news[j]? = some u → w.cell? (ad.add j) = some u) (h1 : ∀ u ∈ news, u.oneCell' = true)
    (hm : 0 < m) (h63 : n + m ≤ maxLen) (hbytes : (n + m) * bytes ≤ 140737488355328) (hbase : base ≤ w.heap.size)
    (h : ∀ g cap w', w'.ownsRow base e size (.slice (some ⟨g, 0, none⟩) (n + m) cap) (n + m) (xs ++ news) → w.grownBy w' v.ownBlock → (v.ownBlock = some g ∨ w.heap.size ≤ g) → g < w'.heap.size → wpList P ops Q rest (a.put o.dst (.slice (some ⟨g, 0, none⟩) (n + m) cap)) w') :
    wpList P ops Q (o :: rest) a w := by
  rcases hown with hown | ⟨b, rfl, hn, hxl, hxs⟩
  · exact wpList_append_lies w hgd s x t ho base e i z size bytes ht hi hz hsize hby hzs hsz v n xs hs hown ad m c news hx hl hnews h1 hm h63 hbytes hbase _ rfl fun g cap w' h2 h3 h4 h5 => h g cap w' h2 h3 (h4.imp id fun e => by omega) h5
  · refine wpList_append_grows w hgd s x t ho e i z size bytes ht hi hz hsize hby hzs hsz (some b) n n xs hs (by simp) hxl (fun b' e => by cases e; exact hxs) ad m c news hx hl hnews h1 (by omega) h63 hbytes ?_
    intro v' w' h2 h3
    obtain ⟨g, cap, rfl, hg, hlt⟩ := h2.form (by omega)
    exact h g cap w' (own_mono h2 hbase) (grownBy_any h3) (.inr hg) hlt

/-- append of one new element (its cells lie in the newest block) -/
theorem app_own {P : Program} {ops : Array Oper} {rest : List Oper} {o : Oper} {a : Act} {wr : World} {Q : Exit → Act → World → Prop} (us : List Value) (hgd : o.guard = none) (s x : Operand) (t : TypeId)
    (ho : o.op = .call { callee := .builtin .append, args := #[s, x], argTypes := #[t, t] })
    (base : Nat) (e : TypeId) (i : TypeInfo) (z : Value) (size bytes : Nat) (ht : P.underlying t = some (.slice e)) (hi : P.info? e = some i) (hz : i.zero = some z)
    (hsize : i.size = size) (hby : i.bytes = bytes) (hzs : z.cells.size = size) (hsz : 0 < size)
    (v : Value) (n : Nat) (xs : List Value) (hs : a.eval s = v) (hown : Src wr base e size v n xs)
    (hx : a.eval x = .slice (some ⟨wr.heap.size, 0, none⟩) 1 1) (hl : us.length = size) (h1 : ∀ u ∈ us, u.oneCell' = true)
    (h63 : n + 1 ≤ maxLen) (hbytes : (n + 1) * bytes ≤ 140737488355328) (hbase : base ≤ wr.heap.size)
    (h : ∀ g cap w', w'.ownsRow base e size (.slice (some ⟨g, 0, none⟩) (n + 1) cap) (n + 1) (xs ++ us) → wr.grownBy w' v.ownBlock → (v.ownBlock = some g ∨ wr.heap.size ≤ g) → g < w'.heap.size → wpList P ops Q rest (a.put o.dst (.slice (some ⟨g, 0, none⟩) (n + 1) cap)) w') :
    wpList P ops Q (o :: rest) a (wr.alloc (.cells us.toArray e)) := by
  have hown' : Src (wr.alloc (.cells us.toArray e)) base e size v n xs := by
    rcases hown with hown | ⟨b, rfl, hn, hxl, hxs⟩
    · exact .inl (hown.alloc _)
    · refine .inr ⟨b, rfl, hn, hxl, fun j u hj => ?_⟩
      have h2 := hxs j u hj
      have h3 := World.block_lt_of_cell? wr _ h2
      rw [World.cell?_alloc_lt _ _ _ h3]; exact h2
  refine src_append hgd s x t ho base e i z size bytes ht hi hz hsize hby hzs hsz v n xs hs hown' ⟨wr.heap.size, 0, none⟩ 1 1 us hx (by rw [hl]; omega) ?_ h1 (by omega) h63 hbytes (by simp; omega) ?_
  · intro j u hj
    have : (⟨wr.heap.size, 0, none⟩ : Addr).add j = ⟨wr.heap.size, j, none⟩ := by cases j <;> simp [Addr.add]
    rw [this, World.cell?_alloc_at _ _ _ _ rfl]
    simpa using hj
  · intro g cap w' hown' hg hat hlt
    have hg' : wr.grownBy w' v.ownBlock := ⟨hg.os, hg.tape, hg.output, by have := hg.size; simp at this; omega, fun k hk hne => by
      rw [hg.block k (by simp; omega) hne]; exact Below.heap_alloc _ _ _ hk⟩
    exact h g cap w' hown' hg' (hat.imp id fun e => by simp at e; omega) hlt
theorem own_below_grown {wr w' : World} {base e size n : Nat} {v : Value} {xs : List Value} (h : wr.ownsRow base e size v n xs) (hg : wr.grownBy w' v.ownBlock) (hb : base ≤ wr.heap.size) : Below base wr w' :=
  (Below.refl base wr).grown hg hb fun k hk => (h.lt k hk).1
end Go.Proofs.YtlkeegmpjjoicaaDoor
end

section
/- Blocks of memory that are known whole. -/
namespace Go.Proofs.YtlkeegmpjjoicaaDoor
open Go.RowKit

/-- block B holds just these cells, none of them shared with a string -/
def Blk (e : TypeId) (w : World) (B : Nat) (xs : List Value) : Prop := w.heap[B]? = some (.cells xs.toArray e (0, 0))
theorem Blk.lt {e : TypeId} {w : World} {B : Nat} {xs : List Value} (h : Blk e w B xs) : B < w.heap.size := by
  unfold Blk at h; exact (Array.getElem?_eq_some_iff.1 h).1
theorem Blk.cell {e : TypeId} {w : World} {B : Nat} {xs : List Value} (h : Blk e w B xs) (i : Nat) : w.cell? ⟨B, i, none⟩ = xs[i]? := by
  rw [cell_of_row w B i xs.toArray e (0, 0) h]; simp
theorem Blk.frozen {e : TypeId} {w : World} {B : Nat} {xs : List Value} (h : Blk e w B xs) (i : Nat) : w.frozen? ⟨B, i, none⟩ = false := frozen_of_row w B i xs.toArray e h
theorem Blk.set {e : TypeId} {w : World} {B : Nat} {xs : List Value} (h : Blk e w B xs) (i : Nat) (v : Value) : Blk e (w.setCell ⟨B, i, none⟩ v) B (xs.set i v) := by
  unfold Blk at h ⊢
  rw [heap_setCell_same w B i xs.toArray e v h]; simp
theorem Blk.other {e : TypeId} {w : World} {B : Nat} {xs : List Value} (h : Blk e w B xs) (p : Addr) (v : Value) (hp : p.block ≠ B) : Blk e (w.setCell p v) B xs := by
  unfold Blk at h ⊢
  rw [Below.heap_setCell _ _ _ _ (fun e => hp e.symm)]; exact h
theorem Blk.alloc {e : TypeId} {w : World} {B : Nat} {xs : List Value} (h : Blk e w B xs) (o : Obj) : Blk e (w.alloc o) B xs := by
  have := h.lt
  unfold Blk at h ⊢
  rw [Below.heap_alloc _ _ _ this]; exact h
theorem Blk.new {e : TypeId} (w : World) (xs : List Value) : Blk e (w.alloc (.cells xs.toArray e)) w.heap.size xs := heap_alloc_new w _
theorem Blk.mods {e : TypeId} {s : Nat → Prop} {w w' : World} {B : Nat} {xs : List Value} (h : Blk e w B xs) (hm : Mods s w w') (hs : ¬ s B) : Blk e w' B xs := by
  have hl := h.lt
  unfold Blk at h ⊢
  rw [hm.block B hl hs]; exact h
theorem Blk.below {e : TypeId} {C : Nat} {w w' : World} {B : Nat} {xs : List Value} (h : Blk e w B xs) (hm : Below C w w') (hs : B < C) : Blk e w' B xs := by
  unfold Blk at h ⊢
  rw [hm.block B hs]; exact h
theorem Blk.drew {e : TypeId} {w : World} {B : Nat} {xs : List Value} (h : Blk e w B xs) : Blk e w.drew B xs := h
theorem Blk.newL {e : TypeId} {w : World} (xs : List Value) : Blk e (w.alloc (.cells xs.toArray e)) w.heap.size xs := heap_alloc_new w _
theorem Blk.snd {e : TypeId} {w : World} (o : Obj) (xs : List Value) : Blk e ((w.alloc o).alloc (.cells xs.toArray e)) (w.heap.size + 1) xs := by
  have := Blk.newL (e := e) (w := w.alloc o) xs
  rwa [World.size_alloc] at this
theorem Blk.fst {e : TypeId} {w : World} (o : Obj) (xs : List Value) : Blk e ((w.alloc (.cells xs.toArray e)).alloc o) w.heap.size xs := (Blk.newL xs).alloc o
/-- what is owned to its end is a block that is known whole -/
theorem Blk.of_own {e : TypeId} {w : World} {base g n : Nat} {xs : List Value} (h : w.ownsRow base e 1 (.slice (some ⟨g, 0, none⟩) n n) n xs) : Blk e w g xs ∧ base ≤ g := by
  obtain ⟨hl, h⟩ := h
  rcases h with ⟨h, _⟩ | ⟨g', cap, cur, hv, hb, hg, hn, _, hs, ht⟩
  · cases h
  · cases hv
    refine ⟨?_, hb⟩
    unfold Blk
    rw [hg, ← ht, List.take_of_length_le (by simp; omega)]
theorem Blk.own {e : TypeId} {w : World} {base g n : Nat} {xs : List Value} (h : Blk e w g xs) (hb : base ≤ g) (hn : xs.length = n) (hm : n ≤ maxLen) : w.ownsRow base e 1 (.slice (some ⟨g, 0, none⟩) n n) n xs :=
  ⟨by omega, .inr ⟨g, n, xs.toArray, rfl, hb, h, Nat.le_refl _, hm, by simp; omega, by rw [List.take_of_length_le (by simp; omega)]⟩⟩

theorem bytesL_set (f : Nat → Nat) (n i x : Nat) (hi : i < n) : (bytesL f n).set i (.int .u8 (x : Int)) = bytesL (fun k => if k = i then x else f k) n := by
  apply List.ext_getElem?
  intro k
  by_cases hk : k < n
  · rw [bytesL_get _ _ _ hk]
    by_cases e : i = k
    · subst e; rw [List.getElem?_set_self (by rw [bytesL_length]; exact hk)]; simp
    · rw [List.getElem?_set_ne e, bytesL_get _ _ _ hk]; simp [Ne.symm e]
  · rw [List.getElem?_eq_none (by simp [bytesL_length]; omega), List.getElem?_eq_none (by simp [bytesL_length]; omega)]
theorem BlkB_rd {e : TypeId} {w : World} {B n : Nat} {f : Nat → Nat} (h : Blk e w B (bytesL f n)) : RdB w B 0 n f := fun k hk => by
  rw [Nat.zero_add, h.cell, bytesL_get _ _ _ hk]
theorem own_rd {e : TypeId} {w : World} {base n : Nat} {v : Value} {f : Nat → Nat} (h : w.ownsRow base e 1 v n (bytesL f n)) (hn : 0 < n) :
    ∃ g cap, v = .slice (some ⟨g, 0, none⟩) n cap ∧ base ≤ g ∧ n ≤ cap ∧ cap ≤ maxLen ∧ RdB w g 0 n f := by
  obtain ⟨hl, h⟩ := h
  rcases h with ⟨_, h⟩ | ⟨g, cap, cur, rfl, hb, hg, hc, hm, hs, ht⟩
  · omega
  · refine ⟨g, cap, rfl, hb, hc, hm, fun k hk => ?_⟩
    rw [Nat.zero_add, cell_of_row w g k cur e (0, 0) hg]
    have h1 := bytesL_get f n k hk
    rw [← ht, List.getElem?_take_of_lt (by omega)] at h1
    simpa using h1
theorem madeCells_one (z : Value) (hz : z.cells = #[z]) (n : Nat) : (madeCells z.cells (n * 1)).toList = List.replicate n z := by
  apply List.ext_getElem?
  intro k
  by_cases hk : k < n
  · simp [madeCells, hz, List.getElem?_replicate, hk, Nat.mod_one]
  · rw [List.getElem?_eq_none (by simp [madeCells]; omega), List.getElem?_eq_none (by simp; omega)]
theorem zeros_bytes (n : Nat) : List.replicate n (Value.int .u8 0) = bytesL (fun _ => 0) n := by
  apply List.ext_getElem?
  intro k
  by_cases hk : k < n
  · rw [bytesL_get _ _ _ hk]; simp [hk]
  · rw [List.getElem?_eq_none (by simp; omega), List.getElem?_eq_none (by simp [bytesL_length]; omega)]

/-- make([]T, n) of scalars -/
theorem mk_one {P : Program} (w : World) {ops : Array Oper} {rest : List Oper} {o : Oper} {a : Act} {Q : Exit → Act → World → Prop}
    (hg : o.guard = none) (l c : Operand) (t : TypeId) (hop : o.op = Op.makeSlice t l c)
    (e : TypeId) (i : TypeInfo) (z : Value) (by_ : Nat) (h1 : P.underlying t = some (.slice e)) (h2 : P.info? e = some i) (h3 : i.zero = some z) (h4 : i.size = 1) (h5 : i.bytes = by_) (hz : z.cells = #[z])
    (kl kc : IntKind) (L C : Int) (n : Nat) (hl : a.eval l = .int kl L) (hc : a.eval c = .int kc C) (hL : L = (n : Int)) (hC : C = (n : Int)) (b2 : by_ * n ≤ 281474976710656) (b3 : n ≤ maxLen)
    (hK : ∀ w', Blk e w' w.heap.size (List.replicate n z) → w.grownBy w' none → wpList P ops Q rest (a.put o.dst (.slice (some ⟨w.heap.size, 0, none⟩) n n)) w') :
    wpList P ops Q (o :: rest) a w := by
  refine wpList_make_full w hg l c t hop w.heap.size e i z 1 h1 h2 h3 h4 kl kc L C n hl hc hL hC (by rw [h5]; exact b2) b3 (Nat.le_refl _) fun w' ho hgr => hK w' ?_ hgr
  rw [madeCells_one z hz] at ho
  exact (Blk.of_own ho).1
end Go.Proofs.YtlkeegmpjjoicaaDoor
end

section
/- append(b, make([]T, n)...) onto a slice that the call owns, for scalars. -/
namespace Go.Proofs.YtlkeegmpjjoicaaDoor
open Go.RowKit
section
variable {P : Program} (w : World)

theorem zeroCells_one (z : Value) (hz : z.cells = #[z]) (n : Nat) : Builtin.zeroCells z.cells n = (List.replicate n z).toArray := by
  apply Array.ext'
  apply List.ext_getElem?
  intro k
  by_cases hk : k < n
  · simp [Builtin.zeroCells, hz, List.getElem?_replicate, hk, Nat.mod_one]
  · rw [List.getElem?_eq_none (by simp [Builtin.zeroCells, hz]; omega), List.getElem?_eq_none (by simp; omega)]

theorem run_append_zeros_room (t tn ty e : TypeId) (i : TypeInfo) (z : Value) (kn k : IntKind) (ht : P.underlying t = some (.slice e)) (htn : P.underlying tn = some (.int kn)) (hi : P.info? e = some i) (hz : i.zero = some z) (hs1 : i.size = 1) (hzc : z.cells = #[z]) (h1 : z.oneCell' = true)
    (g sLen sCap : Nat) (cur : Array Value) (hg : w.heap[g]? = some (.cells cur e (0, 0)))
    (m : Nat) (hm : m ≤ 1000000000) (hb48 : m * i.bytes ≤ 281474976710656) (hroom : sLen + m ≤ sCap) (hfit : sLen + m ≤ cur.size) :
    (Builtin.append_ #[t, tn] ty #[.slice (some ⟨g, 0, none⟩) sLen sCap, .int k m]).run P w =
      .ok (.slice (some ⟨g, 0, none⟩) (sLen + m) sCap) (w.setRow g (cur.toList.take sLen ++ List.replicate m z ++ cur.toList.drop (sLen + m)).toArray) := by
  have hw : IntKind.i64.wrap (m : Int) = m := wrap_nat _ (by omega)
  have hneg : ¬ ((m : Int) < 0) := by omega
  have h48i : ¬ (281474976710656 < (m : Int) * (i.bytes : Int)) := by rw [← Int.natCast_mul]; omega
  have hst := run_storeCells_at P g sLen e (List.replicate m z) 0 cur w hg (by simpa using hfit) (by intro v hv; rw [List.eq_of_mem_replicate hv]; exact h1)
  simp only [Nat.add_zero, List.length_replicate] at hst
  by_cases hm0 : m = 0
  · subst hm0
    have hw0 : IntKind.i64.wrap 0 = 0 := by decide
    have hr0 : sLen ≤ sCap := by omega
    simp [hw0, hr0, Builtin.append_, run_underlying ht, run_underlying htn, sizeOf, typeInfo, hi, hs1, asInt, asIntOf, hw, hneg, h48i, hroom, Addr.add_lit, List.replicate] at hst ⊢
    simp [hst]
  · simp [Builtin.append_, run_underlying ht, run_underlying htn, sizeOf, typeInfo, zeroValue, hi, hz, hs1, asInt, asIntOf, hw, hneg, h48i, hm0, hroom, zeroCells_one z hzc, Addr.add_lit, hst]

theorem run_append_zeros_grow (t tn ty e : TypeId) (i : TypeInfo) (z : Value) (kn k : IntKind) (ht : P.underlying t = some (.slice e)) (htn : P.underlying tn = some (.int kn)) (hi : P.info? e = some i) (hz : i.zero = some z) (hs1 : i.size = 1) (hzc : z.cells = #[z])
    (b : Addr) (sLen sCap : Nat) (olds : List Value) (hlo : olds.length = sLen * i.size) (holds : ∀ j v, olds[j]? = some v → w.cell? (b.add j) = some v)
    (m : Nat) (hpos : 0 < m) (hm : m ≤ 1000000000) (hb48 : m * i.bytes ≤ 281474976710656) (hg : sCap < sLen + m) (h63 : ((sLen + m : Nat) : Int) ≤ 9223372036854775807) (hfit : Builtin.nextslicecap (sLen + m) sCap * i.bytes ≤ 281474976710656) :
    (Builtin.append_ #[t, tn] ty #[.slice (some b) sLen sCap, .int k m]).run P w =
      .ok (.slice (some ⟨w.heap.size, 0, none⟩) (sLen + m) (grownCap w (sLen + m) sCap e))
        (w.drew.alloc (.cells (olds.toArray ++ (List.replicate m z).toArray ++ Builtin.zeroCells z.cells (grownCap w (sLen + m) sCap e - (sLen + m))) e)) := by
  have hw : IntKind.i64.wrap (m : Int) = m := wrap_nat _ (by omega)
  have hneg : ¬ ((m : Int) < 0) := by omega
  have h48i : ¬ (281474976710656 < (m : Int) * (i.bytes : Int)) := by rw [← Int.natCast_mul]; omega
  have hn : ¬ (sLen + m ≤ sCap) := by omega
  have h63' : ¬ (9223372036854775807 < ((sLen : Int) + (m : Int))) := by omega
  have h48' : ¬ (281474976710656 < Builtin.nextslicecap (sLen + m) sCap * i.bytes) := by omega
  have hfo := run_firstCells_some (P := P) w.drew i.size sLen b sLen sCap olds hlo (by simpa using holds)
  have hm0 : m ≠ 0 := by omega
  simp [Builtin.append_, run_underlying ht, run_underlying htn, sizeOf, typeInfo, zeroValue, hi, hz, hs1, asInt, asIntOf, hw, hneg, h48i, hm0, hn, h63', h48', Question.forced, zeroCells_one z hzc, newRow, grownCap] at hfo ⊢
  simp [hfo]

theorem run_append_zeros_own (base : Nat) (t tn ty e : TypeId) (i : TypeInfo) (z : Value) (bytes : Nat) (kn k : IntKind) (ht : P.underlying t = some (.slice e)) (htn : P.underlying tn = some (.int kn)) (hi : P.info? e = some i) (hz : i.zero = some z)
    (hsize : i.size = 1) (hby : i.bytes = bytes) (hzc : z.cells = #[z]) (h1 : z.oneCell' = true)
    (v : Value) (n : Nat) (xs : List Value) (hown : w.ownsRow base e 1 v n xs) (hn : 0 < n)
    (m : Nat) (hm : m ≤ 1000000000) (h63 : n + m ≤ maxLen) (hbytes : (n + m) * bytes ≤ 140737488355328) (hbase : base ≤ w.heap.size) :
    ∃ g cap w', (Builtin.append_ #[t, tn] ty #[v, .int k m]).run P w = .ok (.slice (some ⟨g, 0, none⟩) (n + m) cap) w' ∧ w'.ownsRow base e 1 (.slice (some ⟨g, 0, none⟩) (n + m) cap) (n + m) (xs ++ List.replicate m z) ∧ w.grownBy w' v.ownBlock ∧
      (v.ownBlock = some g ∨ w.heap.size ≤ g) := by
  subst hby
  have hsmall : n + m ≤ 9223372036854775807 := by simp only [maxLen] at h63; omega
  have hmb : m * i.bytes ≤ 281474976710656 := by
    have : m * i.bytes ≤ (n + m) * i.bytes := Nat.mul_le_mul_right _ (by omega)
    omega
  obtain ⟨hlen, hown'⟩ := hown
  rcases hown' with ⟨_, h0⟩ | ⟨g, cap, cur, rfl, hbg, hg, hnc, hcm, hcs, htake⟩
  · omega
  · by_cases hroom : n + m ≤ cap
    · have hr := run_append_zeros_room (P := P) w t tn ty e i z kn k ht htn hi hz hsize hzc h1 g n cap cur hg m hm hmb hroom (by omega)
      refine ⟨_, _, _, hr, ⟨by simp; omega, .inr ⟨g, cap, _, rfl, hbg, setRow_heap w g cur _ e _ hg, hroom, hcm, ?_, ?_⟩⟩, ⟨rfl, rfl, rfl, by simp, fun k _ hk => setRow_other w g k _ (fun e => hk (by simp [Value.ownBlock, e]))⟩, .inl rfl⟩
      · simp; omega
      · rw [Nat.mul_one] at htake ⊢
        simp only [List.toList_toArray]
        rw [htake, List.take_append_of_le_length (by simp; omega), List.take_of_length_le (by simp; omega)]
    · have hm0 : 0 < m := by omega
      have holds : ∀ j u, xs[j]? = some u → w.cell? ((⟨g, 0, none⟩ : Addr).add j) = some u := (show w.ownsRow base e 1 (.slice (some ⟨g, 0, none⟩) n cap) n xs from ⟨hlen, .inr ⟨g, cap, cur, rfl, hbg, hg, hnc, hcm, hcs, htake⟩⟩).cells (g := g) rfl
      have hr := run_append_zeros_grow (P := P) w t tn ty e i z kn k ht htn hi hz hsize hzc ⟨g, 0, none⟩ n cap xs (by rw [hsize]; exact hlen) holds m hm0 hm hmb (by omega) (by omega) (growslice_fits (by omega) hbytes)
      have hge := grownCap_ge w (n + m) cap e
      refine ⟨_, _, _, hr, ⟨by simp; omega, .inr ⟨w.heap.size, _, _, rfl, hbase, heap_alloc_new w.drew _, hge, grownCap_le_maxLen w (n + m) cap e h63, ?_, ?_⟩⟩, ⟨rfl, rfl, rfl, by simp, fun k hk _ => Below.heap_alloc w.drew _ k hk⟩, .inr (Nat.le_refl _)⟩
      · rw [zeroCells_one z hzc]; simp; omega
      · rw [zeroCells_one z hzc]
        simp only [Array.toList_append, List.toList_toArray]
        rw [List.take_append_of_le_length (by simp; omega), List.take_of_length_le (by simp; omega)]

/-- append(b, make([]T, m)...) -/
theorem app_zeros {ops : Array Oper} {rest : List Oper} {o : Oper} {a : Act} {Q : Exit → Act → World → Prop} (hgd : o.guard = none) (s x : Operand) (t tn : TypeId)
    (ho : o.op = .call { callee := .builtin .append, args := #[s, x], argTypes := #[t, tn] })
    (base : Nat) (e : TypeId) (i : TypeInfo) (z : Value) (bytes : Nat) (kn k : IntKind) (ht : P.underlying t = some (.slice e)) (htn : P.underlying tn = some (.int kn)) (hi : P.info? e = some i) (hz : i.zero = some z)
    (hsize : i.size = 1) (hby : i.bytes = bytes) (hzc : z.cells = #[z]) (h1 : z.oneCell' = true)
    (v : Value) (n : Nat) (xs : List Value) (hs : a.eval s = v) (hown : w.ownsRow base e 1 v n xs) (hn : 0 < n)
    (m : Nat) (M : Int) (hx : a.eval x = .int k M) (hM : M = (m : Int)) (hm : m ≤ 1000000000) (h63 : n + m ≤ maxLen) (hbytes : (n + m) * bytes ≤ 140737488355328) (hbase : base ≤ w.heap.size)
    (h : ∀ g cap w', w'.ownsRow base e 1 (.slice (some ⟨g, 0, none⟩) (n + m) cap) (n + m) (xs ++ List.replicate m z) → w.grownBy w' v.ownBlock → (v.ownBlock = some g ∨ w.heap.size ≤ g) → wpList P ops Q rest (a.put o.dst (.slice (some ⟨g, 0, none⟩) (n + m) cap)) w') :
    wpList P ops Q (o :: rest) a w := by
  subst hM
  obtain ⟨g, cap, w', hr, h2, h3, h4⟩ := run_append_zeros_own (P := P) w base t tn o.type e i z bytes kn k ht htn hi hz hsize hby hzc h1 v n xs hown hn m hm h63 hbytes hbase
  exact Lib.wpList_append_run w hgd s x t tn ho _ _ hs hx _ _ hr (h g cap w' h2 h3 h4)
end
end Go.Proofs.YtlkeegmpjjoicaaDoor
end

section
/- copy and append of bytes, in terms of functions from places to bytes. -/
namespace Go.Proofs.YtlkeegmpjjoicaaDoor
open Go.RowKit

/-- f, but from off on m bytes of g -/
def putF (f : Nat → Nat) (off m : Nat) (g : Nat → Nat) : Nat → Nat := fun k => if off ≤ k ∧ k < off + m then g (k - off) else f k
theorem bytesL_put (f g : Nat → Nat) (n off m : Nat) (h : off + m ≤ n) : splice (bytesL f n) off (bytesL g m) = bytesL (putF f off m g) n := by
  apply List.ext_getElem?
  intro k
  unfold splice
  rw [bytesL_length]
  by_cases hk : k < n
  · rw [bytesL_get _ _ _ hk]
    by_cases h1 : k < off
    · rw [List.getElem?_append_left (by simp [bytesL_length]; omega), List.getElem?_take_of_lt h1, bytesL_get _ _ _ hk]
      have : ¬ (off ≤ k ∧ k < off + m) := by omega
      simp only [putF, if_neg this]
    · rw [List.getElem?_append_right (by simp [bytesL_length]; omega)]
      rw [show (List.take off (bytesL f n)).length = off by simp [bytesL_length]; omega]
      by_cases h2 : k < off + m
      · rw [List.getElem?_append_left (by simp [bytesL_length]; omega), bytesL_get _ _ _ (by omega)]
        have : off ≤ k ∧ k < off + m := by omega
        simp only [putF, if_pos this]
      · rw [List.getElem?_append_right (by simp [bytesL_length]; omega), bytesL_length, List.getElem?_drop, show off + m + (k - off - m) = k by omega, bytesL_get _ _ _ hk]
        have : ¬ (off ≤ k ∧ k < off + m) := by omega
        simp only [putF, if_neg this]
  · rw [List.getElem?_eq_none (by simp [bytesL_length]; omega), List.getElem?_eq_none (by simp [bytesL_length]; omega)]
theorem rd_news {w : World} {b o n : Nat} {f : Nat → Nat} (h : RdB w b o n f) : ∀ j u, (bytesL f n)[j]? = some u → w.cell? ((⟨b, o, none⟩ : Addr).add j) = some u := by
  intro j u hj
  have hl : j < n := by have := (List.getElem?_eq_some_iff.1 hj).1; rwa [bytesL_length] at this
  rw [bytesL_get _ _ _ hl] at hj
  have : (⟨b, o, none⟩ : Addr).add j = ⟨b, o + j, none⟩ := by cases j <;> simp [Addr.add]
  rw [this, h j hl]; exact hj
theorem bytes_one (f : Nat → Nat) (n : Nat) : ∀ u ∈ bytesL f n, u.oneCell' = true := by
  intro u hu
  obtain ⟨k, _, rfl⟩ := List.mem_map.1 hu
  rfl

/-- copy(d, s) of bytes into a block that is known whole -/
theorem copy_blk {P : Program} {w : World} {ops : Array Oper} {rest : List Oper} {o : Oper} {a : Act} {Q : Exit → Act → World → Prop} (hgd : o.guard = none) (d s : Operand) (dT sT : TypeId)
    (ho : o.op = .call { callee := .builtin .copy, args := #[d, s], argTypes := #[dT, sT] }) (elem : TypeId) (hu : P.underlying dT = some (.slice elem)) (hsz : (P.info? elem).map (·.size) = some 1)
    (g off dLen dCap sb so sLen sCap : Nat) (hd : a.eval d = .slice (some ⟨g, off, none⟩) dLen dCap) (hs : a.eval s = .slice (some ⟨sb, so, none⟩) sLen sCap)
    (n : Nat) (f fs : Nat → Nat) (t : TypeId) (hg : Blk t w g (bytesL f n)) (m : Nat) (hm : m = Nat.min sLen dLen) (hsrc : RdB w sb so m fs) (hfit : off + m ≤ n)
    (h : ∀ w', Blk t w' g (bytesL (putF f off m fs) n) → Mods (fun k => k = g) w w' → wpList P ops Q rest (a.put o.dst (goInt m)) w') :
    wpList P ops Q (o :: rest) a w := by
  have hl : (bytesL fs m).length = m := bytesL_length _ _
  refine wpList_copy_own hgd d s dT sT ho elem hu hsz g off dLen dCap ⟨sb, so, none⟩ sLen sCap hd hs (bytesL f n).toArray t hg (bytesL fs m) (by rw [hl, hm]) (rd_news hsrc) (by simp [bytesL_length]; omega) (bytes_one _ _) ?_
  have h2 := h (w.setRow g (splice (bytesL f n) off (bytesL fs m)).toArray) (by rw [bytesL_put _ _ _ _ _ hfit]; exact setRow_heap w g _ _ t _ hg) ⟨rfl, rfl, rfl, by simp, fun k _ hk => setRow_other w g k _ hk⟩
  simpa [splice, hl] using h2

theorem own_mods {s : Nat → Prop} {w w' : World} {base e size n : Nat} {v : Value} {xs : List Value} (h : w.ownsRow base e size v n xs) (hm : Mods s w w') (hs : ∀ g, v.ownBlock = some g → ¬ s g) : w'.ownsRow base e size v n xs := by
  obtain ⟨hl, h⟩ := h
  refine ⟨hl, ?_⟩
  rcases h with h | ⟨g, cap, cur, rfl, hb, hg, r⟩
  · exact .inl h
  · exact .inr ⟨g, cap, cur, rfl, hb, by rw [hm.block g (Array.getElem?_eq_some_iff.1 hg).1 (hs g rfl)]; exact hg, r⟩
theorem own_below {w w' : World} {base e size n : Nat} {v : Value} {xs : List Value} (h : w.ownsRow base e size v n xs) (hm : Below w.heap.size w w') : w'.ownsRow base e size v n xs := by
  refine own_mods h (Mods.of_below hm) fun g hg => ?_
  have := (h.lt g hg).2
  omega

/-- append(s, t...) of bytes onto a slice of the call's own -/
theorem app_bytes {P : Program} {w : World} {ops : Array Oper} {rest : List Oper} {o : Oper} {a : Act} {Q : Exit → Act → World → Prop} (hgd : o.guard = none) (s x : Operand) (t : TypeId)
    (ho : o.op = .call { callee := .builtin .append, args := #[s, x], argTypes := #[t, t] })
    (base : Nat) (e : TypeId) (i : TypeInfo) (ht : P.underlying t = some (.slice e)) (hi : P.info? e = some i) (hz : i.zero = some (.int .u8 0)) (hsize : i.size = 1) (hby : i.bytes = 1)
    (v : Value) (n : Nat) (f : Nat → Nat) (hs : a.eval s = v) (hown : Src w base e 1 v n (bytesL f n))
    (sb so m c : Nat) (fs : Nat → Nat) (hx : a.eval x = .slice (some ⟨sb, so, none⟩) m c) (hsrc : RdB w sb so m fs) (hm : 0 < m) (hb : n + m ≤ 1000000000) (hbase : base ≤ w.heap.size)
    (h : ∀ g cap w', w'.ownsRow base e 1 (.slice (some ⟨g, 0, none⟩) (n + m) cap) (n + m) (bytesL (catF n f fs) (n + m)) → w.grownBy w' v.ownBlock → (v.ownBlock = some g ∨ w.heap.size ≤ g) → wpList P ops Q rest (a.put o.dst (.slice (some ⟨g, 0, none⟩) (n + m) cap)) w') :
    wpList P ops Q (o :: rest) a w := by
  refine src_append hgd s x t ho base e i (.int .u8 0) 1 1 ht hi hz hsize hby rfl (by decide) v n _ hs hown ⟨sb, so, none⟩ m c (bytesL fs m) hx (by rw [bytesL_length]; omega) (rd_news hsrc) (bytes_one _ _) hm (by unfold maxLen; omega) (by omega) hbase ?_
  intro g cap w' ho' hg hat _
  rw [bytesL_append] at ho'
  exact h g cap w' ho' hg hat
theorem src_of_rd {w : World} {base e b o n : Nat} {f : Nat → Nat} (h : RdB w b o n f) (hn : 0 < n) : Src w base e 1 (.slice (some ⟨b, o, none⟩) n n) n (bytesL f n) :=
  .inr ⟨⟨b, o, none⟩, rfl, hn, by simp [bytesL_length], rd_news h⟩
theorem Src.below {w w' : World} {base e size n : Nat} {v : Value} {xs : List Value} (h : Src w base e size v n xs) (hm : Below w.heap.size w w') : Src w' base e size v n xs := by
  rcases h with h | ⟨b, rfl, hn, hxl, hxs⟩
  · exact .inl (own_below h hm)
  · exact .inr ⟨b, rfl, hn, hxl, fun j u hj => by rw [hm.cell (World.block_lt_of_cell? w _ (hxs j u hj))]; exact hxs j u hj⟩
theorem catF_lt {n : Nat} {f g : Nat → Nat} (hf : ∀ k, f k < 256) (hg : ∀ k, g k < 256) : ∀ k, catF n f g k < 256 := fun k => by unfold catF; split <;> simp [hf, hg]
theorem putF_lt {f g : Nat → Nat} {off m : Nat} (hf : ∀ k, f k < 256) (hg : ∀ k, g k < 256) : ∀ k, putF f off m g k < 256 := fun k => by unfold putF; split <;> simp [hf, hg]
end Go.Proofs.YtlkeegmpjjoicaaDoor
end

section
/- Bytes by two digits each: hexed. -/
namespace Go.Proofs.YtlkeegmpjjoicaaDoor
open Go.RowKit

def u8s (l : List UInt8) : List Value := l.map fun x => .int .u8 (x.toNat : Int)
/-- memory holds these bytes -/
def RdL (w : World) (b o : Nat) (l : List UInt8) : Prop := ∀ j x, l[j]? = some x → w.cell? ⟨b, o + j, none⟩ = some (.int .u8 (x.toNat : Int))
theorem RdL.below {w w' : World} {b o : Nat} {l : List UInt8} (h : RdL w b o l) (hb : Below w.heap.size w w') : RdL w' b o l :=
  fun k x hk => by rw [hb.cell (p := ⟨b, o + k, none⟩) (lt_of_cell (h k x hk))]; exact h k x hk
/-- a slice of bytes that reads as l -/
def SlB (w : World) (v : Value) (l : List UInt8) : Prop := ∃ a cap, v = .slice a l.length cap ∧ ((a = none ∧ l = []) ∨ ∃ b o, a = some ⟨b, o, none⟩ ∧ RdL w b o l)
theorem u8s_get {l : List UInt8} {j : Nat} {x : UInt8} (h : l[j]? = some x) : (u8s l)[j]? = some (.int .u8 (x.toNat : Int)) := by simp [u8s, h]
theorem SlB.of_own {w : World} {B : Nat} {e : TypeId} {v : Value} {n : Nat} {l : List UInt8} (h : w.ownsRow B e 1 v n (u8s l)) : SlB w v l := by
  obtain ⟨hl, h⟩ := h
  have hn : n = l.length := by simpa [u8s] using hl.symm
  rcases h with ⟨rfl, h⟩ | ⟨g, cap, cur, rfl, hb, hg, hc, hm, hs, ht⟩
  · have : l = [] := List.length_eq_zero_iff.1 (by omega)
    subst this
    exact ⟨none, 0, rfl, .inl ⟨rfl, rfl⟩⟩
  · refine ⟨some ⟨g, 0, none⟩, cap, by rw [hn], .inr ⟨g, 0, rfl, fun j x hx => ?_⟩⟩
    rw [Nat.zero_add, cell_of_row w g j cur e (0, 0) hg]
    have h1 := u8s_get hx
    have hj : j < l.length := (List.getElem?_eq_some_iff.1 hx).1
    rw [← ht, List.getElem?_take_of_lt (by omega)] at h1
    simpa using h1
theorem SlB.below {w w' : World} {v : Value} {l : List UInt8} (h : SlB w v l) (hb : Below w.heap.size w w') : SlB w' v l := by
  obtain ⟨a, cap, hv, h⟩ := h
  refine ⟨a, cap, hv, h.imp id ?_⟩
  rintro ⟨b, o, e, h⟩
  exact ⟨b, o, e, h.below hb⟩
theorem SlB.str {w : World} {v : Value} {l : List UInt8} (h : SlB w v l) : (convert 22 9 v).run Tryd.prog w = .ok (.string ⟨l.toArray⟩) w := by
  obtain ⟨a, cap, rfl, h⟩ := h
  rcases h with ⟨rfl, rfl⟩ | ⟨b, o, rfl, h⟩
  · rw [show ([] : List UInt8).length = 0 from rfl, run_convert_bytes_string w _ _ _ none 0 _ Tryd.underlying22 Tryd.underlying5 Tryd.underlying9]; rfl
  · refine run_convert_bytes_back w _ _ _ _ _ _ Tryd.underlying22 Tryd.underlying5 Tryd.underlying9 fun j hj => ?_
    have : (⟨b, o, none⟩ : Addr).add j = ⟨b, o + j, none⟩ := by cases j <;> simp [Addr.add]
    rw [this]; exact h j _ (List.getElem?_eq_getElem hj)
def digs : ByteArray := ⟨#[48, 49, 50, 51, 52, 53, 54, 55, 56, 57, 97, 98, 99, 100, 101, 102]⟩
theorem digs_fin : ∀ n : Fin 16, digs.data.toList[n.val]? = some (hx n.val) := by decide +kernel

theorem and15 (n : Nat) (h : n < 256) : bits .and .u8 (n : Int) 15 = ((n % 16 : Nat) : Int) := by
  have := bits_mask .u8 8 (by decide) wraps_u8 4 (by decide) (n : Int) (by omega) (by show _ < (256 : Int); omega)
  rw [Int.natCast_emod]; exact this
theorem dig_at (i : Nat) (h : i < 16) (hi : i < (⟨#[48, 49, 50, 51, 52, 53, 54, 55, 56, 57, 97, 98, 99, 100, 101, 102]⟩ : ByteArray).size) : (⟨#[48, 49, 50, 51, 52, 53, 54, 55, 56, 57, 97, 98, 99, 100, 101, 102]⟩ : ByteArray)[i]'hi = hx i := by
  have h2 := digs_fin ⟨i, h⟩
  have h3 : digs.data.toList[i]? = some (digs.data.toList[i]'(by rw [Array.length_toList]; exact hi)) := List.getElem?_eq_getElem _
  rw [show ((⟨i, h⟩ : Fin 16).val) = i from rfl, h3] at h2
  exact Option.some.inj h2
theorem cells_new2 (w : World) (B : Nat) (x y : Value) (t : TypeId) (hB : w.heap.size = B) : ∀ j u, [x, y][j]? = some u → (w.alloc (.cells #[x, y] t)).cell? ((⟨B, 0, none⟩ : Addr).add j) = some u := by
  subst hB
  intro j u h
  have hb := Blk.new (e := t) w [x, y]
  have := hb.cell j
  rw [h] at this
  simpa [Addr.add_lit] using this
theorem infoB : (Tryd.prog.info? 5).map (fun i => (i.zero, i.size, i.bytes)) = some (some (.int .u8 0), 1, 1) := by kernel_rfl
theorem take_snoc' {α : Type} (l : List α) (k : Nat) (x : α) (h : l[k]? = some x) : l.take (k + 1) = l.take k ++ [x] := by rw [List.take_add_one, h]; rfl
theorem hexed_step {l : List UInt8} {k n : Nat} {x : UInt8} {w1 : World} {B : Nat} {e : TypeId} {v : Value} {h1 h2} (hxk : l[k]? = some x)
    (h : w1.ownsRow B e 1 v n (u8s (hexL (l.take k)) ++ [.int .u8 (((⟨#[48, 49, 50, 51, 52, 53, 54, 55, 56, 57, 97, 98, 99, 100, 101, 102]⟩ : ByteArray)[((x.toNat : Int) / 16).toNat]'h1).toNat : Int), .int .u8 (((⟨#[48, 49, 50, 51, 52, 53, 54, 55, 56, 57, 97, 98, 99, 100, 101, 102]⟩ : ByteArray)[((x.toNat : Int) % 16).toNat]'h2).toNat : Int)])) :
    w1.ownsRow B e 1 v n (u8s (hexL (l.take (k + 1)))) := by
  have d1 : ((⟨#[48, 49, 50, 51, 52, 53, 54, 55, 56, 57, 97, 98, 99, 100, 101, 102]⟩ : ByteArray)[((x.toNat : Int) / 16).toNat]'h1) = hx (x.toNat / 16) := by
    have e : ((x.toNat : Int) / 16).toNat = x.toNat / 16 := by omega
    simp only [e]; exact dig_at _ (div16 x) _
  have d2 : ((⟨#[48, 49, 50, 51, 52, 53, 54, 55, 56, 57, 97, 98, 99, 100, 101, 102]⟩ : ByteArray)[((x.toNat : Int) % 16).toNat]'h2) = Go.Proofs.YtlkeegmpjjoicaaDoor.hx (x.toNat % 16) := by
    have e : ((x.toNat : Int) % 16).toNat = x.toNat % 16 := by omega
    simp only [e]; exact dig_at _ (mod16 x) _
  rw [d1, d2] at h
  rw [take_snoc' l k x hxk]
  simpa [hexL, u8s, hexB] using h

set_option maxHeartbeats 1000000 in
theorem hexed_c (b o cap : Nat) (l : List UInt8) (hl : l.length ≤ 1000000) (w : World) (h : RdL w b o l) :
    Calls Tryd.prog 27 #[.slice (some ⟨b, o, none⟩) l.length cap] w fun e w' => e = .returned (.string ⟨(hexL l).toArray⟩) ∧ Below w.heap.size w w' := by
  obtain ⟨n, hn⟩ : ∃ n, n = l.length := ⟨_, rfl⟩
  rw [← hn] at hl ⊢
  have HN := Lib.hid hn; have HR := Lib.hid h
  obtain ⟨i0, hi, hz0, hz1, hz2⟩ := info_parts infoB
  clear hn h
  go_enter Tryd.func27, Tryd.ntmps27
  go_wp2
  go_loopw [3, 8] (fun v i wr => ∃ k : Nat, k ≤ n ∧ i = .int .i64 k ∧ wr.ownsRow w.heap.size 5 1 v (2 * k) (u8s (hexL (l.take k))) ∧ Below w.heap.size w wr) (fun _ i _ => n - (intOf i).toNat)
  case atStart => exact ⟨0, by omega, rfl, World.ownsRow_nil _ _ _ _, Below.refl _ _⟩
  case round =>
    obtain ⟨k, hk, rfl, hown, hB⟩ := hrel
    by_cases hlt : k < n
    · obtain ⟨x, hx⟩ : ∃ x, l[k]? = some x := ⟨l[k]'(by rw [← HN.out]; exact hlt), List.getElem?_eq_getElem _⟩
      have hc := (HR.out.below hB) k x hx
      have h256 := x.toNat_lt
      have HX := Lib.hid hx
      clear hx
      have ha := and15 x.toNat h256
      rw [Int.natCast_emod] at ha
      have i1 : (0 : Int) ≤ (x.toNat : Int) / 16 := by omega
      have i2 : (x.toNat : Int) / 16 < 16 := by omega
      have i3 : (0 : Int) ≤ (x.toNat : Int) % 16 := by omega
      have i4 : (x.toNat : Int) % 16 < 16 := by omega
      go_wp2
      go_region_law (refine step_append_lies _ rfl _ _ 22 rfl w.heap.size 5 i0 (.int .u8 0) 1 1 Tryd.underlying22 hi hz0 hz1 hz2 rfl (by decide) _ (2 * k) _ rfl (hown.alloc _) ⟨wr.heap.size, 0, none⟩ 2 2 _ rfl (by rfl) (cells_new2 _ _ _ _ _ rfl) (by simp [Value.oneCell']) (by decide) (by unfold maxLen; omega) (by omega) (by have := hB.size; simp; omega) _ rfl ?_; intro g cap w1 ho1 hg1 ha1 hl1)
      all_goals
        have ho2 := hexed_step HX.out ho1
        have hB2 : Below w.heap.size w w1 := ((hB.alloc (by have := hB.size; omega) _).drew).trans (own_below_grown (wr := World.drew _) (hown.alloc _) hg1 (by have := hB.size; simp; omega))
        clear ho1 hg1 ha1 hl1
        go_wp2
        go_roundw
        case rel => exact ⟨k + 1, by omega, by go_num, ho2, hB2⟩
        case measure => simp [intOf]; omega
    · obtain rfl : k = n := by omega
      have hk2 : l.take k = l := by rw [HN.out, List.take_length]
      rw [hk2] at hown
      have hcv := (SlB.of_own hown).str
      clear hk2
      go_wp2
      go_ret
      exact ⟨rfl, hB⟩
end Go.Proofs.YtlkeegmpjjoicaaDoor
end

section
/- Contracts of the library that the calls lean on, laid by the kit out of its shelf (lay-plain), two of them by hand. -/
namespace Go.Proofs
open Go.Shelf
def Tryd.lays169_ren : Go.Shelf.Ren := ⟨fun | 169 => 29 | n => n, fun | 70 => 57 | 9 => 9 | 0 => 0 | 72 => 59 | 37 => 22 | 127 => 79 | 3 => 3 | 5 => 5 | n => n, fun | n => n⟩
theorem Tryd.lays169 : Go.Proofs.Lays.n169 Tryd.prog Tryd.lays169_ren := {
  mixed := by kernel_rfl
  f169 := Tryd.func29.trans (congrArg some (by kernel_rfl))
  t0 := Tryd.underlying0
  a0 := Tryd.isAgg0
  z0 := Tryd.sizeOf0
  v0 := Tryd.zeroValue0
  t3 := Tryd.underlying3
  a3 := Tryd.isAgg3
  z3 := Tryd.sizeOf3
  v3 := Tryd.zeroValue3
  t9 := Tryd.underlying9
  a9 := Tryd.isAgg9
  z9 := Tryd.sizeOf9
  v9 := Tryd.zeroValue9
  t37 := Tryd.underlying22
  a37 := Tryd.isAgg22
  z37 := Tryd.sizeOf22
  v37 := Tryd.zeroValue22
  t70 := Tryd.underlying57
  a70 := Tryd.isAgg57
  z70 := Tryd.sizeOf57
  v70 := Tryd.zeroValue57
  t72 := Tryd.underlying59
  a72 := Tryd.isAgg59
  z72 := Tryd.sizeOf59
  v72 := Tryd.zeroValue59
  t127 := Tryd.underlying79
  a127 := Tryd.isAgg79
  z127 := Tryd.sizeOf79
  v127 := Tryd.zeroValue79 }
theorem Tryd.Builder_Extra_169 : Builder.Extra Tryd.prog Tryd.lays169_ren := {
  sizeBuilder := by kernel_rfl
  liesBuilder := by kernel_rfl
  t5 := Tryd.underlying5
  a5 := Tryd.isAgg5
  z5 := Tryd.sizeOf5
  v5 := Tryd.zeroValue5
  infoByte := by kernel_rfl
  cellsByte := by kernel_rfl
  sizeByte := by kernel_rfl
  neB5 := by decide }
open Go.RowKit in
/-- (*strings.Builder).String: "String returns the accumulated string.": WHATEVER THE BUILDER HOLDS. (LAID: no walk: one application.) -/
theorem Tryd.Builder_String_any (B b : Nat) (l : List UInt8) (w : World) (h : Lib.IsBuilder 59 5 B b (Lib.byteCells l) w) (hBw : B ≤ w.heap.size) :
    Calls Tryd.prog 29 #[.pointer (some ⟨b, 0, none⟩)] w fun e w' => e = .returned (.string ⟨l.toArray⟩) ∧ Below B w w' := Any.Builder_String_any Tryd.lays169 Tryd.Builder_Extra_169 B b l w h hBw
def Tryd.lays156_ren : Go.Shelf.Ren := ⟨fun | 156 => 20 | 165 => 31 | 166 => 26 | 169 => 29 | 240 => 40 | 241 => 42 | 276 => 46 | 277 => 51 | n => n, fun | 31 => 34 | 9 => 9 | 3 => 3 | 4 => 4 | 0 => 0 | 20 => 20 | 72 => 59 | 76 => 62 | 70 => 57 | 37 => 22 | 75 => 61 | 127 => 79 | 164 => 84 | 5 => 5 | 80 => 65 | n => n, fun | n => n⟩
theorem Tryd.lays156 : Go.Proofs.Lays.n156 Tryd.prog Tryd.lays156_ren := {
  mixed := by kernel_rfl
  f156 := Tryd.func20.trans (congrArg some (by kernel_rfl))
  f165 := Tryd.func31.trans (congrArg some (by kernel_rfl))
  f166 := Tryd.func26.trans (congrArg some (by kernel_rfl))
  f169 := Tryd.func29.trans (congrArg some (by kernel_rfl))
  f240 := Tryd.func40.trans (congrArg some (by kernel_rfl))
  f241 := Tryd.func42.trans (congrArg some (by kernel_rfl))
  f276 := Tryd.func46.trans (congrArg some (by kernel_rfl))
  f277 := Tryd.func51.trans (congrArg some (by kernel_rfl))
  t0 := Tryd.underlying0
  a0 := Tryd.isAgg0
  z0 := Tryd.sizeOf0
  v0 := Tryd.zeroValue0
  t3 := Tryd.underlying3
  a3 := Tryd.isAgg3
  z3 := Tryd.sizeOf3
  v3 := Tryd.zeroValue3
  t4 := Tryd.underlying4
  a4 := Tryd.isAgg4
  z4 := Tryd.sizeOf4
  v4 := Tryd.zeroValue4
  t9 := Tryd.underlying9
  a9 := Tryd.isAgg9
  z9 := Tryd.sizeOf9
  v9 := Tryd.zeroValue9
  t20 := Tryd.underlying20
  a20 := Tryd.isAgg20
  z20 := Tryd.sizeOf20
  v20 := Tryd.zeroValue20
  t31 := Tryd.underlying34
  a31 := Tryd.isAgg34
  z31 := Tryd.sizeOf34
  v31 := Tryd.zeroValue34
  t37 := Tryd.underlying22
  a37 := Tryd.isAgg22
  z37 := Tryd.sizeOf22
  v37 := Tryd.zeroValue22
  t70 := Tryd.underlying57
  a70 := Tryd.isAgg57
  z70 := Tryd.sizeOf57
  v70 := Tryd.zeroValue57
  t72 := Tryd.underlying59
  a72 := Tryd.isAgg59
  z72 := Tryd.sizeOf59
  v72 := Tryd.zeroValue59
  t75 := Tryd.underlying61
  a75 := Tryd.isAgg61
  z75 := Tryd.sizeOf61
  v75 := Tryd.zeroValue61
  t76 := Tryd.underlying62
  a76 := Tryd.isAgg62
  z76 := Tryd.sizeOf62
  v76 := Tryd.zeroValue62
  t127 := Tryd.underlying79
  a127 := Tryd.isAgg79
  z127 := Tryd.sizeOf79
  v127 := Tryd.zeroValue79
  t164 := Tryd.underlying84
  a164 := Tryd.isAgg84
  z164 := Tryd.sizeOf84
  v164 := Tryd.zeroValue84 }
theorem Tryd.Builder_Extra_156 : Builder.Extra Tryd.prog Tryd.lays156_ren := {
  sizeBuilder := by kernel_rfl
  liesBuilder := by kernel_rfl
  t5 := Tryd.underlying5
  a5 := Tryd.isAgg5
  z5 := Tryd.sizeOf5
  v5 := Tryd.zeroValue5
  infoByte := by kernel_rfl
  cellsByte := by kernel_rfl
  sizeByte := by kernel_rfl
  neB5 := by decide }
open Go.RowKit in
/-- No element: the empty string; the world is as it was. (Whatever the slice's address and capacity: a nil slice too.) (LAID: no walk: one application.) -/
theorem Tryd.strings_Join_none (a : Option Addr) (c : Nat) (sep : ByteArray) (w : World) :
    Calls Tryd.prog 20 #[.slice a 0 c, .string sep] w fun e w' => e = .returned (.string ⟨#[]⟩) ∧ w' = w := Any.strings_Join_none Tryd.lays156 Tryd.Builder_Extra_156 a c sep w
open Go.RowKit in
/-- strings.Join: "Join concatenates the elements of its first argument to create a single string. The separator string sep is placed between elements in the resulting string.": HOWEVER MANY ELEMENTS. Below the heap's end the world is as it was. (LAID: no walk: one application.) -/
theorem Tryd.strings_Join (bk o c : Nat) (xs : List ByteArray) (sep : ByteArray) (w : World) (hcells : ∀ (j : Nat) x, xs[j]? = some x → w.cell? ⟨bk, o + j, none⟩ = some (.string x)) (hbk : bk < w.heap.size) (hN : xs.length ≤ 140737488355328) (hcap : xs.length ≤ c) (hlen : (Lib.join (xs.map (·.data.toList)) sep.data.toList).length ≤ 140737488355328) :
    Calls Tryd.prog 20 #[.slice (some ⟨bk, o, none⟩) xs.length c, .string sep] w fun e w' => e = .returned (.string ⟨(Lib.join (xs.map (·.data.toList)) sep.data.toList).toArray⟩) ∧ Below w.heap.size w w' := Any.strings_Join Tryd.lays156 Tryd.Builder_Extra_156 bk o c xs sep w hcells hbk hN hcap hlen
def Tryd.lays137_ren : Go.Shelf.Ren := ⟨fun | 137 => 53 | 217 => 61 | 266 => 72 | n => n, fun | 9 => 9 | 5 => 5 | 3 => 3 | n => n, fun | n => n⟩
theorem Tryd.lays137 : Go.Proofs.Lays.n137 Tryd.prog Tryd.lays137_ren := {
  mixed := by kernel_rfl
  f137 := Tryd.func53.trans (congrArg some (by kernel_rfl))
  f217 := Tryd.func61.trans (congrArg some (by kernel_rfl))
  f266 := Tryd.func72.trans (congrArg some (by kernel_rfl))
  t3 := Tryd.underlying3
  a3 := Tryd.isAgg3
  z3 := Tryd.sizeOf3
  v3 := Tryd.zeroValue3
  t5 := Tryd.underlying5
  a5 := Tryd.isAgg5
  z5 := Tryd.sizeOf5
  v5 := Tryd.zeroValue5
  t9 := Tryd.underlying9
  a9 := Tryd.isAgg9
  z9 := Tryd.sizeOf9
  v9 := Tryd.zeroValue9 }
open Go.RowKit in
/-- strings.IndexByte: "IndexByte returns the index of the first instance of c in s, or -1 if c is not present in s.": IT RETURNS 'Lib.indexByte s c'; the world is as it was. (LAID: no walk: one application.) -/
theorem Tryd.strings_IndexByte (s : ByteArray) (c : Int) (w : World) :
    Calls Tryd.prog 53 #[.string s, .int .u8 c] w fun e w' => e = .returned (.int .i64 (Lib.indexByte s.data.toList c.toNat.toUInt8)) ∧ w' = w := Any.strings_IndexByte Tryd.lays137 s c w
def Tryd.laysM171_ren : Go.Shelf.Ren := ⟨fun | 171 => 18 | 243 => 30 | 246 => 41 | 283 => 47 | 284 => 48 | 285 => 49 | 286 => 50 | 129 => 57 | 317 => 56 | 318 => 58 | 319 => 59 | 320 => 60 | 337 => 70 | 338 => 71 | n => n, fun | 3 => 3 | 9 => 9 | 2 => 2 | 4 => 4 | 171 => 86 | 0 => 0 | 53 => 87 | 37 => 22 | 5 => 5 | 173 => 90 | 212 => 98 | 51 => 99 | 20 => 20 | 213 => 100 | 46 => 56 | 232 => 117 | 233 => 118 | n => n, fun | 17 => 0 | 18 => 4 | 19 => 5 | n => n⟩
theorem Tryd.laysM171 : Go.Proofs.LaysM.n171 Tryd.prog Tryd.laysM171_ren := {
  mixed := by kernel_rfl
  f129 := Tryd.func57.trans (congrArg some (by kernel_rfl))
  f171 := Tryd.func18.trans (congrArg some (by kernel_rfl))
  f243 := Tryd.func30.trans (congrArg some (by kernel_rfl))
  f246 := Tryd.func41.trans (congrArg some (by kernel_rfl))
  f283 := Tryd.func47.trans (congrArg some (by kernel_rfl))
  f284 := Tryd.func48.trans (congrArg some (by kernel_rfl))
  f285 := Tryd.func49.trans (congrArg some (by kernel_rfl))
  f286 := Tryd.func50.trans (congrArg some (by kernel_rfl))
  f317 := Tryd.func56.trans (congrArg some (by kernel_rfl))
  f318 := Tryd.func58.trans (congrArg some (by kernel_rfl))
  f319 := Tryd.func59.trans (congrArg some (by kernel_rfl))
  f320 := Tryd.func60.trans (congrArg some (by kernel_rfl))
  f337 := Tryd.func70.trans (congrArg some (by kernel_rfl))
  f338 := Tryd.func71.trans (congrArg some (by kernel_rfl))
  t0 := Tryd.underlying0
  a0 := Tryd.isAgg0
  z0 := Tryd.sizeOf0
  v0 := Tryd.zeroValue0
  t2 := Tryd.underlying2
  a2 := Tryd.isAgg2
  z2 := Tryd.sizeOf2
  v2 := Tryd.zeroValue2
  t3 := Tryd.underlying3
  a3 := Tryd.isAgg3
  z3 := Tryd.sizeOf3
  v3 := Tryd.zeroValue3
  t4 := Tryd.underlying4
  a4 := Tryd.isAgg4
  z4 := Tryd.sizeOf4
  v4 := Tryd.zeroValue4
  t5 := Tryd.underlying5
  a5 := Tryd.isAgg5
  z5 := Tryd.sizeOf5
  v5 := Tryd.zeroValue5
  t9 := Tryd.underlying9
  a9 := Tryd.isAgg9
  z9 := Tryd.sizeOf9
  v9 := Tryd.zeroValue9
  t20 := Tryd.underlying20
  a20 := Tryd.isAgg20
  z20 := Tryd.sizeOf20
  v20 := Tryd.zeroValue20
  t37 := Tryd.underlying22
  a37 := Tryd.isAgg22
  z37 := Tryd.sizeOf22
  v37 := Tryd.zeroValue22
  t46 := Tryd.underlying56
  a46 := Tryd.isAgg56
  z46 := Tryd.sizeOf56
  v46 := Tryd.zeroValue56
  t51 := Tryd.underlying99
  a51 := Tryd.isAgg99
  z51 := Tryd.sizeOf99
  v51 := Tryd.zeroValue99
  t53 := Tryd.underlying87
  a53 := Tryd.isAgg87
  z53 := Tryd.sizeOf87
  v53 := Tryd.zeroValue87
  t171 := Tryd.underlying86
  a171 := Tryd.isAgg86
  z171 := Tryd.sizeOf86
  v171 := Tryd.zeroValue86
  t173 := Tryd.underlying90
  a173 := Tryd.isAgg90
  z173 := Tryd.sizeOf90
  v173 := Tryd.zeroValue90
  t212 := Tryd.underlying98
  a212 := Tryd.isAgg98
  z212 := Tryd.sizeOf98
  v212 := Tryd.zeroValue98
  t213 := Tryd.underlying100
  a213 := Tryd.isAgg100
  z213 := Tryd.sizeOf100
  t232 := Tryd.underlying117
  a232 := Tryd.isAgg117
  z232 := Tryd.sizeOf117
  v232 := Tryd.zeroValue117
  t233 := Tryd.underlying118
  a233 := Tryd.isAgg118
  z233 := Tryd.sizeOf118
  v233 := Tryd.zeroValue118
  g17 := by kernel_rfl
  g18 := by kernel_rfl
  g19 := by kernel_rfl
  i0 := by kernel_rfl
  i2 := by kernel_rfl
  i3 := by kernel_rfl
  i4 := by kernel_rfl
  i5 := by kernel_rfl
  i9 := by kernel_rfl
  i20 := by kernel_rfl
  i37 := by kernel_rfl
  i46 := by kernel_rfl
  i51 := by kernel_rfl
  i53 := by kernel_rfl
  i171 := by kernel_rfl
  i173 := by kernel_rfl
  i212 := by kernel_rfl
  i232 := by kernel_rfl
  i233 := by kernel_rfl
  m17 := by kernel_rfl
  m18 := by kernel_rfl
  m19 := by kernel_rfl }
open Go.RowKit Go.Sort Go.Lib in
/-- strconv.Itoa: "Itoa is equivalent to FormatInt(int64(i), 10).": i's DECIMAL NUMERAL ('Lib.itoa': a '-' where i is negative, then the digits), FOR EVERY int. The world behind the call: the world before it, new blocks behind the heap (the library's 'var a [24]byte'), draws. (LAID: no walk: one application.) -/
theorem Tryd.strconv_Itoa (n : Int) (h0 : -9223372036854775808 ≤ n) (h1 : n ≤ 9223372036854775807) (w : World) (htab : Lib.TabIs Tryd.prog w "internal/strconv.uint64pow10" .u64 Lib.pow10Tab) :
    Calls Tryd.prog 18 #[.int .i64 n] w fun e w' => e = .returned (.string ⟨(Lib.itoa n).toArray⟩) ∧ ∃ k os, w' = grow (w.drewN k) os := Any.strconv_Itoa Tryd.laysM171 n h0 h1 w htab
def Tryd.laysC172_ren : Go.Shelf.Ren := ⟨fun | 172 => 45 | 244 => 54 | 245 => 55 | 247 => 65 | 279 => 66 | 280 => 67 | 281 => 68 | 282 => 69 | 287 => 74 | 316 => 75 | 171 => 18 | 205 => 76 | 321 => 77 | 322 => 78 | 243 => 30 | 246 => 41 | 283 => 47 | 284 => 48 | 285 => 49 | 286 => 50 | 129 => 57 | 317 => 56 | 318 => 58 | 319 => 59 | 320 => 60 | 337 => 70 | 338 => 71 | n => n, fun | 9 => 9 | 3 => 3 | 75 => 61 | 76 => 62 | 4 => 4 | 5 => 5 | 167 => 103 | 37 => 22 | 0 => 0 | 85 => 104 | 2 => 2 | 168 => 106 | 53 => 87 | 175 => 112 | 46 => 56 | 210 => 115 | 127 => 79 | 145 => 122 | 143 => 120 | 21 => 21 | 171 => 86 | 173 => 90 | 212 => 98 | 51 => 99 | 20 => 20 | 213 => 100 | 232 => 117 | 233 => 118 | 80 => 65 | n => n, fun | 15 => 2 | 16 => 3 | 17 => 0 | 18 => 4 | 19 => 5 | n => n⟩
theorem Tryd.laysC172 : Go.Proofs.LaysC.n172 Tryd.prog Tryd.laysC172_ren := {
  mixed := by kernel_rfl
  f129 := Tryd.func57.trans (congrArg some (by kernel_rfl))
  f171 := Tryd.func18.trans (congrArg some (by kernel_rfl))
  f172 := Tryd.func45.trans (congrArg some (by kernel_rfl))
  f205 := Tryd.func76.trans (congrArg some (by kernel_rfl))
  f243 := Tryd.func30.trans (congrArg some (by kernel_rfl))
  f244 := Tryd.func54.trans (congrArg some (by kernel_rfl))
  f245 := Tryd.func55.trans (congrArg some (by kernel_rfl))
  f246 := Tryd.func41.trans (congrArg some (by kernel_rfl))
  f247 := Tryd.func65.trans (congrArg some (by kernel_rfl))
  f279 := Tryd.func66.trans (congrArg some (by kernel_rfl))
  f280 := Tryd.func67.trans (congrArg some (by kernel_rfl))
  f281 := Tryd.func68.trans (congrArg some (by kernel_rfl))
  f282 := Tryd.func69.trans (congrArg some (by kernel_rfl))
  f283 := Tryd.func47.trans (congrArg some (by kernel_rfl))
  f284 := Tryd.func48.trans (congrArg some (by kernel_rfl))
  f285 := Tryd.func49.trans (congrArg some (by kernel_rfl))
  f286 := Tryd.func50.trans (congrArg some (by kernel_rfl))
  f287 := Tryd.func74.trans (congrArg some (by kernel_rfl))
  f316 := Tryd.func75.trans (congrArg some (by kernel_rfl))
  f317 := Tryd.func56.trans (congrArg some (by kernel_rfl))
  f318 := Tryd.func58.trans (congrArg some (by kernel_rfl))
  f319 := Tryd.func59.trans (congrArg some (by kernel_rfl))
  f320 := Tryd.func60.trans (congrArg some (by kernel_rfl))
  f321 := Tryd.func77.trans (congrArg some (by kernel_rfl))
  f322 := Tryd.func78.trans (congrArg some (by kernel_rfl))
  f337 := Tryd.func70.trans (congrArg some (by kernel_rfl))
  f338 := Tryd.func71.trans (congrArg some (by kernel_rfl))
  t0 := Tryd.underlying0
  a0 := Tryd.isAgg0
  z0 := Tryd.sizeOf0
  v0 := Tryd.zeroValue0
  t2 := Tryd.underlying2
  a2 := Tryd.isAgg2
  z2 := Tryd.sizeOf2
  v2 := Tryd.zeroValue2
  t3 := Tryd.underlying3
  a3 := Tryd.isAgg3
  z3 := Tryd.sizeOf3
  v3 := Tryd.zeroValue3
  t4 := Tryd.underlying4
  a4 := Tryd.isAgg4
  z4 := Tryd.sizeOf4
  v4 := Tryd.zeroValue4
  t5 := Tryd.underlying5
  a5 := Tryd.isAgg5
  z5 := Tryd.sizeOf5
  v5 := Tryd.zeroValue5
  t9 := Tryd.underlying9
  a9 := Tryd.isAgg9
  z9 := Tryd.sizeOf9
  v9 := Tryd.zeroValue9
  t20 := Tryd.underlying20
  a20 := Tryd.isAgg20
  z20 := Tryd.sizeOf20
  v20 := Tryd.zeroValue20
  t21 := Tryd.underlying21
  a21 := Tryd.isAgg21
  z21 := Tryd.sizeOf21
  v21 := Tryd.zeroValue21
  t37 := Tryd.underlying22
  a37 := Tryd.isAgg22
  z37 := Tryd.sizeOf22
  v37 := Tryd.zeroValue22
  t46 := Tryd.underlying56
  a46 := Tryd.isAgg56
  z46 := Tryd.sizeOf56
  v46 := Tryd.zeroValue56
  t51 := Tryd.underlying99
  a51 := Tryd.isAgg99
  z51 := Tryd.sizeOf99
  v51 := Tryd.zeroValue99
  t53 := Tryd.underlying87
  a53 := Tryd.isAgg87
  z53 := Tryd.sizeOf87
  v53 := Tryd.zeroValue87
  t75 := Tryd.underlying61
  a75 := Tryd.isAgg61
  z75 := Tryd.sizeOf61
  v75 := Tryd.zeroValue61
  t76 := Tryd.underlying62
  a76 := Tryd.isAgg62
  z76 := Tryd.sizeOf62
  v76 := Tryd.zeroValue62
  t85 := Tryd.underlying104
  a85 := Tryd.isAgg104
  z85 := Tryd.sizeOf104
  v85 := Tryd.zeroValue104
  t127 := Tryd.underlying79
  a127 := Tryd.isAgg79
  z127 := Tryd.sizeOf79
  v127 := Tryd.zeroValue79
  t143 := Tryd.underlying120
  a143 := Tryd.isAgg120
  z143 := Tryd.sizeOf120
  v143 := Tryd.zeroValue120
  t145 := Tryd.underlying122
  a145 := Tryd.isAgg122
  z145 := Tryd.sizeOf122
  v145 := Tryd.zeroValue122
  t167 := Tryd.underlying103
  a167 := Tryd.isAgg103
  z167 := Tryd.sizeOf103
  v167 := Tryd.zeroValue103
  t168 := Tryd.underlying106
  a168 := Tryd.isAgg106
  z168 := Tryd.sizeOf106
  v168 := Tryd.zeroValue106
  t171 := Tryd.underlying86
  a171 := Tryd.isAgg86
  z171 := Tryd.sizeOf86
  v171 := Tryd.zeroValue86
  t173 := Tryd.underlying90
  a173 := Tryd.isAgg90
  z173 := Tryd.sizeOf90
  v173 := Tryd.zeroValue90
  t175 := Tryd.underlying112
  a175 := Tryd.isAgg112
  z175 := Tryd.sizeOf112
  v175 := Tryd.zeroValue112
  t210 := Tryd.underlying115
  a210 := Tryd.isAgg115
  z210 := Tryd.sizeOf115
  v210 := Tryd.zeroValue115
  t212 := Tryd.underlying98
  a212 := Tryd.isAgg98
  z212 := Tryd.sizeOf98
  v212 := Tryd.zeroValue98
  t213 := Tryd.underlying100
  a213 := Tryd.isAgg100
  z213 := Tryd.sizeOf100
  t232 := Tryd.underlying117
  a232 := Tryd.isAgg117
  z232 := Tryd.sizeOf117
  v232 := Tryd.zeroValue117
  t233 := Tryd.underlying118
  a233 := Tryd.isAgg118
  z233 := Tryd.sizeOf118
  v233 := Tryd.zeroValue118
  g15 := by kernel_rfl
  g16 := by kernel_rfl
  g17 := by kernel_rfl
  g18 := by kernel_rfl
  g19 := by kernel_rfl
  t80 := Tryd.underlying65
  a80 := Tryd.isAgg65
  z80 := Tryd.sizeOf65
  v80 := Tryd.zeroValue65
  i0 := by kernel_rfl
  i2 := by kernel_rfl
  i3 := by kernel_rfl
  i4 := by kernel_rfl
  i5 := by kernel_rfl
  i9 := by kernel_rfl
  i20 := by kernel_rfl
  i21 := by kernel_rfl
  i37 := by kernel_rfl
  i46 := by kernel_rfl
  i51 := by kernel_rfl
  i53 := by kernel_rfl
  i75 := by kernel_rfl
  i76 := by kernel_rfl
  i80 := by kernel_rfl
  i85 := by kernel_rfl
  i127 := by kernel_rfl
  i143 := by kernel_rfl
  i145 := by kernel_rfl
  i167 := by kernel_rfl
  i168 := by kernel_rfl
  i171 := by kernel_rfl
  i173 := by kernel_rfl
  i175 := by kernel_rfl
  i210 := by kernel_rfl
  i212 := by kernel_rfl
  i232 := by kernel_rfl
  i233 := by kernel_rfl
  m15 := by kernel_rfl
  m16 := by kernel_rfl
  m17 := by kernel_rfl
  m18 := by kernel_rfl
  m19 := by kernel_rfl
  c0 := by kernel_rfl
  c2 := by kernel_rfl
  c3 := by kernel_rfl
  c4 := by kernel_rfl
  c5 := by kernel_rfl
  c9 := by kernel_rfl
  c20 := by kernel_rfl
  c21 := by kernel_rfl
  c37 := by kernel_rfl
  c46 := by kernel_rfl
  c51 := by kernel_rfl
  c53 := by kernel_rfl
  c75 := by kernel_rfl
  c76 := by kernel_rfl
  c80 := by kernel_rfl
  c85 := by kernel_rfl
  c127 := by kernel_rfl
  c143 := by kernel_rfl
  c145 := by kernel_rfl
  c167 := by kernel_rfl
  c168 := by kernel_rfl
  c171 := by kernel_rfl
  c173 := by kernel_rfl
  c175 := by kernel_rfl
  c210 := by kernel_rfl
  c212 := by kernel_rfl
  c213 := by kernel_rfl
  c232 := by kernel_rfl
  c233 := by kernel_rfl }
open Go.RowKit in
/-- strconv.Atoi, AT EVERY STRING THAT SPELLS AN int ('Lib.atoiAll .. = .ok v'; of whatever length: leading zeros count): v, AND NO ERROR. The world: as it was, or with the one new row that '[]byte(..)' lays. (LAID: no walk: one application.) -/
theorem Tryd.strconv_Atoi_ok (s : ByteArray) (hmax : s.size ≤ 9223372036854775806) (v : Int) (h : Lib.atoiAll s.data.toList = .ok v) (w : World) :
    Calls Tryd.prog 45 #[.string s] w fun e w' => e = .returned (.tuple #[.int .i64 v, .nilIface]) ∧ (w' = w ∨ ∃ t, w' = Lib.bytesWorld w 5 t) := Any.strconv_Atoi_ok Tryd.laysC172 s hmax v h w
def Tryd.lays145_ren : Go.Shelf.Ren := ⟨fun | 145 => 33 | 220 => 43 | 219 => 52 | 217 => 61 | 225 => 62 | 224 => 63 | 267 => 64 | 266 => 72 | 314 => 73 | n => n, fun | 9 => 9 | 4 => 4 | 59 => 68 | 3 => 3 | 5 => 5 | 46 => 56 | 146 => 110 | 51 => 99 | n => n, fun | 1 => 1 | n => n⟩
theorem Tryd.lays145 : Go.Proofs.Lays.n145 Tryd.prog Tryd.lays145_ren := {
  mixed := by kernel_rfl
  f145 := Tryd.func33.trans (congrArg some (by kernel_rfl))
  f217 := Tryd.func61.trans (congrArg some (by kernel_rfl))
  f219 := Tryd.func52.trans (congrArg some (by kernel_rfl))
  f220 := Tryd.func43.trans (congrArg some (by kernel_rfl))
  f224 := Tryd.func63.trans (congrArg some (by kernel_rfl))
  f225 := Tryd.func62.trans (congrArg some (by kernel_rfl))
  f266 := Tryd.func72.trans (congrArg some (by kernel_rfl))
  f267 := Tryd.func64.trans (congrArg some (by kernel_rfl))
  f314 := Tryd.func73.trans (congrArg some (by kernel_rfl))
  t3 := Tryd.underlying3
  a3 := Tryd.isAgg3
  z3 := Tryd.sizeOf3
  v3 := Tryd.zeroValue3
  t4 := Tryd.underlying4
  a4 := Tryd.isAgg4
  z4 := Tryd.sizeOf4
  v4 := Tryd.zeroValue4
  t5 := Tryd.underlying5
  a5 := Tryd.isAgg5
  z5 := Tryd.sizeOf5
  v5 := Tryd.zeroValue5
  t9 := Tryd.underlying9
  a9 := Tryd.isAgg9
  z9 := Tryd.sizeOf9
  v9 := Tryd.zeroValue9
  t46 := Tryd.underlying56
  a46 := Tryd.isAgg56
  z46 := Tryd.sizeOf56
  v46 := Tryd.zeroValue56
  t51 := Tryd.underlying99
  a51 := Tryd.isAgg99
  z51 := Tryd.sizeOf99
  v51 := Tryd.zeroValue99
  t59 := Tryd.underlying68
  a59 := Tryd.isAgg68
  z59 := Tryd.sizeOf68
  v59 := Tryd.zeroValue68
  t146 := Tryd.underlying110
  a146 := Tryd.isAgg110
  z146 := Tryd.sizeOf110
  v146 := Tryd.zeroValue110
  g1 := by kernel_rfl }
open Go.RowKit Go.Lib in
/-- strings.Cut: "Cut slices s around the first instance of sep, returning the text before and after sep. The found result reports whether sep appears in s. If sep does not appear in s, cut returns s, "", false.": IT RETURNS 'Lib.cut s sep'; the world is as it was but for the count of draws. (LAID: no walk: one application.) -/
theorem Tryd.strings_Cut (s sep : ByteArray) (m : Int) (w : World) (hs : s.size < 4294967281) (hm : w.cell? ⟨1, 0, none⟩ = some (.int .i64 m)) :
    Calls Tryd.prog 33 #[.string s, .string sep] w fun e w' => e = .returned (.tuple #[.string ⟨(Lib.cut s.data.toList sep.data.toList).1.toArray⟩, .string ⟨(Lib.cut s.data.toList sep.data.toList).2.1.toArray⟩, .bool (Lib.cut s.data.toList sep.data.toList).2.2]) ∧ ∃ n, w' = w.drewN n := Any.strings_Cut Tryd.lays145 s sep m w hs hm
def Tryd.lays166_ren : Go.Shelf.Ren := ⟨fun | 156 => 20 | 165 => 31 | 166 => 26 | 167 => 28 | 169 => 29 | 240 => 40 | 241 => 42 | 276 => 46 | 277 => 51 | n => n, fun | 31 => 34 | 9 => 9 | 3 => 3 | 4 => 4 | 0 => 0 | 20 => 20 | 72 => 59 | 76 => 62 | 70 => 57 | 37 => 22 | 75 => 61 | 127 => 79 | 164 => 84 | 5 => 5 | 80 => 65 | n => n, fun | n => n⟩
theorem Tryd.lays166 : Go.Proofs.Lays.n166 Tryd.prog Tryd.lays166_ren := {
  mixed := by kernel_rfl
  f166 := Tryd.func26.trans (congrArg some (by kernel_rfl))
  f240 := Tryd.func40.trans (congrArg some (by kernel_rfl))
  f276 := Tryd.func46.trans (congrArg some (by kernel_rfl))
  t0 := Tryd.underlying0
  a0 := Tryd.isAgg0
  z0 := Tryd.sizeOf0
  v0 := Tryd.zeroValue0
  t3 := Tryd.underlying3
  a3 := Tryd.isAgg3
  z3 := Tryd.sizeOf3
  v3 := Tryd.zeroValue3
  t4 := Tryd.underlying4
  a4 := Tryd.isAgg4
  z4 := Tryd.sizeOf4
  v4 := Tryd.zeroValue4
  t9 := Tryd.underlying9
  a9 := Tryd.isAgg9
  z9 := Tryd.sizeOf9
  v9 := Tryd.zeroValue9
  t20 := Tryd.underlying20
  a20 := Tryd.isAgg20
  z20 := Tryd.sizeOf20
  v20 := Tryd.zeroValue20
  t37 := Tryd.underlying22
  a37 := Tryd.isAgg22
  z37 := Tryd.sizeOf22
  v37 := Tryd.zeroValue22
  t70 := Tryd.underlying57
  a70 := Tryd.isAgg57
  z70 := Tryd.sizeOf57
  v70 := Tryd.zeroValue57
  t72 := Tryd.underlying59
  a72 := Tryd.isAgg59
  z72 := Tryd.sizeOf59
  v72 := Tryd.zeroValue59
  t75 := Tryd.underlying61
  a75 := Tryd.isAgg61
  z75 := Tryd.sizeOf61
  v75 := Tryd.zeroValue61
  t164 := Tryd.underlying84
  a164 := Tryd.isAgg84
  z164 := Tryd.sizeOf84
  v164 := Tryd.zeroValue84 }
theorem Tryd.Builder_Extra_166 : Builder.Extra Tryd.prog Tryd.lays166_ren := {
  sizeBuilder := by kernel_rfl
  liesBuilder := by kernel_rfl
  t5 := Tryd.underlying5
  a5 := Tryd.isAgg5
  z5 := Tryd.sizeOf5
  v5 := Tryd.zeroValue5
  infoByte := by kernel_rfl
  cellsByte := by kernel_rfl
  sizeByte := by kernel_rfl
  neB5 := by decide }
def Tryd.lays167_ren : Go.Shelf.Ren := ⟨fun | 156 => 20 | 165 => 31 | 166 => 26 | 167 => 28 | 169 => 29 | 240 => 40 | 241 => 42 | 276 => 46 | 277 => 51 | n => n, fun | 31 => 34 | 9 => 9 | 3 => 3 | 4 => 4 | 0 => 0 | 20 => 20 | 72 => 59 | 76 => 62 | 70 => 57 | 37 => 22 | 75 => 61 | 127 => 79 | 164 => 84 | 5 => 5 | 80 => 65 | n => n, fun | n => n⟩
theorem Tryd.lays167 : Go.Proofs.Lays.n167 Tryd.prog Tryd.lays167_ren := {
  mixed := by kernel_rfl
  f167 := Tryd.func28.trans (congrArg some (by kernel_rfl))
  f240 := Tryd.func40.trans (congrArg some (by kernel_rfl))
  f276 := Tryd.func46.trans (congrArg some (by kernel_rfl))
  t0 := Tryd.underlying0
  a0 := Tryd.isAgg0
  z0 := Tryd.sizeOf0
  v0 := Tryd.zeroValue0
  t4 := Tryd.underlying4
  a4 := Tryd.isAgg4
  z4 := Tryd.sizeOf4
  v4 := Tryd.zeroValue4
  t5 := Tryd.underlying5
  a5 := Tryd.isAgg5
  z5 := Tryd.sizeOf5
  v5 := Tryd.zeroValue5
  t9 := Tryd.underlying9
  a9 := Tryd.isAgg9
  z9 := Tryd.sizeOf9
  v9 := Tryd.zeroValue9
  t20 := Tryd.underlying20
  a20 := Tryd.isAgg20
  z20 := Tryd.sizeOf20
  v20 := Tryd.zeroValue20
  t37 := Tryd.underlying22
  a37 := Tryd.isAgg22
  z37 := Tryd.sizeOf22
  v37 := Tryd.zeroValue22
  t70 := Tryd.underlying57
  a70 := Tryd.isAgg57
  z70 := Tryd.sizeOf57
  v70 := Tryd.zeroValue57
  t72 := Tryd.underlying59
  a72 := Tryd.isAgg59
  z72 := Tryd.sizeOf59
  v72 := Tryd.zeroValue59
  t75 := Tryd.underlying61
  a75 := Tryd.isAgg61
  z75 := Tryd.sizeOf61
  v75 := Tryd.zeroValue61
  t164 := Tryd.underlying84
  a164 := Tryd.isAgg84
  z164 := Tryd.sizeOf84
  v164 := Tryd.zeroValue84 }
theorem Tryd.Builder_Extra_167 : Builder.Extra Tryd.prog Tryd.lays167_ren := {
  sizeBuilder := by kernel_rfl
  liesBuilder := by kernel_rfl
  t5 := Tryd.underlying5
  a5 := Tryd.isAgg5
  z5 := Tryd.sizeOf5
  v5 := Tryd.zeroValue5
  infoByte := by kernel_rfl
  cellsByte := by kernel_rfl
  sizeByte := by kernel_rfl
  neB5 := by decide }
open Go.RowKit in
/-- Builder_WriteByte of a builder that the call has made. -/
theorem Tryd.Builder_WriteByte (B b : Nat) (bs : List Value) (c : Int) (w : World) (h : Lib.IsBuilder 59 5 B b bs w) (hlen : bs.length + 1 ≤ 140737488355328) (hBw : B ≤ w.heap.size) :
    Calls Tryd.prog 28 #[.pointer (some ⟨b, 0, none⟩), .int .u8 c] w fun e w' => e = .returned .nilIface ∧ (Lib.BuilderAt 59 5 B b (.pointer (some ⟨b, 0, none⟩)) (bs ++ [.int .u8 c]) w' ∧ Below B w w') := Any.Builder_WriteByte Tryd.lays167 Tryd.Builder_Extra_167 B b bs c w h hlen hBw
open Go.RowKit in
/-- Builder_WriteString of a builder that the call has made. -/
theorem Tryd.Builder_WriteString (B b : Nat) (bs : List Value) (s : ByteArray) (w : World) (h : Lib.IsBuilder 59 5 B b bs w) (hlen : bs.length + s.size ≤ 140737488355328) (hBw : B ≤ w.heap.size) :
    Calls Tryd.prog 26 #[.pointer (some ⟨b, 0, none⟩), .string s] w fun e w' => e = .returned (.tuple #[.int .i64 s.size, .nilIface]) ∧ (Lib.BuilderAt 59 5 B b (.pointer (some ⟨b, 0, none⟩)) (bs ++ Lib.strCells s) w' ∧ Below B w w') := Any.Builder_WriteString Tryd.lays166 Tryd.Builder_Extra_166 B b bs s w h hlen hBw
end Go.Proofs
end

section
/- Bytes read back off their digits: unhexed. -/
namespace Go.Proofs.YtlkeegmpjjoicaaDoor
open Go.RowKit

theorem ix_digs : ∀ n : Fin 16, Lib.indexByte [48, 49, 50, 51, 52, 53, 54, 55, 56, 57, 97, 98, 99, 100, 101, 102] (hx n.val) = (n.val : Int) := by decide +kernel
theorem or16 : ∀ c : Fin 256, bits .or .i64 (wrap64 ((c.val : Int) / 16 * 16)) ((c.val : Int) % 16) % 256 = (c.val : Int) := by decide +kernel
theorem or16b : ∀ c : Fin 256, bits .or .i64 ((c.val : Int) / 16 * 16) ((c.val : Int) % 16) % 256 = (c.val : Int) := by decide +kernel
def dvI (b : UInt8) : Int := Lib.indexByte [48, 49, 50, 51, 52, 53, 54, 55, 56, 57, 97, 98, 99, 100, 101, 102] b
theorem dvI_hx {n : Nat} (h : n < 16) {b : UInt8} (hb : b = hx n) : dvI b = (n : Int) := by subst hb; exact ix_digs ⟨n, h⟩
theorem ixd (b : UInt8) (w : World) : Calls Tryd.prog 53 #[.string ⟨#[48, 49, 50, 51, 52, 53, 54, 55, 56, 57, 97, 98, 99, 100, 101, 102]⟩, .int .u8 (b.toNat : Int)] w fun e w' => e = .returned (.int .i64 (dvI b)) ∧ w' = w :=
  (Tryd.strings_IndexByte _ _ _).mono fun e w' h => ⟨by rw [h.1]; simp [dvI], h.2⟩
theorem hexL_at (l : List UInt8) (k : Nat) (x : UInt8) (h : l[k]? = some x) : (hexL l)[2 * k]? = some (hx (x.toNat / 16)) ∧ (hexL l)[2 * k + 1]? = some (hx (x.toNat % 16)) := by
  induction l generalizing k with
  | nil => simp at h
  | cons a l ih =>
    have e : hexL (a :: l) = hx (a.toNat / 16) :: hx (a.toNat % 16) :: hexL l := by simp [hexL, hexB]
    rw [e]
    cases k with
    | zero => simp at h; subst h; simp
    | succ k =>
      simp only [List.getElem?_cons_succ] at h
      have := ih k h
      rw [show 2 * (k + 1) = 2 * k + 1 + 1 by omega]
      simpa using this
theorem sz (s : ByteArray) : s.data.toList.length = s.size := by rw [Array.length_toList]; rfl
theorem at_of {s : ByteArray} {l : List UInt8} (h : s.data.toList = l) {j : Nat} {b : UInt8} (hj : l[j]? = some b) (hl : j < s.size) : s[j] = b := by
  have h2 : s.data.toList[j]? = some s[j] := by rw [List.getElem?_eq_getElem (by rw [sz]; exact hl)]; rfl
  rw [h, hj] at h2; exact (Option.some.inj h2).symm

set_option maxRecDepth 100000 in
set_option maxHeartbeats 1000000 in
theorem unhexed_c (l : List UInt8) (hl : l.length ≤ 1000000) (s : ByteArray) (hs : s.data.toList = hexL l) (w : World) :
    Calls Tryd.prog 44 #[.string s] w fun e w' => ∃ v, e = .returned (.tuple #[v, .bool true]) ∧ w'.ownsRow w.heap.size 5 1 v l.length (u8s l) ∧ Below w.heap.size w w' := by
  obtain ⟨n, hn⟩ : ∃ n, n = l.length := ⟨_, rfl⟩
  have hsz : s.size = 2 * n := by rw [← sz, hs, hexL_length, hn]
  rw [← hn] at hl ⊢
  obtain ⟨i0, hi, hz0, hz1, hz2⟩ := info_parts infoB
  have hm : (s.size : Int) % 2 = 0 := by omega
  have h0 : 2 * n ≤ s.size := by omega
  have h1 : s.size ≤ 2 * n := by omega
  have HN := Lib.hid hn; have HS := Lib.hid hs
  clear hn hs hsz
  go_enter Tryd.func44, Tryd.ntmps44
  go_wp2
  go_loopw [4, 5] (fun v i wr => ∃ k j : Nat, k ≤ n ∧ Hid (j = 2 * k) ∧ i = .int .i64 j ∧ wr.ownsRow w.heap.size 5 1 v k (u8s (l.take k)) ∧ Below w.heap.size w wr) (fun _ i _ => s.size - (intOf i).toNat)
  case atStart => exact ⟨0, 0, by omega, Lib.hid rfl, rfl, World.ownsRow_nil _ _ _ _, Below.refl _ _⟩
  case round =>
    obtain ⟨k, j, hk, HJ, rfl, hown, hB⟩ := hrel
    by_cases hlt : k < n
    · obtain ⟨x, hx⟩ : ∃ x, l[k]? = some x := ⟨l[k]'(by rw [← HN.out]; exact hlt), List.getElem?_eq_getElem _⟩
      have hlt2 : j + 1 < s.size := by rw [HJ.out]; omega
      have hlt3 : (j : Int) + 1 < s.size := by omega
      have hlt4 : (j : Int) < s.size := by omega
      have hat := hexL_at l k x hx
      rw [← HJ.out] at hat
      have b1 := at_of HS.out hat.1 (by omega)
      have b2 := at_of HS.out hat.2 (by omega)
      have HX := Lib.hid hx
      have B1 := Lib.hid b1; have B2 := Lib.hid b2
      clear hx hat b1 b2
      have hw0 : (0 : Int) ≤ (j : Int) + 1 := by omega
      have hw2 : ((j : Int) + 1).toNat = j + 1 := by omega
      have hw : IntKind.i64.wrap ((j : Int) + 1) = (j : Int) + 1 := by rw [IntKind.wrap_i64]; omega
      go_wp2
      go_quiet ((go_at_call 53; exact Calls.quiet_of_same (ixd _ _)))
      have e1 := dvI_hx (div16 x) B1.out
      have e2 := dvI_hx (mod16 x) B2.out
      rw [e1, e2]
      clear e1 e2 B1 B2
      generalize s[j] = q1
      generalize s[j + 1] = q2
      clear hw hw0 hw2 hm
      have ho3 := or16b ⟨x.toNat, x.toNat_lt⟩
      have ho4 := or16 ⟨x.toNat, x.toNat_lt⟩
      simp only at ho3 ho4
      have H3 := Lib.hid ho3; have H4 := Lib.hid ho4
      clear ho3 ho4
      obtain ⟨W, hW⟩ : ∃ W, W = wr.drewN nq := ⟨_, rfl⟩
      have hownW : W.ownsRow w.heap.size 5 1 u4 k (u8s (l.take k)) := by rw [hW]; exact hown
      have hBW : Below w.heap.size w W := by rw [hW]; exact ⟨hB.os, hB.tape, hB.output, hB.size, hB.block⟩
      rw [← hW]
      clear hW hown hB
      go_wp2_with (first
        | (at_builtin; refine app_own [_] rfl _ _ 22 rfl w.heap.size 5 i0 (.int .u8 0) 1 1 Tryd.underlying22 hi hz0 hz1 hz2 rfl (by decide) _ k _ rfl (by exact .inl hownW) rfl rfl (by simp [Value.oneCell']) (by unfold maxLen; omega) (by omega) hBW.size ?_; intro g cap w1 ho1 hg1 ha1 hl1; have hB2 := Lib.hid (hBW.trans (own_below_grown hownW hg1 hBW.size)); have HO := Lib.hid ho1; clear hg1 ha1 ho1 hownW hBW hl1))
      go_roundw
      case rel =>
        refine ⟨k + 1, j + 2, by omega, Lib.hid (by rw [HJ.out]; omega), by go_num, ?_, hB2.out⟩
        have := HO.out
        rw [take_snoc' l k x HX.out]
        simpa [u8s, H3.out, H4.out] using this
      case measure => simp [intOf]; omega
    · obtain rfl : k = n := by omega
      have hj : s.size ≤ j := by rw [HJ.out]; omega
      have hk2 : l.take k = l := by rw [HN.out, List.take_length]
      rw [hk2] at hown
      have HO := Lib.hid hown; have HB := Lib.hid hB
      clear hk2 hown hB hm
      go_wp2
      go_ret2
      exact ⟨_, rfl, HO.out, HB.out⟩
end Go.Proofs.YtlkeegmpjjoicaaDoor
end

section
/- Bytes and paths as they are written: data, shown. -/
namespace Go.Proofs.YtlkeegmpjjoicaaDoor
open Go.RowKit

theorem emptyIff (s : ByteArray) : s.toList.isEmpty = decide (s.size = 0) := by
  rw [ByteArray.toList_eq]
  have hl := sz s
  cases h : s.data.toList with
  | nil => rw [h] at hl; simp only [List.length_nil] at hl; rw [decide_eq_true hl.symm]; rfl
  | cons a l => rw [h] at hl; simp only [List.length_cons] at hl; rw [decide_eq_false (by omega)]; rfl
theorem toList_nil (s : ByteArray) (h : s.size = 0) : s.toList = [] := by
  rw [ByteArray.toList_eq]; exact List.length_eq_zero_iff.1 (by rw [sz]; exact h)
theorem toList_ne (s : ByteArray) (h : s.size ≠ 0) : (s.toList == []) = false := by
  rw [ByteArray.toList_eq, beq_eq_false_iff_ne]; intro e; apply h; rw [← sz, e]; rfl
theorem SlB.none_of {w : World} {v : Value} {l : List UInt8} (h : SlB w v l) (hl : l ≠ []) : ∃ b o cap, v = .slice (some ⟨b, o, none⟩) l.length cap ∧ RdL w b o l := by
  obtain ⟨a, cap, rfl, ⟨_, h⟩ | ⟨b, o, rfl, h⟩⟩ := h
  · exact absurd h hl
  · exact ⟨b, o, cap, rfl, h⟩

theorem data_c (v : Value) (l : List UInt8) (hl : l.length ≤ 1000000) (w : World) (h : SlB w v l) :
    Calls Tryd.prog 19 #[v] w fun e w' => e = .returned (.string ⟨(datL l).toArray⟩) ∧ Below w.heap.size w w' := by
  by_cases h0 : l = []
  · obtain ⟨a, cap, rfl, -⟩ := h
    subst h0
    go_enter Tryd.func19, Tryd.ntmps19
    go_wp2
    go_ret
    exact ⟨rfl, Below.refl _ _⟩
  · obtain ⟨b, o, cap, rfl, hr⟩ := h.none_of h0
    have hp : 0 < l.length := List.length_pos_iff.2 h0
    have hd : datL l = hexL l := if_neg h0
    have t1 : ((l.length : Int) == 0) = false := by rw [beq_eq_false_iff_ne]; omega
    have HD := Lib.hid hd; have H0 := Lib.hid h0; have HR := Lib.hid hr
    clear hd h0 hr h
    go_enter Tryd.func19, Tryd.ntmps19
    go_wp2_with (go_at_call 27; refine (hexed_c b o cap l hl _ HR.out).mono ?_; rintro e w2 ⟨rfl, hb⟩; have HB := Lib.hid hb; clear hb)
    go_ret
    exact ⟨by rw [HD.out]; rfl, HB.out⟩

theorem isB_below {T e : TypeId} {B b : Nat} {bs : List Value} {w w' : World} (h : Lib.IsBuilder T e B b bs w) (hb : Below w.heap.size w w') : Lib.IsBuilder T e B b bs w' := by
  have go : ∀ p, Lib.BuilderAt T e B b p bs w → Lib.BuilderAt T e B b p bs w' := by
    rintro p ⟨h1, v, h2, h3, h4⟩
    exact ⟨h1, v, (hb.block b (Array.getElem?_eq_some_iff.1 h2).1).trans h2, own_below h3 hb, h4⟩
  exact h.imp (go _) (go _)
theorem shL_ne {l : List UInt8} (h : l ≠ []) : shL l = l.flatMap shB := if_neg h
theorem flat_le (l : List UInt8) : (l.flatMap shB).length ≤ 3 * l.length := by
  induction l with
  | nil => simp
  | cons a l ih => have := shB_length a; rw [List.flatMap_cons, List.length_append, List.length_cons]; omega

theorem rdl_one (w : World) (x : UInt8) (t : TypeId) : RdL (w.alloc (.cells #[.int .u8 (x.toNat : Int)] t)) w.heap.size 0 [x] := fun j y h => by
  rw [Nat.zero_add, (Blk.new (e := t) w [.int .u8 (x.toNat : Int)]).cell]
  cases j with
  | zero => simp at h; subst h; rfl
  | succ j => simp at h
theorem cat_toList (a b : ByteArray) : (a ++ b).data.toList = a.data.toList ++ b.data.toList := by rw [ByteArray.data_append, Array.toList_append]
theorem cat_size (x : UInt8) : ((⟨#[37]⟩ : ByteArray) ++ ⟨(hexL [x]).toArray⟩).size = 3 := by rw [← sz, cat_toList]; simp [hexL, hexB]
theorem flat_take_le (s : ByteArray) (k : Nat) (hs : s.size ≤ 1000000) : (Lib.byteCells ((s.data.toList.take k).flatMap shB)).length ≤ 3000000 := by
  rw [Lib.byteCells_length]
  have := flat_le (s.data.toList.take k)
  have h2 : (s.data.toList.take k).length ≤ s.size := by rw [List.length_take, sz]; omega
  omega
theorem flat_succ {l : List UInt8} {k : Nat} {x : UInt8} (hx : l[k]? = some x) : (l.take (k + 1)).flatMap shB = (l.take k).flatMap shB ++ shB x := by rw [take_snoc' l k x hx, List.flatMap_append]; simp
theorem esc_step {T e : TypeId} {B b k : Nat} {l : List UInt8} {x : UInt8} {w3 : World} (hx : l[k]? = some x) (he : escB x = true) (S : ByteArray) (hS : S.data.toList = 37 :: hexL [x])
    (h : Lib.BuilderAt T e B b (.pointer (some ⟨b, 0, none⟩)) (Lib.byteCells ((l.take k).flatMap shB) ++ Lib.strCells S) w3) : Lib.IsBuilder T e B b (Lib.byteCells ((l.take (k + 1)).flatMap shB)) w3 := by
  right
  rw [flat_succ hx]
  have hb : shB x = 37 :: hexL [x] := by rw [shB, if_pos he]; simp [hexL]
  rw [hb, ← hS]
  simpa [Lib.byteCells, Lib.strCells] using h
theorem pl_step {T e : TypeId} {B b k : Nat} {l : List UInt8} {x : UInt8} {w3 : World} (hx : l[k]? = some x) (he : escB x = false)
    (h : Lib.BuilderAt T e B b (.pointer (some ⟨b, 0, none⟩)) (Lib.byteCells ((l.take k).flatMap shB) ++ [.int .u8 (x.toNat : Int)]) w3) : Lib.IsBuilder T e B b (Lib.byteCells ((l.take (k + 1)).flatMap shB)) w3 := by
  right
  rw [flat_succ hx]
  have hb : shB x = [x] := by rw [shB, he]; simp
  rw [hb]
  simpa [Lib.byteCells] using h
set_option maxRecDepth 100000 in
set_option maxHeartbeats 1000000 in
theorem shown_c (s : ByteArray) (hs : s.size ≤ 1000000) (w : World) :
    Calls Tryd.prog 17 #[.string s] w fun e w' => e = .returned (.string ⟨(shL s.data.toList).toArray⟩) ∧ Below w.heap.size w w' := by
  have he := emptyIff s
  by_cases h0 : s.size = 0
  · have hsh : shL s.data.toList = [37] := if_pos (List.length_eq_zero_iff.1 (by rw [sz]; exact h0))
    have hn := toList_nil s h0
    rw [decide_eq_true h0] at he
    have HS := Lib.hid hsh; have HZ := Lib.hid h0; clear hsh h0
    go_enter Tryd.func17, Tryd.ntmps17
    go_wp2
    go_ret
    exact ⟨by rw [HS.out]; rfl, Below.refl _ _⟩
  · have hne : s.data.toList ≠ [] := fun e => h0 (by rw [← sz, e]; rfl)
    rw [decide_eq_false h0] at he
    have HS := Lib.hid (shL_ne hne)
    have H0 := Lib.hid h0
    clear h0 hne
    go_enter Tryd.func17, Tryd.ntmps17
    go_wp2
    have hI0 := Lib.hid (Lib.fresh_isBuilder 59 5 w)
    go_loopw [4, 5, 10] (fun _ _ i wr => ∃ k : Nat, k ≤ s.size ∧ i = .int .i64 k ∧ Hid (Lib.IsBuilder 59 5 w.heap.size w.heap.size (Lib.byteCells ((s.data.toList.take k).flatMap shB)) wr) ∧ Hid (Below w.heap.size w wr) ∧ w.heap.size < wr.heap.size) (fun _ _ i _ => s.size - (intOf i).toNat)
    case atStart => exact ⟨0, by omega, rfl, hI0, Lib.hid ((Below.refl _ _).alloc (Nat.le_refl _) _), by simp⟩
    case round =>
      obtain ⟨k, hk, rfl, HI, HB, hsz⟩ := hrel
      by_cases hlt : k < s.size
      · have hx : s.data.toList[k]? = some s[k] := by rw [List.getElem?_eq_getElem (by rw [sz]; exact hlt)]; rfl
        have HX := Lib.hid hx
        clear hx
        by_cases hesc : escB s[k] = true
        · have hcase : ((s[k].toNat : Int) < 33) ∨ (¬ (s[k].toNat : Int) < 33 ∧ 126 < (s[k].toNat : Int)) ∨ (¬ (s[k].toNat : Int) < 33 ∧ ¬ 126 < (s[k].toNat : Int) ∧ (s[k].toNat : Int) = 37) := by
            simp only [escB, Bool.or_eq_true, decide_eq_true_eq] at hesc
            omega
          have HE := Lib.hid hesc
          clear hesc
          have hb1 : Below wr.heap.size wr (wr.alloc (.cells #[.int .u8 (s[k].toNat : Int)] 5)) := (Below.refl _ _).alloc (Nat.le_refl _) _
          have HI1 := Lib.hid (isB_below HI.out hb1)
          have HB1 := Lib.hid (HB.out.trans (hb1.mono (Nat.le_of_lt hsz)))
          clear hb1
          have hlen : (hexL [s[k]]).length ≤ 2 := by simp [hexL, hexB]
          rcases hcase with h | ⟨h1, h2⟩ | ⟨h1, h2, h3⟩
          · have t1 : decide ((s[k].toNat : Int) < 33) = true := by simp; omega
            clear h
            go_wp2_with (first
              | (go_at_call 27; refine (hexed_c _ 0 1 [s[k]] (by simp) _ (rdl_one wr s[k] _)).mono ?_; rintro e w2 ⟨rfl, hb⟩; have HI2 := Lib.hid (isB_below HI1.out hb); have hz2 : wr.heap.size + 1 ≤ w2.heap.size := (by have := hb.size; simpa using this); have HB2 := Lib.hid (HB1.out.trans (hb.mono (by simp; omega))); clear hb)
              | (go_at_call 26; refine (Tryd.Builder_WriteString _ _ _ _ _ HI2.out ?c1 (by omega)).mono ?_; (case c1 => have h9 := flat_take_le s k hs; have h8 := cat_size s[k]; omega); rintro e w3 ⟨rfl, hI3, hb3⟩; have HI3 := Lib.hid (esc_step HX.out HE.out _ (by rw [cat_toList]; rfl) hI3); have HB3 := Lib.hid (HB2.out.trans hb3); have hz3 : w.heap.size < w3.heap.size := (by have := hb3.size; omega); clear hI3 hb3))
            go_roundw
            case rel => exact ⟨k + 1, by omega, by go_num, HI3, HB3, hz3⟩
            case measure => simp [intOf]; omega
          · have t1 : decide ((s[k].toNat : Int) < 33) = false := by simp; omega
            have t2 : decide (126 < (s[k].toNat : Int)) = true := by simp; omega
            clear h1 h2
            go_wp2_with (first
              | (go_at_call 27; refine (hexed_c _ 0 1 [s[k]] (by simp) _ (rdl_one wr s[k] _)).mono ?_; rintro e w2 ⟨rfl, hb⟩; have HI2 := Lib.hid (isB_below HI1.out hb); have hz2 : wr.heap.size + 1 ≤ w2.heap.size := (by have := hb.size; simpa using this); have HB2 := Lib.hid (HB1.out.trans (hb.mono (by simp; omega))); clear hb)
              | (go_at_call 26; refine (Tryd.Builder_WriteString _ _ _ _ _ HI2.out ?c1 (by omega)).mono ?_; (case c1 => have h9 := flat_take_le s k hs; have h8 := cat_size s[k]; omega); rintro e w3 ⟨rfl, hI3, hb3⟩; have HI3 := Lib.hid (esc_step HX.out HE.out _ (by rw [cat_toList]; rfl) hI3); have HB3 := Lib.hid (HB2.out.trans hb3); have hz3 : w.heap.size < w3.heap.size := (by have := hb3.size; omega); clear hI3 hb3))
            go_roundw
            case rel => exact ⟨k + 1, by omega, by go_num, HI3, HB3, hz3⟩
            case measure => simp [intOf]; omega
          · have t1 : decide ((s[k].toNat : Int) < 33) = false := by simp; omega
            have t2 : decide (126 < (s[k].toNat : Int)) = false := by simp; omega
            have t3 : ((s[k].toNat : Int) == 37) = true := by rw [beq_iff_eq]; exact h3
            clear h1 h2 h3
            go_wp2_with (first
              | (go_at_call 27; refine (hexed_c _ 0 1 [s[k]] (by simp) _ (rdl_one wr s[k] _)).mono ?_; rintro e w2 ⟨rfl, hb⟩; have HI2 := Lib.hid (isB_below HI1.out hb); have hz2 : wr.heap.size + 1 ≤ w2.heap.size := (by have := hb.size; simpa using this); have HB2 := Lib.hid (HB1.out.trans (hb.mono (by simp; omega))); clear hb)
              | (go_at_call 26; refine (Tryd.Builder_WriteString _ _ _ _ _ HI2.out ?c1 (by omega)).mono ?_; (case c1 => have h9 := flat_take_le s k hs; have h8 := cat_size s[k]; omega); rintro e w3 ⟨rfl, hI3, hb3⟩; have HI3 := Lib.hid (esc_step HX.out HE.out _ (by rw [cat_toList]; rfl) hI3); have HB3 := Lib.hid (HB2.out.trans hb3); have hz3 : w.heap.size < w3.heap.size := (by have := hb3.size; omega); clear hI3 hb3))
            go_roundw
            case rel => exact ⟨k + 1, by omega, by go_num, HI3, HB3, hz3⟩
            case measure => simp [intOf]; omega
        · have hcase : ¬ (s[k].toNat : Int) < 33 ∧ ¬ 126 < (s[k].toNat : Int) ∧ ¬ (s[k].toNat : Int) = 37 := by
            simp only [escB, Bool.or_eq_true, decide_eq_true_eq] at hesc
            omega
          have HE := Lib.hid (Bool.eq_false_iff.2 hesc)
          obtain ⟨h1, h2, h3⟩ := hcase
          have t1 : decide ((s[k].toNat : Int) < 33) = false := by simp; omega
          have t2 : decide (126 < (s[k].toNat : Int)) = false := by simp; omega
          have t3 : ((s[k].toNat : Int) == 37) = false := by rw [beq_eq_false_iff_ne]; exact h3
          clear h1 h2 h3 hesc
          go_wp2_with (first
            | (go_at_call 28; refine (Tryd.Builder_WriteByte _ _ _ _ _ HI.out (by have := flat_take_le s k hs; omega) (by omega)).mono ?_; rintro e w3 ⟨rfl, hI3, hb3⟩; have HI3 := Lib.hid (pl_step HX.out HE.out hI3); have HB3 := Lib.hid (HB.out.trans hb3); have hz3 : w.heap.size < w3.heap.size := (by have := hb3.size; omega); clear hI3 hb3))
          go_roundw
          case rel => exact ⟨k + 1, by omega, by go_num, HI3, HB3, hz3⟩
          case measure => simp [intOf]; omega
      · obtain rfl : k = s.size := by omega
        have hk2 : s.data.toList.take s.size = s.data.toList := by rw [← sz, List.take_length]
        have hI := HI.out
        rw [hk2] at hI
        have HI4 := Lib.hid hI
        clear hk2 hI
        go_wp2_with (first
          | (go_at_call 29; refine (Tryd.Builder_String_any _ _ _ _ HI4.out (by omega)).mono ?_; rintro e w3 ⟨rfl, hb3⟩; have HB3 := Lib.hid (HB.out.trans hb3); clear hb3))
        go_ret
        exact ⟨by rw [HS.out]; rfl, HB3.out⟩
end Go.Proofs.YtlkeegmpjjoicaaDoor
end

section
/- Paths, numbers and bytes read back as they were written. -/
namespace Go.Proofs.YtlkeegmpjjoicaaDoor
open Go.RowKit

theorem flat_split {l : List UInt8} {i : Nat} {x : UInt8} (h : l[i]? = some x) : l.flatMap shB = (l.take i).flatMap shB ++ (shB x ++ (l.drop (i + 1)).flatMap shB) := by
  have h1 : l = l.take i ++ x :: l.drop (i + 1) := by
    have hl : i < l.length := (List.getElem?_eq_some_iff.1 h).1
    have hx : x = l[i] := by rw [List.getElem?_eq_getElem hl] at h; exact (Option.some.inj h).symm
    rw [hx, List.getElem_cons_drop, List.take_append_drop]
  refine (congrArg (List.flatMap shB) h1).trans ?_
  rw [List.flatMap_append, List.flatMap_cons]
theorem get_mid (a b c : List UInt8) (k : Nat) (h : k < b.length) : (a ++ (b ++ c))[a.length + k]? = b[k]? := by
  rw [List.getElem?_append_right (by omega), Nat.add_sub_cancel_left, List.getElem?_append_left h]
theorem shL_one {l : List UInt8} (h : l ≠ []) : shL l ≠ [37] := by
  rw [shL_ne h]
  cases l with
  | nil => exact absurd rfl h
  | cons a l =>
    rw [List.flatMap_cons]
    intro e
    have hl := congrArg List.length e
    have ha := shB_length a
    rw [List.length_append] at hl
    simp only [List.length_singleton] at hl
    have h1 : (shB a).length = 1 := by omega
    have h2 : l.flatMap shB = [] := List.length_eq_zero_iff.1 (by omega)
    rw [h2, List.append_nil] at e
    unfold shB at e h1
    split at e
    · simp [hexB] at e
    · rename_i hne
      cases e
      exact hne (by decide)
theorem extract_toList (s : ByteArray) (a b : Nat) (ha : a ≤ b) (hb : b ≤ s.size) : (s.extract a b).data.toList = (s.data.toList.drop a).take (b - a) := by
  rw [ByteArray.data_extract, Array.toList_extract, List.extract_eq_take_drop]

def hx' (x : UInt8) : UInt8 := hx (x.toNat / 16)
def hy' (x : UInt8) : UInt8 := hx (x.toNat % 16)
theorem rdl_news {w : World} {b o : Nat} {l : List UInt8} (h : RdL w b o l) : ∀ j u, (u8s l)[j]? = some u → w.cell? ((⟨b, o, none⟩ : Addr).add j) = some u := by
  intro j u hj
  have : (⟨b, o, none⟩ : Addr).add j = ⟨b, o + j, none⟩ := by cases j <;> simp [Addr.add]
  rw [this]
  simp only [u8s, List.getElem?_map, Option.map_eq_some_iff] at hj
  obtain ⟨x, hx, rfl⟩ := hj
  exact h j x hx
theorem u8s_one (l : List UInt8) : ∀ u ∈ u8s l, u.oneCell' = true := by
  intro u hu
  obtain ⟨k, _, rfl⟩ := List.mem_map.1 hu
  rfl
set_option maxRecDepth 100000 in
set_option maxHeartbeats 1000000 in
theorem text_c (l : List UInt8) (hl : l.length ≤ 100000) (s : ByteArray) (hs : s.data.toList = shL l) (w : World) :
    Calls Tryd.prog 35 #[.string s] w fun e w' => e = .returned (.tuple #[.string ⟨l.toArray⟩, .bool true]) ∧ Below w.heap.size w w' := by
  by_cases h0 : l = []
  · subst h0
    have he : (s.toList == [37]) = true := by rw [ByteArray.toList_eq, hs]; rfl
    have hs2 : s.toList = [37] := by rw [ByteArray.toList_eq, hs]; rfl
    clear hs
    go_enter Tryd.func35, Tryd.ntmps35
    go_wp2
    go_ret2
    exact ⟨rfl, Below.refl _ _⟩
  · have he : (s.toList == [37]) = false := by rw [ByteArray.toList_eq, hs, beq_eq_false_iff_ne]; exact shL_one h0
    have hs3 : ¬ s.toList = [37] := by rw [ByteArray.toList_eq, hs]; exact shL_one h0
    rw [shL_ne h0] at hs
    have hsz : s.size ≤ 300000 := by rw [← sz, hs]; have := flat_le l; omega
    obtain ⟨n, hn⟩ : ∃ n, n = l.length := ⟨_, rfl⟩
    obtain ⟨i0, hi, hz0, hz1, hz2⟩ := info_parts infoB
    have HN := Lib.hid hn; have HS := Lib.hid hs; have H0 := Lib.hid h0
    clear hn hs h0
    go_enter Tryd.func35, Tryd.ntmps35
    go_wp2
    go_loopw [4, 5] (fun v i wr => ∃ k j : Nat, k ≤ n ∧ Hid (j = ((l.take k).flatMap shB).length) ∧ i = .int .i64 j ∧ Hid (wr.ownsRow w.heap.size 5 1 v k (u8s (l.take k))) ∧ Hid (Below w.heap.size w wr)) (fun _ i _ => s.size - (intOf i).toNat)
    case atStart => exact ⟨0, 0, by omega, Lib.hid rfl, rfl, Lib.hid (World.ownsRow_nil _ _ _ _), Lib.hid (Below.refl _ _)⟩
    case round =>
      obtain ⟨k, j, hk, HJ, rfl, HO, HB⟩ := hrel
      by_cases hlt : k < n
      · obtain ⟨x, hx⟩ : ∃ x, l[k]? = some x := ⟨l[k]'(by rw [← HN.out]; exact hlt), List.getElem?_eq_getElem _⟩
        have hsp := flat_split hx
        have hnj := flat_succ hx
        have hlen : ((l.take (k + 1)).flatMap shB).length = j + (shB x).length := by rw [hnj, List.length_append, ← HJ.out]
        have hjs : j + (shB x).length ≤ s.size := by rw [← sz, HS.out, hsp, List.length_append, List.length_append, ← HJ.out]; omega
        have hat : ∀ m, m < (shB x).length → s.data.toList[j + m]? = (shB x)[m]? := fun m hm => by rw [HS.out, hsp, HJ.out]; exact get_mid _ _ _ m hm
        have hkl : k < 100000 := by rw [← HN.out] at hl; omega
        have hbz := HB.out.size
        by_cases hesc : escB x = true
        · have hsx : shB x = [37, hx' x, hy' x] := by rw [shB, if_pos hesc]; rfl
          rw [hsx] at hlen hjs hat
          simp only [List.length_cons, List.length_nil, Nat.zero_add, Nat.reduceAdd] at hlen hjs
          have b0 : s[j] = 37 := at_of rfl (by have := hat 0 (by simp); simpa using this) (by omega)
          have hex : (s.extract (j + 1) (j + 3)).data.toList = hexL [x] := by
            rw [extract_toList s _ _ (by omega) (by omega), show j + 3 - (j + 1) = 2 by omega]
            have h1 := hat 1 (by simp)
            have h2 := hat 2 (by simp)
            apply List.ext_getElem?
            intro m
            match m with
            | 0 => simpa [hexL, hexB, hx'] using h1
            | 1 => simpa [hexL, hexB, hy', Nat.add_assoc] using h2
            | m + 2 => rw [List.getElem?_eq_none (by rw [List.length_take]; omega), List.getElem?_eq_none (by simp [hexL, hexB])]
          have t1 : ((s[j].toNat : Int) != 37) = false := by rw [b0]; rfl
          have HEX := Lib.hid hex; have HL := Lib.hid hlen; have HX := Lib.hid hx
          clear hex hlen hx hsp hnj hat hsx b0 hesc
          have k1 : (j : Int) + 1 ≤ (j : Int) + 3 := by omega
          have k2 : (j : Int) + 3 ≤ (s.size : Int) := by omega
          have k3 : ¬ (s.size : Int) < (j : Int) + 3 := by omega
          go_wp2_with fail
          refine (unhexed_c [x] (by simp) _ HEX.out wr).mono ?_
          rintro e w2 ⟨vx, rfl, hox, hbx⟩
          obtain ⟨gb, go_, gc, rfl, hrx⟩ := (SlB.of_own hox).none_of (by simp)
          have HR := Lib.hid hrx
          have HO2 := Lib.hid (own_below HO.out hbx)
          have HB2 := Lib.hid (HB.out.trans (hbx.mono hbz))
          have hbz2 : w.heap.size ≤ w2.heap.size := Nat.le_trans hbz hbx.size
          clear hox hbx hrx
          go_wp2_with (first
            | (at_builtin; refine src_append rfl _ _ 22 rfl w.heap.size 5 i0 (.int .u8 0) 1 1 Tryd.underlying22 hi hz0 hz1 hz2 rfl (by decide) _ k _ rfl (by exact .inl HO2.out) ⟨gb, go_, none⟩ 1 gc (u8s [x]) rfl rfl (rdl_news HR.out) (u8s_one _) (by decide) (by unfold maxLen; omega) (by omega) hbz2 ?_; intro g cap w3 ho3 hg3 ha3 hl3; have HO3 := Lib.hid ho3; have HB3 := Lib.hid (HB2.out.trans (own_below_grown HO2.out hg3 hbz2)); clear ho3 hg3 ha3))
          go_roundw
          case rel =>
            refine ⟨k + 1, j + 3, by omega, Lib.hid HL.out.symm, by go_num, Lib.hid ?_, HB3⟩
            have := HO3.out
            rw [take_snoc' l k x HX.out]
            simpa [u8s] using this
          case measure => simp [intOf]; omega
        · have hesc' : escB x = false := by simpa using hesc
          have hsx : shB x = [x] := by rw [shB, hesc']; rfl
          rw [hsx] at hlen hjs hat
          simp only [List.length_cons, List.length_nil, Nat.zero_add] at hlen hjs
          have b0 : s[j] = x := at_of rfl (by have := hat 0 (by simp); simpa using this) (by omega)
          have hx37 : x.toNat ≠ 37 := by
            intro e; apply hesc; simp [escB, e]
          have t1 : ((s[j].toNat : Int) != 37) = true := by rw [b0]; simp; omega
          have HB0 := Lib.hid b0
          have HL := Lib.hid hlen; have HX := Lib.hid hx
          clear hlen hx hsp hnj hat hsx b0 hesc hesc' hx37
          go_wp2_with (first
            | (at_builtin; refine app_own [_] rfl _ _ 22 rfl w.heap.size 5 i0 (.int .u8 0) 1 1 Tryd.underlying22 hi hz0 hz1 hz2 rfl (by decide) _ k _ rfl (by exact .inl HO.out) rfl rfl (by simp [Value.oneCell']) (by unfold maxLen; omega) (by omega) hbz ?_; intro g cap w3 ho3 hg3 ha3 hl3; have HO3 := Lib.hid ho3; have HB3 := Lib.hid (HB.out.trans (own_below_grown HO.out hg3 hbz)); clear ho3 hg3 ha3))
          go_roundw
          case rel =>
            refine ⟨k + 1, j + 1, by omega, Lib.hid HL.out.symm, by go_num, Lib.hid ?_, HB3⟩
            have := HO3.out
            rw [take_snoc' l k x HX.out]
            rw [HB0.out] at this
            simpa [u8s] using this
          case measure => simp [intOf]; omega
      · obtain rfl : k = n := by omega
        have hk2 : l.take k = l := by rw [HN.out, List.take_length]
        have hj : s.size ≤ j := by rw [HJ.out, hk2, ← HS.out, sz]; omega
        have ho := HO.out
        rw [hk2] at ho
        have hcv := (SlB.of_own ho).str
        have HO5 := Lib.hid ho
        clear hk2 ho
        go_wp2
        go_ret2
        exact ⟨rfl, HB.out⟩
end Go.Proofs.YtlkeegmpjjoicaaDoor
end
