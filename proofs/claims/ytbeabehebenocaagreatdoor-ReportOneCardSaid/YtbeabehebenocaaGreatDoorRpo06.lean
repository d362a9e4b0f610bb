/- Part of the road to RpCard: Of, Maps, Bmap, Iter, Iter2, Ptrs, Round, Keep, Mst, HeadsL. -/
import Derived.Maps.OwnIn
import Derived.Maps.Ext
import Derived.Test.YtbeabehebenocaaGreatDoorProg
import Derived.Deep.QuietTactic
import Derived.BigQuiet
import Derived.Laws.Rows
import Derived.Laws.EntriesVeiled
import Derived.Deep.RegionHeld3
import Derived.Shelf.RegionOpen
import Derived.Maps.RangeWalk
import Derived.Test.YtbeabehebenocaaGreatDoorRpo05
import Derived.Test.YtbeabehebenocaaGreatDoorRpo01
set_option linter.all false
set_option linter.unusedSimpArgs false
set_option linter.unusedVariables false
set_option linter.unusedSectionVars false
section
/- Is an image usable? -/
namespace Go.Proofs.YtbeabehebenocaaGreatDoor
open Go.RowKit

def ofOk (f : Nat → Nat) (N : Nat) : Bool := decide (1024 ≤ N) && (supOk f && decide (N = (supG f).total * 1024))

set_option maxRecDepth 100000 in
set_option maxHeartbeats 1000000 in
theorem of_c (B o N cap : Nat) (f : Nat → Nat) (hf : ∀ k, f k < 256) (w : World) (h : RdB w B o N f) (hN : 1024 ≤ N) (hcap : N ≤ cap) (hcb : cap ≤ 9223372036854775807) :
    Calls Tryz.prog 14 #[.slice (some ⟨B, o, none⟩) N cap] w fun e w' => (ofOk f N = true → e = .returned (.tuple #[.agg #[.int .i64 (supG f).gr, .int .i64 (supG f).ino, .int .i64 (supG f).da, .slice (some ⟨B, o, none⟩) N cap], .bool true])) ∧
      (ofOk f N = false → e = .returned (.tuple #[.agg #[.int .i64 0, .int .i64 0, .int .i64 0, .slice none 0 0], .bool false])) ∧ Below w.heap.size w w' := by
  have hBl := lt_of_cell (h 0 (by omega))
  obtain ⟨G, hG⟩ : ∃ G, G = supG f := ⟨_, rfl⟩
  have R := fun W (hW : Below w.heap.size w W) => sread_c B o cap f hf W ((h.below hW).sub 0 1024 (by omega) |> fun h => by simpa using h) (by omega)
  rw [← hG] at R ⊢
  cases hs : supOk f with
  | false =>
    have ho : ofOk f N = false := by simp [ofOk, hs]
    have HS := Lib.hid hs; have HO := Lib.hid ho; have HR := Lib.hid R
    clear hs ho R h hG
    go_enter Tryz.func14, Tryz.ntmps14
    go_wp2_with (go_at_call 36; refine (HR.out _ ((Below.refl _ _).alloc (Nat.le_refl _) _)).mono ?_; rintro e w1 ⟨-, h2, hb⟩; obtain rfl := h2 HS.out; obtain ⟨hc, hf⟩ := bcell hb; have hz : w.heap.size < w1.heap.size := by (have := hb.size; simp at this; omega))
    have b0 := Blk.newL (e := 49) (w := w) [.int .i64 0, .int .i64 0, .int .i64 0, .slice none 0 0]
    have hl := hz
    refine bodyPost_ret (v := .tuple #[.agg #[.int .i64 0, .int .i64 0, .int .i64 0, .slice none 0 0], .bool false]) (by simp [results, Tryz.results14, go_sem, hc, hf, hl]) rfl ⟨fun h => by (rw [HO.out] at h; cases h), fun _ => rfl, ?_⟩
    have hB1 := ((Below.refl _ w).alloc (Nat.le_refl _) _).trans (hb.mono (by simp))
    have hsz := hB1.size
    have hB4 := (((hB1.setCell (p := ⟨w.heap.size, 0, none⟩) (Nat.le_refl _) (.int .i64 0)).setCell (p := ⟨w.heap.size, 1, none⟩) (Nat.le_refl _) (.int .i64 0)).setCell (p := ⟨w.heap.size, 2, none⟩) (Nat.le_refl _) (.int .i64 0)).setCell (p := ⟨w.heap.size, 3, none⟩) (Nat.le_refl _) (.slice none 0 0)
    exact hB4.alloc hB4.size _
  | true =>
    have hg : G.Ok := by
      have h2 : (supG f).okB = true := by
        have := hs; simp only [supOk, Bool.and_eq_true] at this; exact this.1
      rw [hG]; exact Geo.okB_iff.1 h2
    have ht := hg.total_le
    obtain ⟨q, hq⟩ : ∃ q, q = decide (N = G.total * 1024) := ⟨_, rfl⟩
    have ho : ofOk f N = q := by simp [ofOk, hs, hN, hq, hG]
    have e1 : ((N : Int) != (G.total : Int) * 1024) = !q := by
      rw [hq]
      by_cases h1 : N = G.total * 1024
      · simp [h1]
      · have : ¬ ((N : Int) = (G.total : Int) * 1024) := by omega
        simp [h1, this]
    have HS := Lib.hid hs; have HO := Lib.hid ho; have HR := Lib.hid R
    clear hs ho R h hG hq
    cases q
    all_goals
      simp only [Bool.not_true, Bool.not_false] at e1
      go_enter Tryz.func14, Tryz.ntmps14
      go_wp2_with (first
        | (go_at_call 36; refine (HR.out _ ((Below.refl _ _).alloc (Nat.le_refl _) _)).mono ?_; rintro e w1 ⟨h1, -, hb⟩; obtain rfl := h1 HS.out; obtain ⟨hc, hf⟩ := bcell hb; have hz : w.heap.size < w1.heap.size := by (have := hb.size; simp at this; omega))
        | (go_at_call 33; refine (total_c G hg _).mono ?_; rintro e w2 ⟨rfl, hb2⟩; obtain ⟨hc2, hf2⟩ := bcell hb2; have hz2 : w1.heap.size < w2.heap.size := by (have := hb2.size; simp at this; omega)))
      have hB1 := ((Below.refl _ w).alloc (Nat.le_refl _) (.cells #[.int .i64 0, .int .i64 0, .int .i64 0, .slice none 0 0] 49)).trans (hb.mono (by simp))
      have hB2 := ((hB1.alloc hB1.size (.cells #[.int .i64 G.gr, .int .i64 G.ino, .int .i64 G.da] 24)).trans (hb2.mono (by simp; omega)))
      have hl : w.heap.size < w2.heap.size := by omega
      have hk2 := (((Blk.newL (e := 49) (w := w) [.int .i64 0, .int .i64 0, .int .i64 0, .slice none 0 0]).below hb (by simp)).alloc (.cells #[.int .i64 G.gr, .int .i64 G.ino, .int .i64 G.da] 24)).below hb2 (by simp; omega)
      have p0 := hk2.cell 0; have p1 := hk2.cell 1; have p2 := hk2.cell 2; have p3 := hk2.cell 3
      simp only [List.getElem?_cons_zero, List.getElem?_cons_succ] at p0 p1 p2 p3
    · refine bodyPost_ret (v := .tuple #[.agg #[.int .i64 0, .int .i64 0, .int .i64 0, .slice none 0 0], .bool false]) (by simp [results, Tryz.results14, go_sem, p0, p1, p2, p3, hl]) rfl ⟨fun h => by (rw [HO.out] at h; cases h), fun _ => rfl, ?_⟩
      exact (((hB2.setCell (p := ⟨w.heap.size, 0, none⟩) (Nat.le_refl _) _).setCell (p := ⟨w.heap.size, 1, none⟩) (Nat.le_refl _) _).setCell (p := ⟨w.heap.size, 2, none⟩) (Nat.le_refl _) _).setCell (p := ⟨w.heap.size, 3, none⟩) (Nat.le_refl _) _
    · refine bodyPost_ret (v := .tuple #[.agg #[.int .i64 G.gr, .int .i64 G.ino, .int .i64 G.da, .slice (some ⟨B, o, none⟩) N cap], .bool true]) (by simp [results, Tryz.results14, go_sem, p0, p1, p2, p3, hl]) rfl ⟨fun _ => rfl, fun h => by (rw [HO.out] at h; cases h), ?_⟩
      exact (((hB2.setCell (p := ⟨w.heap.size, 0, none⟩) (Nat.le_refl _) _).setCell (p := ⟨w.heap.size, 1, none⟩) (Nat.le_refl _) _).setCell (p := ⟨w.heap.size, 2, none⟩) (Nat.le_refl _) _).setCell (p := ⟨w.heap.size, 3, none⟩) (Nat.le_refl _) _
end Go.Proofs.YtbeabehebenocaaGreatDoor
end

section
/- Maps: what stands by each key, as a function. -/
namespace Go.Proofs.YtbeabehebenocaaGreatDoor
open Go.RowKit

abbrev DU := DataW Unit

/-- pointers to whole blocks as elements of a map -/
def ptrElem : Value → Option (DU × List MemPlace)
  | .pointer none => some (.lit (.int .i64 (-1)), [])
  | .pointer (some ⟨b, 0, none⟩) => some (.lit (.int .i64 (b : Nat)), [])
  | _ => none
def ptrTo : Option Nat → Value
  | none => .pointer none
  | some b => .pointer (some ⟨b, 0, none⟩)
theorem ptrElem_inv {v : Value} {x : Int} {ps : List MemPlace} (h : ptrElem v = some (.lit (.int .i64 x), ps)) : (x = -1 ∧ v = ptrTo none) ∨ ∃ b : Nat, x = b ∧ v = ptrTo (some b) := by
  unfold ptrElem at h
  split at h
  · cases h; exact .inl ⟨rfl, rfl⟩
  · cases h; exact .inr ⟨_, rfl, rfl⟩
  · cases h

/-- block b is a map; by key x stands g x -/
def MapG {κ : Type} (kt : TypeId) (R : Value → Option (DU × List MemPlace)) (mk : κ → Lit) (ok : κ → Prop) (w : World) (b n : Nat) (g : κ → Option DU) : Prop :=
  ∃ D : DU, w.ownsMap Tryz.prog kt R b n D ∧ (∀ x, ok x → Maps.has D (mk x) = (g x).isSome ∧ ∀ z, D.atKey (mk x) z = (g x).getD z) ∧ ∀ kl, Maps.has D kl = true → ∃ x, ok x ∧ kl = mk x
/-- how keys are written -/
structure KeyWay {κ : Type} (mk : κ → Lit) (ok : κ → Prop) : Prop where
  inj : ∀ x y, ok x → ok y → mk x = mk y → x = y
  key : ∀ x, ok x → WideAt.IsKeyLit (mk x)

section
variable {κ : Type} [DecidableEq κ] {kt : TypeId} {R : Value → Option (DU × List MemPlace)} {mk : κ → Lit} {ok : κ → Prop} {w : World} {b n : Nat} {g : κ → Option DU}
theorem MapG.mods {s : Nat → Prop} {w' : World} (h : MapG kt R mk ok w b n g) (hm : Mods s w w') (hs : ¬ s b) : MapG kt R mk ok w' b n g := by
  obtain ⟨D, h1, h2, h3⟩ := h
  have hlt := h1.lt
  obtain ⟨es, clock, hb, r⟩ := h1
  exact ⟨D, ⟨es, clock, (hm.block b hlt hs).trans hb, r⟩, h2, h3⟩
theorem MapG.lt (h : MapG kt R mk ok w b n g) : b < w.heap.size := by
  obtain ⟨D, h1, h2⟩ := h; exact h1.lt
theorem MapG.mono {n' : Nat} (h : MapG kt R mk ok w b n g) (hn : n ≤ n') : MapG kt R mk ok w b n' g := by
  obtain ⟨D, h1, h2⟩ := h; exact ⟨D, h1.mono hn, h2⟩
theorem MapG.below {C : Nat} {w' : World} (h : MapG kt R mk ok w b n g) (hm : Below C w w') (hs : b < C) : MapG kt R mk ok w' b n g := h.mods (Mods.of_below hm) (by omega)
theorem MapG.alloc (h : MapG kt R mk ok w b n g) (o : Obj) : MapG kt R mk ok (w.alloc o) b n g := h.mods ((Mods.refl (fun _ => False) w).alloc o) (fun e => e)
theorem MapG.grown {w' : World} {row : Option Nat} (h : MapG kt R mk ok w b n g) (hm : w.grownBy w' row) (hs : row ≠ some b) : MapG kt R mk ok w' b n g := by
  obtain ⟨D, h1, h2⟩ := h; exact ⟨D, h1.kept hm (fun e => hs e.symm), h2⟩
theorem MapG.made (w : World) : MapG kt R mk ok (w.alloc (.map #[] 0)) w.heap.size 0 (fun _ : κ => none) :=
  ⟨.map [], World.ownsMap_made _ _ _ _, fun x _ => ⟨rfl, fun z => rfl⟩, fun kl h => by cases h⟩
theorem MapG.put_D (KW : KeyWay mk ok) {w' : World} {m : Nat} {D : DU} {d : DU} {x : κ} (hx : ok x) (hI : Maps.IsMap D)
    (h2 : ∀ x, ok x → Maps.has D (mk x) = (g x).isSome ∧ ∀ z, D.atKey (mk x) z = (g x).getD z) (h3 : ∀ kl, Maps.has D kl = true → ∃ x, ok x ∧ kl = mk x)
    (h : w'.ownsMap Tryz.prog kt R b m (D.put (mk x) d)) : MapG kt R mk ok w' b m (fun y => if y = x then some d else g y) := by
  refine ⟨_, h, fun y hy => ?_, fun kl hk => ?_⟩
  · by_cases e : y = x
    · subst e
      simp only [if_true]
      exact ⟨Maps.has_put_same hI (KW.key _ hx) d, fun z => Maps.atKey_put_same hI (KW.key _ hx) d z⟩
    · have hne : mk y ≠ mk x := fun e2 => e (KW.inj _ _ hy hx e2)
      simp only [if_neg e]
      rw [Maps.has_put_other hne]
      exact ⟨(h2 y hy).1, fun z => by rw [Maps.atKey_put_other hne]; exact (h2 y hy).2 z⟩
  · by_cases e : kl = mk x
    · exact ⟨x, hx, e⟩
    · rw [Maps.has_put_other e] at hk
      exact h3 kl hk
theorem mods_turned {w' : World} (h : w.mapTurned w' b) : Mods (fun k => k = b) w w' :=
  ⟨h.grown.os, h.grown.tape, h.grown.output, h.grown.size, fun k hk hn => h.grown.block k hk fun e => hn (by cases e; rfl)⟩
theorem size_turned {w' : World} (h : w.mapTurned w' b) : w'.heap.size = w.heap.size := by
  obtain ⟨es, c, es', c', _, rfl⟩ := h
  simp [ChangeMaps.setBlock]

variable {rest : List Oper} {ops : Array Oper} {o : Oper} {a : Act} {Q : Exit → Act → World → Prop}

theorem mapg_store (KW : KeyWay mk ok) (hg : o.guard = none) (m x v : Operand) (t : TypeId) (hop : o.op = Op.mapUpdate t m x v) (e : TypeId) (K : Maps.Keyed Tryz.prog kt) (ht : Tryz.prog.underlying t = some (.map kt e))
    (hm : a.eval m = .map (some b)) (h : MapG kt R mk ok w b n g) (hn : n < maxLen) (key val : Value) (y : κ) (hy : ok y) (hx : a.eval x = key) (hv : a.eval v = val) (hkey : keyOf Tryz.prog kt key = some (mk y)) (d : DU) (ps : List MemPlace) (hval : R val = some (d, ps))
    (hK : ∀ w', MapG kt R mk ok w' b (n + 1) (fun z => if z = y then some d else g z) → Mods (fun k => k = b) w w' → w'.heap.size = w.heap.size → wpList Tryz.prog ops Q rest (a.put o.dst undef) w') : wpList Tryz.prog ops Q (o :: rest) a w := by
  obtain ⟨D, h1, h2, h3⟩ := h
  exact wpList_mapUpdate_in w hg m x v t hop kt e K ht R b n D hm h1 hn key val (mk y) hx hv hkey d ps hval fun w' r1 r2 => hK w' (MapG.put_D KW hy h1.isMap h2 h3 r1) (mods_turned r2) (size_turned r2)
end

/-! ### keys that are naturals, keys that are strings -/
def natK (x : Nat) : Lit := .int .i64 (x : Int)
def natOk (x : Nat) : Prop := x < 9223372036854775808
theorem natWay : KeyWay natK natOk := ⟨fun x y _ _ h => by simp [natK] at h; omega, fun x _ => by simp [natK, WideAt.IsKeyLit]⟩
theorem intKeyed : Maps.Keyed Tryz.prog 3 := Maps.int_keyed Tryz.underlying3
theorem nat_wf {x : Nat} (h : natOk x) : (Lit.int .i64 (x : Int)).wf = true := by
  unfold natOk at h
  have e : IntKind.i64.min = -9223372036854775808 := by decide
  have e2 : IntKind.i64.max = 9223372036854775807 := by decide
  simp [Lit.wf, e, e2]; omega
theorem nat_key {x : Nat} (h : natOk x) : keyOf Tryz.prog 3 (.int .i64 (x : Int)) = some (natK x) := by
  exact Go.Maps.keyOf_int_mk Tryz.underlying3 (nat_wf h)
def strK (s : ByteArray) : Lit := .string s.data.toList
def strOk (s : ByteArray) : Prop := s.size ≤ maxLen
theorem strWay : KeyWay strK strOk := ⟨fun x y _ _ h => by
  have h2 := (Lit.string.inj h)
  cases x; cases y
  simp only [ByteArray.mk.injEq]
  exact Array.toList_inj.1 h2, fun x _ => by simp [strK, WideAt.IsKeyLit]⟩
theorem strKeyed : Maps.Keyed Tryz.prog 9 := Maps.string_keyed Tryz.underlying9
theorem str_key {s : ByteArray} (h : strOk s) : keyOf Tryz.prog 9 (.string s) = some (strK s) := Go.WideMaps.keyOf_string_mk Tryz.underlying9 h

/-! ### elements -/
def boolD (c : Bool) : Option DU := if c then some (.lit (.bool true)) else none
theorem zeroBool (w : World) : (zeroValue 4).run Tryz.prog w = .ok (.bool false) w := by kernel_rfl
theorem zeroInt (w : World) : (zeroValue 3).run Tryz.prog w = .ok (.int .i64 0) w := by kernel_rfl
theorem boolRz : plainElem (H := Unit) Tryz.prog 4 (.bool false) = some (.lit (.bool false), []) := plainElem_bool Tryz.underlying4 _
theorem boolRt : plainElem (H := Unit) Tryz.prog 4 (.bool true) = some (.lit (.bool true), []) := plainElem_bool Tryz.underlying4 _
theorem plainElem_bool_inv {P : Program} {e : TypeId} (he : P.underlying e = some .bool) {v : Value} {z : DU × List MemPlace} (h : plainElem P e v = some z) : ∃ x, v = .bool x ∧ z = (.lit (.bool x), []) := by
  unfold plainElem at h
  rw [he] at h
  cases v <;> simp at h
  exact ⟨_, rfl, h.symm⟩
theorem bool_elem (c : Bool) (v : Value) (ps : List MemPlace) (h : plainElem (H := Unit) Tryz.prog 4 v = some ((boolD c).getD (.lit (.bool false)), ps)) : v = .bool c := by
  obtain ⟨x, rfl, h2⟩ := plainElem_bool_inv Tryz.underlying4 h
  cases c <;> cases x <;> first | rfl | (simp [boolD] at h2)
def intD (c : Option Nat) : Option DU := c.map fun x => .lit (.int .i64 (x : Int))
theorem intRz : plainElem (H := Unit) Tryz.prog 3 (.int .i64 0) = some (.lit (.int .i64 0), []) := plainElem_int Tryz.underlying3 (by decide)
theorem intRn {x : Nat} (h : natOk x) : plainElem (H := Unit) Tryz.prog 3 (.int .i64 (x : Int)) = some (.lit (.int .i64 (x : Int)), []) := plainElem_int Tryz.underlying3 (nat_wf h)
theorem int_elem (c : Option Nat) (v : Value) (ps : List MemPlace) (h : plainElem (H := Unit) Tryz.prog 3 v = some ((intD c).getD (.lit (.int .i64 0)), ps)) : v = .int .i64 ((c.getD 0 : Nat) : Int) := by
  obtain ⟨a, rfl, h2, _⟩ := plainElem_int_inv Tryz.underlying3 h
  cases c <;> simp [intD] at h2 <;> simp [← h2]
def ptrD (c : Option Nat) : Option DU := c.map fun x => .lit (.int .i64 (x : Int))
theorem ptr_elem (c : Option Nat) (v : Value) (ps : List MemPlace) (h : ptrElem v = some ((ptrD c).getD (.lit (.int .i64 (-1))), ps)) : v = ptrTo c := by
  cases c with
  | none =>
    rcases ptrElem_inv (by simpa [ptrD] using h) with ⟨_, h⟩ | ⟨b, h, _⟩
    · exact h
    · omega
  | some x =>
    rcases ptrElem_inv (by simpa [ptrD] using h) with ⟨h, _⟩ | ⟨b, h, h2⟩
    · omega
    · rw [h2]; congr; omega
end Go.Proofs.YtbeabehebenocaaGreatDoor
end

section
/- Where the pointers to a file's blocks stand. -/
namespace Go.Proofs.YtbeabehebenocaaGreatDoor
open Go.RowKit

def plL (n : Nat) : Nat := if n < 8 then 0 else if n < 264 then 1 else 2
def plA (n : Nat) : Nat := if n < 8 then n else if n < 264 then n - 8 else (n - 264) / 256
def plB (n : Nat) : Nat := if n < 264 then 0 else (n - 264) % 256
def countN (size : Nat) : Nat := if size ≤ 67379200 then (size + 1023) / 1024 else 0
theorem ret_4 {a b c a2 b2 c2 : Int} (h : a = a2) (h1 : b = b2) (h2 : c = c2) : Ending.returned (.tuple #[.int .i64 a, .int .i64 b, .int .i64 c, .bool true]) = .returned (.tuple #[.int .i64 a2, .int .i64 b2, .int .i64 c2, .bool true]) := by rw [h, h1, h2]

theorem place_c (n : Nat) (hn : n < 65800) (w : World) : Calls Tryz.prog 81 #[.int .i64 n] w fun e w' => e = .returned (.tuple #[.int .i64 (plL n), .int .i64 (plA n), .int .i64 (plB n), .bool true]) ∧ w = w' := by
  have t0 : decide ((n : Int) < 0) = false := by simp
  have t1 : decide ((65800 : Int) ≤ (n : Int)) = false := by simp; omega
  by_cases h8 : n < 8
  · have e1 : plL n = 0 := by simp [plL, h8]
    have e2 : plA n = n := by simp [plA, h8]
    have e3 : plB n = 0 := by simp [plB]; omega
    have E1 := Lib.hid e1; have E2 := Lib.hid e2; have E3 := Lib.hid e3; clear e1 e2 e3
    have t2 : decide ((n : Int) < 8) = true := by simp; omega
    go_enter Tryz.func81, Tryz.ntmps81
    go_wp2
    exact bodyPost_ret (v := .tuple #[.int .i64 0, .int .i64 n, .int .i64 0, .bool true]) (by simp [results, Tryz.results81, go_sem]) rfl ⟨ret_4 (by rw [E1.out]; rfl) (by rw [E2.out]) (by rw [E3.out]; rfl), rfl⟩
  · have t2 : decide ((n : Int) < 8) = false := by simp; omega
    by_cases h9 : n < 264
    · have e1 : plL n = 1 := by simp [plL, h8, h9]
      have e2 : plA n = n - 8 := by simp [plA, h8, h9]
      have e3 : plB n = 0 := by simp [plB, h9]
      have E1 := Lib.hid e1; have E2 := Lib.hid e2; have E3 := Lib.hid e3; clear e1 e2 e3
      have t3 : decide ((n : Int) < 264) = true := by simp; omega
      go_enter Tryz.func81, Tryz.ntmps81
      go_wp2
      exact bodyPost_ret (v := .tuple #[.int .i64 1, .int .i64 (n - 8), .int .i64 0, .bool true]) (by simp [results, Tryz.results81, go_sem]) rfl ⟨ret_4 (by rw [E1.out]; rfl) (by rw [E2.out]; omega) (by rw [E3.out]; rfl), rfl⟩
    · have e1 : plL n = 2 := by simp [plL, h8, h9]
      have e2 : plA n = (n - 264) / 256 := by simp [plA, h8, h9]
      have e3 : plB n = (n - 264) % 256 := by simp [plB, h9]
      have E1 := Lib.hid e1; have E2 := Lib.hid e2; have E3 := Lib.hid e3; clear e1 e2 e3
      have t3 : decide ((n : Int) < 264) = false := by simp; omega
      have h0 : 0 ≤ (n : Int) - 264 := by omega
      go_enter Tryz.func81, Tryz.ntmps81
      go_wp2
      exact bodyPost_ret (v := .tuple #[.int .i64 2, .int .i64 ((n - 264) / 256), .int .i64 ((n - 264) % 256), .bool true]) (by simp [results, Tryz.results81, go_sem]) rfl ⟨ret_4 (by rw [E1.out]; rfl) (by rw [E2.out]; omega) (by rw [E3.out]; omega), rfl⟩

theorem first1_c (w : World) : Calls Tryz.prog 91 #[.int .i64 1, .int .i64 0] w fun e w' => e = .returned (.tuple #[.int .i64 8, .bool true]) ∧ w = w' := by
  go_enter Tryz.func91, Tryz.ntmps91
  go_wp2
  go_ret2
  exact ⟨rfl, rfl⟩
theorem first2_c (k : Nat) (hk : k < 256) (w : World) : Calls Tryz.prog 91 #[.int .i64 2, .int .i64 k] w fun e w' => e = .returned (.tuple #[.int .i64 ((264 + 256 * k : Nat) : Int), .bool true]) ∧ w = w' := by
  have t0 : decide ((0 : Int) ≤ (k : Int)) = true := by simp
  have t1 : decide ((k : Int) < 256) = true := by simp; omega
  go_enter Tryz.func91, Tryz.ntmps91
  go_wp2
  go_ret2
  exact ⟨ret_ib (by show _ = ((264 + 256 * k : Nat) : Int); omega) rfl, rfl⟩

theorem count_c (n : Nat) (hn : n < 9000000000) (w : World) : Calls Tryz.prog 53 #[.int .i64 n] w fun e w' => e = .returned (.int .i64 (countN n)) ∧ w = w' := by
  have t0 : decide ((n : Int) < 0) = false := by simp
  by_cases h : n ≤ 67379200
  · have e1 : countN n = (n + 1023) / 1024 := by simp [countN, h]
    have E1 := Lib.hid e1; clear e1
    have t1 : decide ((67379200 : Int) < (n : Int)) = false := by simp; omega
    go_enter Tryz.func53, Tryz.ntmps53
    go_wp2
    go_ret
    exact ⟨ret_int (by rw [E1.out]; omega), rfl⟩
  · have e1 : countN n = 0 := by simp [countN, h]
    have E1 := Lib.hid e1; clear e1
    have t1 : decide ((67379200 : Int) < (n : Int)) = true := by simp; omega
    go_enter Tryz.func53, Tryz.ntmps53
    go_wp2
    go_ret
    exact ⟨ret_int (by rw [E1.out]; rfl), rfl⟩
end Go.Proofs.YtbeabehebenocaaGreatDoor
end

section
/- The pointers of an inode, where the Single and the Double are not gone into. -/
namespace Go.Proofs.YtbeabehebenocaaGreatDoor
open Go.RowKit Go.Shelf
attribute [local go_sem] Oper.semAt_some

theorem grown_set (w : World) (B o : Nat) (v : Value) : w.grownBy (w.setCell ⟨B, o, none⟩ v) (some B) := ⟨rfl, rfl, rfl, by simp [World.setCell], fun k hk hne => Below.heap_setCell _ _ _ _ (fun e => hne (by rw [e]))⟩
theorem wide_round {n m : Nat} {P : Program} {l f : Nat} {tmps : Array Value} {assign body : Code} {w : World} {R : Ending → World → Prop} (h : RoundIn Fence.wide n P l f tmps assign body w R) : RoundIn Fence.wide m P l f tmps assign body w R :=
  ⟨h.1, fun c cs _ => h.2 c cs (room_wide _)⟩
def ptrsI (I : InoN) : List Ptr := (List.range 8).map (fun k => ⟨0, k, k, I (3 + k)⟩) ++ [⟨-1, 1, 8, I 11⟩, ⟨-1, 2, 264, I 12⟩]
def ptrE (p : Ptr) : Array Value := #[.agg (ptrV p).toArray]
def leaves (I : InoN) (k : Nat) : List Ptr := (List.range k).map (fun k => ⟨0, k, k, I (3 + k)⟩)
theorem leaves_succ (I : InoN) (k : Nat) : leaves I (k + 1) = leaves I k ++ [⟨0, k, k, I (3 + k)⟩] := by simp [leaves, List.range_succ]
theorem leaves_length (I : InoN) (k : Nat) : (leaves I k).length = k := by simp [leaves]

theorem idx8 (I : InoN) (k : Nat) (hk : k < 8) (W : World) : (Instr.index 38 (.agg #[.int .i64 (I 3 : Nat), .int .i64 (I 4 : Nat), .int .i64 (I 5 : Nat), .int .i64 (I 6 : Nat), .int .i64 (I 7 : Nat), .int .i64 (I 8 : Nat), .int .i64 (I 9 : Nat), .int .i64 (I 10 : Nat)]) (.int .i64 (k : Int))).run Tryz.prog W = .ok (.int .i64 (I (3 + k) : Nat)) W := by
  have i0 : ∀ (a0 a1 a2 a3 a4 a5 a6 a7 : Value) (W : World), (Instr.index 38 (.agg #[a0, a1, a2, a3, a4, a5, a6, a7]) (.int .i64 0)).run Tryz.prog W = .ok a0 W := fun _ _ _ _ _ _ _ _ _ => by kernel_rfl
  have i1 : ∀ (a0 a1 a2 a3 a4 a5 a6 a7 : Value) (W : World), (Instr.index 38 (.agg #[a0, a1, a2, a3, a4, a5, a6, a7]) (.int .i64 1)).run Tryz.prog W = .ok a1 W := fun _ _ _ _ _ _ _ _ _ => by kernel_rfl
  have i2 : ∀ (a0 a1 a2 a3 a4 a5 a6 a7 : Value) (W : World), (Instr.index 38 (.agg #[a0, a1, a2, a3, a4, a5, a6, a7]) (.int .i64 2)).run Tryz.prog W = .ok a2 W := fun _ _ _ _ _ _ _ _ _ => by kernel_rfl
  have i3 : ∀ (a0 a1 a2 a3 a4 a5 a6 a7 : Value) (W : World), (Instr.index 38 (.agg #[a0, a1, a2, a3, a4, a5, a6, a7]) (.int .i64 3)).run Tryz.prog W = .ok a3 W := fun _ _ _ _ _ _ _ _ _ => by kernel_rfl
  have i4 : ∀ (a0 a1 a2 a3 a4 a5 a6 a7 : Value) (W : World), (Instr.index 38 (.agg #[a0, a1, a2, a3, a4, a5, a6, a7]) (.int .i64 4)).run Tryz.prog W = .ok a4 W := fun _ _ _ _ _ _ _ _ _ => by kernel_rfl
  have i5 : ∀ (a0 a1 a2 a3 a4 a5 a6 a7 : Value) (W : World), (Instr.index 38 (.agg #[a0, a1, a2, a3, a4, a5, a6, a7]) (.int .i64 5)).run Tryz.prog W = .ok a5 W := fun _ _ _ _ _ _ _ _ _ => by kernel_rfl
  have i6 : ∀ (a0 a1 a2 a3 a4 a5 a6 a7 : Value) (W : World), (Instr.index 38 (.agg #[a0, a1, a2, a3, a4, a5, a6, a7]) (.int .i64 6)).run Tryz.prog W = .ok a6 W := fun _ _ _ _ _ _ _ _ _ => by kernel_rfl
  have i7 : ∀ (a0 a1 a2 a3 a4 a5 a6 a7 : Value) (W : World), (Instr.index 38 (.agg #[a0, a1, a2, a3, a4, a5, a6, a7]) (.int .i64 7)).run Tryz.prog W = .ok a7 W := fun _ _ _ _ _ _ _ _ _ => by kernel_rfl
  match k, hk with
  | 0, _ => exact i0 _ _ _ _ _ _ _ _ W
  | 1, _ => exact i1 _ _ _ _ _ _ _ _ W
  | 2, _ => exact i2 _ _ _ _ _ _ _ _ W
  | 3, _ => exact i3 _ _ _ _ _ _ _ _ W
  | 4, _ => exact i4 _ _ _ _ _ _ _ _ W
  | 5, _ => exact i5 _ _ _ _ _ _ _ _ W
  | 6, _ => exact i6 _ _ _ _ _ _ _ _ W
  | 7, _ => exact i7 _ _ _ _ _ _ _ _ W

set_option maxRecDepth 100000 in
theorem leaf_in (n m l k t YB : Nat) (W : World) (T : World → Prop) (hn : 1 ≤ n) (hc : W.cell? ⟨YB, 0, none⟩ = some (.func (.yield l) #[] #[]))
    (hY : YieldAt Fence.wide m Tryz.prog l #[.agg #[.int .i64 0, .int .i64 (k : Nat), .int .i64 (k : Nat), .int .i64 (t : Nat)]] W fun e W' => e = .returned (.bool true) ∧ T W') :
    CallsIn Fence.wide n Tryz.prog 90 #[.int .i64 (k : Nat), .int .i64 (t : Nat), .pointer (some ⟨YB, 0, none⟩)] W fun e W' => e = .returned (.bool true) ∧ T W' := by
  refine callsIn_of_wp Tryz.func90 rfl trivial ?_ rfl
  simp only [Tryz.ntmps90, List.size_toArray, List.length_cons, List.length_nil, Nat.reduceAdd, Nat.reduceSub, Array.replicate_succ, Array.replicate_zero, List.push_toArray, List.append_toArray, List.nil_append, List.cons_append]
  obtain ⟨fn, tmps, assign, body, hy, hR⟩ := hY
  gi_wp2
  refine (wide_round hR).mono ?_
  rintro e W3 ⟨rfl, hT⟩
  gi_wp2
  go_ret
  exact ⟨rfl, hT⟩

theorem keepin_c (a b c q f t : Int) (LB : Nat) (W : World) (h : Blk 114 W LB [.int .i64 0, .int .i64 a, .int .i64 b, .int .i64 c]) :
    Calls Tryz.prog 97 #[.agg #[.int .i64 (-1), .int .i64 q, .int .i64 f, .int .i64 t], .pointer (some ⟨LB, 0, none⟩)] W fun e w' => e = .returned (.bool false) ∧ ∃ o, w' = W.alloc o := by
  have hl := h.lt
  have c0 := h.cell 0; have c1 := h.cell 1; have c2 := h.cell 2; have c3 := h.cell 3
  simp only [List.getElem?_cons_zero, List.getElem?_cons_succ] at c0 c1 c2 c3
  go_enter Tryz.func97, Tryz.ntmps97
  go_wp2
  go_ret
  exact ⟨rfl, _, rfl⟩
end Go.Proofs.YtbeabehebenocaaGreatDoor
end

section
/- The pointers of an inode: the iterator. -/
namespace Go.Proofs.YtbeabehebenocaaGreatDoor
open Go.RowKit Go.Shelf
attribute [local go_sem] Oper.semAt_some

/-- a cell that the body may not touch -/
def Mine (Dm : World → Nat → Prop) (b : Nat) (xs : List Value) (t : TypeId) (W : World) : Prop := Blk t W b xs ∧ ¬ Dm W b
theorem Mine.turn {Dm : World → Nat → Prop} {b l : Nat} {xs : List Value} {t : TypeId} {W W' : World} (h : Mine Dm b xs t W) (ht : Turn Dm l W W') (hl : b ≠ l) : Mine Dm b xs t W' :=
  ⟨(ht.block b h.1.lt hl h.2).trans h.1, fun hd => h.2 (ht.own b h.1.lt hd)⟩
theorem Mine.alloc {Dm : World → Nat → Prop} {b : Nat} {xs : List Value} {t : TypeId} {W W' : World} (h : Mine Dm b xs t W) (hg : W.grownBy W' none) (hd : ∀ k, Dm W' k → Dm W k) : Mine Dm b xs t W' :=
  ⟨(hg.block b h.1.lt (by simp)).trans h.1, fun hx => h.2 (hd b hx)⟩
theorem Mine.grown {Dm : World → Nat → Prop} {b : Nat} {xs : List Value} {t : TypeId} {W W' : World} {row : Option Nat} (h : Mine Dm b xs t W) (hg : W.grownBy W' row) (hne : some b ≠ row) (hd : ∀ k, Dm W' k → Dm W k) : Mine Dm b xs t W' :=
  ⟨(hg.block b h.1.lt hne).trans h.1, fun hx => h.2 (hd b hx)⟩
theorem leaves_get (I : InoN) : ptrsI I = leaves I 8 ++ [⟨-1, 1, 8, I 11⟩, ⟨-1, 2, 264, I 12⟩] := rfl

set_option maxRecDepth 100000 in
set_option maxHeartbeats 4000000 in
theorem pointers_seq (n : Nat) (hn : 3 ≤ n) (G : Geo) (I : InoN) (hs1 : G.dOk (I 11) = false) (hs2 : G.dOk (I 12) = false) (hpb : ∀ k, I k < 4294967296) (mb ib nb LB : Nat) (w : World) (hi : Blk 40 w ib (inoL I)) (hnb : Blk 112 w nb [.func (.func 97) #[] #[.pointer (some ⟨LB, 0, none⟩)]]) :
    SeqD Fence.wide n Tryz.prog 89 #[.pointer (some ⟨ib, 0, none⟩), .pointer (some ⟨nb, 0, none⟩), .pointer (some ⟨mb, 0, none⟩)] ptrE (fun k => k = ib ∨ k = nb)
      (fun pre W => (∀ p ∈ pre, p.lv = 0 ∨ G.dOk p.tgt = false) → ∃ a b c : Int, Blk 114 W LB [.int .i64 0, .int .i64 a, .int .i64 b, .int .i64 c]) (fun xs => xs = ptrsI I) (fun p => p.tgt < 4294967296) 10 w := by
  intro l J Dm W hW hl1 hl2 hB hDlt hLink hY h0
  have hg8 : ∀ p ∈ leaves I 8, p.lv = 0 ∨ G.dOk p.tgt = false := fun p hp => by
    simp only [leaves, List.mem_map] at hp
    obtain ⟨k, _, rfl⟩ := hp
    exact .inl rfl
  have mi : Mine Dm ib (inoL I) 40 W := ⟨(hW.block _ hi.lt).trans hi, fun hd => (hDlt _ _ _ h0 hd).2 (.inl rfl)⟩
  have mn : Mine Dm nb [.func (.func 97) #[] #[.pointer (some ⟨LB, 0, none⟩)]] 112 W := ⟨(hW.block _ hnb.lt).trans hnb, fun hd => (hDlt _ _ _ h0 hd).2 (.inr rfl)⟩
  refine callsIn_of_wp Tryz.func89 rfl trivial ?_ rfl
  simp only [Tryz.ntmps89, List.size_toArray, List.length_cons, List.length_nil, Nat.reduceAdd, Nat.reduceSub, Array.replicate_succ, Array.replicate_zero, List.push_toArray, List.append_toArray, List.nil_append, List.cons_append]
  have iL := mi.1.lt; have nL := mn.1.lt
  have L8 := idx8 I
  obtain ⟨y0, y1, y2, y3, y4, y5, y6, y7, y8, y9, y10, y11, y12⟩ := cells13 mi.1
  gi_wp2
  gi_loopw [6, 7, 16] (fun _ _ i wr => ∃ k : Nat, k ≤ 8 ∧ i = .int .i64 (k : Nat) ∧ J (leaves I k) wr ∧ Mine Dm ib (inoL I) 40 wr ∧ Mine Dm nb [.func (.func 97) #[] #[.pointer (some ⟨LB, 0, none⟩)]] 112 wr ∧
      Mine Dm W.heap.size [.func (.yield l) #[] #[]] 112 wr ∧ Mine Dm (W.heap.size + 1) [.func (.func 90) #[] #[.pointer (some ⟨W.heap.size, 0, none⟩)]] 30 wr)
    (fun _ _ i _ => 8 - (intOf i).toNat)
  case atStart =>
    have hg : W.grownBy ((W.alloc (.cells #[.func (.yield l) #[] #[]] 112)).alloc (.cells #[.func (.func 90) #[] #[.pointer (some ⟨W.heap.size, 0, none⟩)]] 30)) none :=
      (World.grownBy_alloc W _ none).andThen (World.grownBy_alloc _ _ none) (fun j e => by cases e)
    obtain ⟨h1, h2⟩ := hB [] W _ none h0 hg (fun r e => by cases e)
    refine ⟨0, by omega, rfl, h1, mi.alloc hg h2, mn.alloc hg h2, ⟨Blk.fst _ _, fun hd => ?_⟩, ⟨Blk.snd _ _, fun hd => ?_⟩⟩
    · have := (hDlt _ _ _ h0 (h2 _ hd)).1; omega
    · have := (hDlt _ _ _ h0 (h2 _ hd)).1; omega
  case round =>
    obtain ⟨k, hk, rfl, hJ, m1, m2, m3, m4⟩ := hrel
    have c3 := m3.1.cell 0; have c4 := m4.1.cell 0
    simp only [List.getElem?_cons_zero] at c3 c4
    by_cases hlt : k < 8
    · have hx := L8 k hlt
      have hf := leaf_in (n - 1) (n - 1) l k (I (3 + k)) W.heap.size wr (fun W' => J (leaves I (k + 1)) W' ∧ Turn Dm l wr W') (by omega) c3 (by
        have := hY _ ⟨0, k, k, I (3 + k)⟩ wr hJ (hpb _) (by rw [leaves_length]; omega)
        rw [leaves_succ]; exact this)
      gi_wp2
      refine ⟨trivial, fun _ => (by omega), hf.mono ?_⟩
      rintro e W3 ⟨rfl, hJ3, ht3⟩
      gi_wp2
      go_roundw
      case rel => exact ⟨k + 1, by omega, by go_num, hJ3, m1.turn ht3 (by have := hi.lt; omega), m2.turn ht3 (by have := hnb.lt; omega), m3.turn ht3 (by omega), m4.turn ht3 (by omega)⟩
      case measure => simp [intOf]; omega
    · obtain rfl : k = 8 := by omega
      obtain ⟨z0, z1, z2, z3, z4, z5, z6, z7, z8, z9, z10, z11, z12⟩ := cells13 m1.1
      have iL2 := m1.1.lt; have nL2 := m2.1.lt; have l3 := m3.1.lt; have l4 := m4.1.lt
      have hg9 : wr.grownBy ((wr.alloc (.cells #[.int .i64 8] 3)).alloc (.cells #[.int .i64 (-1), .int .i64 1, .int .i64 8, .int .i64 (I 11 : Nat)] 114)) none :=
        (World.grownBy_alloc wr _ none).andThen (World.grownBy_alloc _ _ none) (fun j e => by cases e)
      obtain ⟨J9, d9⟩ := hB _ wr _ none hJ hg9 (fun r e => by cases e)
      obtain ⟨fn, tmps, assign, body, hy, hR⟩ := hY (leaves I 8) ⟨-1, 1, 8, I 11⟩ _ J9 (hpb _) (by rw [leaves_length]; omega)
      replace hy : (Instr.yield l #[.agg #[.int .i64 (-1), .int .i64 1, .int .i64 8, .int .i64 (I 11 : Nat)]]).run Tryz.prog _ = _ := hy
      gi_wp2
      refine ⟨trivial, fun _ => (by omega), (callsIn_wide.2 (first1_c _)).mono ?_⟩
      rintro e w1 ⟨rfl, rfl⟩
      gi_wp2
      refine ⟨fun _ => (by omega), hR.mono ?_⟩
      rintro e W3 ⟨rfl, J3, t3⟩
      clear hR hy
      have m10 : Mine Dm (wr.heap.size + 1) [.int .i64 (-1), .int .i64 1, .int .i64 8, .int .i64 (I 11 : Nat)] 114 W3 := Mine.turn ⟨Blk.snd _ _, fun hd => by have := (hDlt _ _ _ hJ (d9 _ hd)).1; omega⟩ t3 (by omega)
      have n1 := (m1.alloc hg9 d9).turn t3 (by have := hi.lt; omega)
      have n2 := (m2.alloc hg9 d9).turn t3 (by have := hnb.lt; omega)
      have n3 := (m3.alloc hg9 d9).turn t3 (by omega)
      have hsz := t3.size
      simp only [World.size_alloc] at hsz
      obtain ⟨a, b, c, hLB⟩ := hLink _ _ J3 (fun p hp => by
        simp only [List.mem_append, List.mem_singleton] at hp
        rcases hp with hp | rfl
        · exact hg8 p hp
        · exact .inr hs1)
      obtain ⟨x0, x1, x2, x3, x4, x5, x6, x7, x8, x9, x10, x11, x12⟩ := cells13 n1.1
      have q0 := m10.1.cell 0; have q1 := m10.1.cell 1; have q2 := m10.1.cell 2; have q3 := m10.1.cell 3; have q4 := n3.1.cell 0; have q5 := n2.1.cell 0
      simp only [List.getElem?_cons_zero, List.getElem?_cons_succ] at q0 q1 q2 q3 q4 q5
      have fr : ∀ k, W3.frozen? ⟨wr.heap.size + 1, k, none⟩ = false := fun k => m10.1.frozen _
      have fr0 := fr 0; have fr1 := fr 1; have fr2 := fr 2; have fr3 := fr 3
      have iL3 := n1.1.lt; have nL3 := n2.1.lt; have l33 := n3.1.lt; have l10 := m10.1.lt
      have hLl := hLB.lt
      have F2 := fun W => first2_c 0 (by omega) W
      simp only [Nat.mul_zero, Nat.add_zero] at F2
      gi_wp2
      refine ⟨trivial, fun _ => (by omega), (callsIn_wide.2 (keepin_c a b c 1 8 (I 11 : Nat) LB W3 hLB)).mono ?_⟩
      rintro e w4 ⟨rfl, o, rfl⟩
      gi_wp2_with (refine ⟨trivial, ?_⟩)
      refine ⟨fun _ => (by omega), (callsIn_wide.2 (F2 _)).mono ?_⟩
      rintro e w1 ⟨rfl, rfl⟩
      have gs := grown_set W3 (wr.heap.size + 1)
      have g4 : W3.grownBy ((((W3.setCell ⟨wr.heap.size + 1, 0, none⟩ (.int .i64 (-1))).setCell ⟨wr.heap.size + 1, 1, none⟩ (.int .i64 2)).setCell ⟨wr.heap.size + 1, 2, none⟩ (.int .i64 264)).setCell ⟨wr.heap.size + 1, 3, none⟩ (.int .i64 (I 12 : Nat))) (some (wr.heap.size + 1)) :=
        (((grown_set _ _ _ _).andThen (grown_set _ _ _ _) (fun j e => .inr e)).andThen (grown_set _ _ _ _) (fun j e => .inr e)).andThen (grown_set _ _ _ _) (fun j e => .inr e)
      obtain ⟨J4, d4⟩ := hB _ W3 _ _ J3 g4 (fun r e => by cases e; exact ⟨by omega, m10.2⟩)
      have p2 := n2.grown g4 (fun e => by have := Option.some.inj e; omega) d4
      have p3 := n3.grown g4 (fun e => by have := Option.some.inj e; omega) d4
      have p10 : Mine Dm (wr.heap.size + 1) [.int .i64 (-1), .int .i64 2, .int .i64 264, .int .i64 (I 12 : Nat)] 114 _ := ⟨(((m10.1.set 0 (.int .i64 (-1))).set 1 (.int .i64 2)).set 2 (.int .i64 264)).set 3 (.int .i64 (I 12 : Nat)), fun hd => m10.2 (d4 _ hd)⟩
      have g5 := World.grownBy_alloc ((((W3.setCell ⟨wr.heap.size + 1, 0, none⟩ (.int .i64 (-1))).setCell ⟨wr.heap.size + 1, 1, none⟩ (.int .i64 2)).setCell ⟨wr.heap.size + 1, 2, none⟩ (.int .i64 264)).setCell ⟨wr.heap.size + 1, 3, none⟩ (.int .i64 (I 12 : Nat))) o none
      obtain ⟨J10, d10⟩ := hB _ _ _ none J4 g5 (fun r e => by cases e)
      have r2 := p2.alloc g5 d10
      have r10 := p10.alloc g5 d10
      clear gs
      obtain ⟨fn, tmps, assign, body, hy, hR⟩ := hY _ ⟨-1, 2, 264, I 12⟩ _ J10 (hpb _) (by simp [leaves_length])
      replace hy : (Instr.yield l #[.agg #[.int .i64 (-1), .int .i64 2, .int .i64 264, .int .i64 (I 12 : Nat)]]).run Tryz.prog _ = _ := hy
      gi_wp2
      refine ⟨fun _ => (by omega), hR.mono ?_⟩
      rintro e W5 ⟨rfl, J5, t5⟩
      clear hR hy
      have s2 := r2.turn t5 (by have := hnb.lt; omega)
      have s10 := r10.turn t5 (by omega)
      obtain ⟨a2, b2, c2, hLB2⟩ := hLink _ _ J5 (fun p hp => by
        simp only [List.mem_append, List.mem_singleton] at hp
        rcases hp with (hp | rfl) | rfl
        · exact hg8 p hp
        · exact .inr hs1
        · exact .inr hs2)
      have v0 := s10.1.cell 0; have v1 := s10.1.cell 1; have v2 := s10.1.cell 2; have v3 := s10.1.cell 3; have v5 := s2.1.cell 0
      simp only [List.getElem?_cons_zero, List.getElem?_cons_succ] at v0 v1 v2 v3 v5
      gi_wp2
      refine ⟨trivial, fun _ => (by omega), (callsIn_wide.2 (keepin_c a2 b2 c2 2 264 (I 12 : Nat) LB W5 hLB2)).mono ?_⟩
      rintro e w4 ⟨rfl, o2, rfl⟩
      gi_wp2
      refine bodyPost_ret (results_none rfl _ _ _) rfl ?_
      refine ⟨⟨_, rfl⟩, ptrsI I, rfl, ?_⟩
      have := (hB _ _ _ none J5 (World.grownBy_alloc W5 o2 none) (fun r e => by cases e)).1
      rw [leaves_get]
      simpa using this
end Go.Proofs.YtbeabehebenocaaGreatDoor
end

section
/- mend: Image.Pointers as a value, and what a mender keeps of an inode's pointers. -/
namespace Go.Proofs.YtbeabehebenocaaGreatDoor
open Go.RowKit Go.Shelf

theorem pointers_c (gr ino da b o N cap : Nat) (I : InoN) (fv : Value) (fn : Fn) (fi ca : Array Value) (hfv : fv = .func fn fi ca) (w : World) :
    Calls Tryz.prog 69 #[.agg #[.int .i64 gr, .int .i64 ino, .int .i64 da, .slice (some ⟨b, o, none⟩) N cap], inoV I, fv] w fun e w' => e = .returned (.func (.func 89) #[] #[.pointer (some ⟨w.heap.size + 1, 0, none⟩), .pointer (some ⟨w.heap.size + 2, 0, none⟩), .pointer (some ⟨w.heap.size, 0, none⟩)]) ∧
      Blk 40 w' (w.heap.size + 1) (inoL I) ∧ Blk 112 w' (w.heap.size + 2) [fv] ∧ Below w.heap.size w w' ∧ w'.heap.size = w.heap.size + 3 := by
  subst hfv
  unfold inoV
  go_enter Tryz.func69, Tryz.ntmps69
  go_wp2
  go_ret
  refine ⟨rfl, ?_, ?_, ((((Below.refl _ w).alloc (Nat.le_refl _) _).alloc (by simp) _).alloc (by simp; omega) _), by simp⟩
  · exact (Blk.snd _ (inoL I)).alloc _
  · have := Blk.newL (e := 112) (w := (w.alloc (.cells #[.int .i64 gr, .int .i64 ino, .int .i64 da, .slice (some ⟨b, o, none⟩) N cap] 49)).alloc (.cells (inoL I).toArray 40)) [.func fn fi ca]
    rw [World.size_alloc, World.size_alloc, Nat.add_assoc] at this
    exact this

/-! ### what is kept -/
def keepOk (g : Geo) (most : Nat) (c : Nat → Bool) (p : Ptr) : Bool := decide (p.first < most) && (g.dOk p.tgt && !c p.tgt)
def keepS (g : Geo) (most : Nat) (s : List Ptr × (Nat → Bool)) (p : Ptr) : List Ptr × (Nat → Bool) := if keepOk g most s.2 p then (s.1 ++ [p], fun x => s.2 x || decide (x = p.tgt)) else s
def keepR (g : Geo) (most : Nat) (c : Nat → Bool) (ps : List Ptr) : List Ptr × (Nat → Bool) := ps.foldl (keepS g most) ([], c)
theorem keepR_snoc (g : Geo) (most : Nat) (c : Nat → Bool) (ps : List Ptr) (p : Ptr) : keepR g most c (ps ++ [p]) = keepS g most (keepR g most c ps) p := by simp [keepR, List.foldl_append]
theorem keepR_sub (g : Geo) (most : Nat) (c : Nat → Bool) : ∀ (ps : List Ptr) (s : List Ptr × (Nat → Bool)), (∀ p ∈ s.1, g.dOk p.tgt = true) → ∀ p ∈ (ps.foldl (keepS g most) s).1, (p ∈ s.1 ∨ p ∈ ps) ∧ g.dOk p.tgt = true
  | [], s, h, p, hp => ⟨.inl hp, h p hp⟩
  | q :: r, s, h, p, hp => by
    have ih := keepR_sub g most c r (keepS g most s q) (by
      intro x hx
      unfold keepS at hx
      split at hx
      · rename_i hk
        simp only [List.mem_append, List.mem_singleton] at hx
        rcases hx with hx | rfl
        · exact h x hx
        · simp only [keepOk, Bool.and_eq_true] at hk; exact hk.2.1
      · exact h x hx) p hp
    refine ⟨?_, ih.2⟩
    rcases ih.1 with h1 | h1
    · unfold keepS at h1
      split at h1
      · simp only [List.mem_append, List.mem_singleton] at h1
        rcases h1 with h1 | rfl
        · exact .inl h1
        · exact .inr (by simp)
      · exact .inl h1
    · exact .inr (List.mem_cons_of_mem _ h1)
theorem keepR_length (g : Geo) (most : Nat) : ∀ (ps : List Ptr) (s : List Ptr × (Nat → Bool)), (ps.foldl (keepS g most) s).1.length ≤ s.1.length + ps.length
  | [], s => Nat.le_refl _
  | q :: r, s => by
    refine Nat.le_trans (keepR_length g most r _) ?_
    unfold keepS
    split <;> simp <;> omega
def lastP (L : List Ptr) : Ptr := L.getLast?.getD ⟨0, 0, 0, 0⟩
theorem infoP : (Tryz.prog.info? 114).map (fun i => (i.zero, i.size, i.bytes)) = some (some (.agg #[.int .i64 0, .int .i64 0, .int .i64 0, .int .i64 0]), 4, 32) := by kernel_rfl
end Go.Proofs.YtbeabehebenocaaGreatDoor
end

section
/- A region that draws its order, within a round of a range over an iterator: by the laws for a region outside of one. -/
namespace Go.Proofs.YtbeabehebenocaaGreatDoor
open Go.RowKit Go.Shelf

section
variable {P : Program} {md : Region.Mode} {ops : Array Oper} {Q : Exit → Act → World → Prop}
theorem rows_in_round {l n : Nat} {row : String} {args : Array Value} {w : World} {R : Value → World → Prop} (h : Rows P row args w R) : RowsIn (Fence.wide.inRound l) n P row args w R :=
  fun c cs _ => let ⟨v, w', r, s⟩ := h c cs; ⟨v, w', r, stepsIn_wide.2 s⟩
theorem oper_in_round (l n : Nat) {o : Oper} {a : Act} {w : World} {K : Act → World → Prop} (hd : ∀ c, o.op ≠ .defer c) (h : o.wp P a w K Q) : o.wpIn (Fence.wide.inRound l) n P a w K Q := by
  refine ⟨fun _ _ => trivial, ?_⟩
  rw [Oper.semAt_eq _ _ _ hd]
  unfold Oper.wp at h
  generalize (execOp a.eval o).run P w = r at h ⊢
  cases r with
  | ok x w' =>
    cases x <;> simp only [Oper.upon] at h <;> simp only [Oper.uponIn]
    case value => exact h
    case skip => exact h
    case defer => exact h
    case enter => exact ⟨fun e => (by cases e), CallsIn.inRound l (callsIn_wide.2 h)⟩
    case row => exact ⟨fun e => (by cases e), rows_in_round h⟩
  | halt x w' => cases x <;> simp only [Oper.upon] at h <;> simp only [Oper.uponIn] <;> exact h
theorem any_in_round (l n : Nat) (hd : ∀ (i : Nat) (o : Oper) c, ops[i]? = some o → o.op ≠ .defer c) (hno : ¬ LetsOut Q) : ∀ (fuel : Nat) (listed : Array Bool) (a : Act) (w : World), wpAny P md ops Q fuel listed a w → wpAnyIn (Fence.wide.inRound l) n P md ops Q fuel listed a w
  | 0, _, _, _, h => h
  | fuel + 1, listed, a, w, h => ⟨h.1, fun i hi => by
    have h2 := h.2 i hi
    refine wpOpIn_mono (fun a' w' => any_in_round l n hd hno fuel _ a' w') ?_
    unfold wpOp at h2
    unfold wpOpIn
    cases ho : ops[i]? with
    | none => rw [ho] at h2; exact h2
    | some o =>
      rw [ho] at h2
      simp only at h2 ⊢
      split at h2
      · rename_i hw
        rw [if_pos hw]
        rcases h2 with h2 | ⟨_, h2⟩
        · exact oper_in_round l n (fun c => hd i o c ho) h2
        · exact absurd h2 hno
      · rename_i hw
        rw [if_neg hw]
        exact ⟨fun _ _ => trivial, h2⟩⟩
def noDefer (ops : Array Oper) : Bool := ops.all fun o => match o.op with | .defer _ => false | _ => true
theorem noDefer_spec (h : noDefer ops = true) (i : Nat) (o : Oper) (c : Call) (ho : ops[i]? = some o) : o.op ≠ .defer c := fun e => by
  have := Array.all_eq_true.1 h i (Array.getElem?_eq_some_iff.1 ho).1
  rw [(Array.getElem?_eq_some_iff.1 ho).2, e] at this
  cases this
theorem region_round (S : World → Prop) {l n id : Nat} {a : Act} {w : World} (hm : P.follows .mixedOrders = true) (hd : noDefer ops = true) (hno : ¬ LetsOut Q) (hS : S w.drew)
    (h : S w.drew → wpAnyH P .any ops Q S ops.size (Array.replicate ops.size false) a w.drew) : (Code.region id ops true).wpIn (Fence.wide.inRound l) n P Q a w :=
  wpIn_region_any hm (any_in_round l n (noDefer_spec hd) hno _ _ _ _ (wpAny_of_held _ _ _ _ (h hS)))
end
/-- a stronger word serves for a weaker one -/
theorem anyH_mono {P : Program} {md : Region.Mode} {ops : Array Oper} {Q : Exit → Act → World → Prop} {S : World → Prop} (S' : World → Prop) (hS : ∀ w, S' w → S w) : ∀ (fuel : Nat) (listed : Array Bool) (a : Act) (w : World), wpAnyH P md ops Q S' fuel listed a w → wpAnyH P md ops Q S fuel listed a w
  | 0, _, _, _, h => h
  | fuel + 1, _, _, _, h => ⟨h.1, fun i hi => wpOp_mono (fun a' w' h' => ⟨hS w' h'.1, anyH_mono S' hS fuel _ a' w' h'.2⟩) (h.2 i hi)⟩
end Go.Proofs.YtbeabehebenocaaGreatDoor
end

section
/- mend: a mender keeps an inode's pointers, where the Single and the Double are not gone into. -/
namespace Go.Proofs.YtbeabehebenocaaGreatDoor
open Go.RowKit Go.Shelf
attribute [local go_sem] Oper.semAt_some

theorem Blk.newAt {e : TypeId} {w : World} {B : Nat} (xs : List Value) (h : w.heap.size = B) : Blk e (w.alloc (.cells xs.toArray e)) B xs := by subst h; exact Blk.newL xs
theorem cells_newL (w : World) (B : Nat) (xs : List Value) (t : TypeId) (hB : w.heap.size = B) : ∀ j u, xs[j]? = some u → (w.alloc (.cells xs.toArray t)).cell? ((⟨B, 0, none⟩ : Addr).add j) = some u := by
  subst hB
  intro j u h
  have hb := Blk.newL (e := t) (w := w) xs
  have := hb.cell j
  rw [h] at this
  simpa [Addr.add_lit] using this
/-- what the mender's claims say -/
def Claims (w : World) (CB n : Nat) (c : Nat → Bool) : Prop := MapG 3 (plainElem Tryz.prog 4) natK natOk w CB n (fun x => boolD (c x))
def KDm (s0 CB : Nat) (W : World) (k : Nat) : Prop := k = CB ∨ k = s0 + 3 ∨ k = s0 + 4 ∨ ∃ n cap, W.cell? ⟨s0 + 3, 0, none⟩ = some (.slice (some ⟨k, 0, none⟩) n cap)
/-- between the rounds -/
structure KI (g : Geo) (most : Nat) (c : Nat → Bool) (w1 : World) (s0 CB n0 : Nat) (pre : List Ptr) (W : World) : Prop where
  out : ∃ v, Blk 88 W (s0 + 3) [v] ∧ W.ownsRow (s0 + 8) 114 4 v (keepR g most c pre).1.length ((keepR g most c pre).1.flatMap ptrV)
  last : Blk 114 W (s0 + 4) (ptrV (lastP (keepR g most c pre).1))
  claims : Claims W CB (n0 + pre.length) (keepR g most c pre).2
  mods : Mods (fun k => k = CB ∨ k = s0 + 3 ∨ k = s0 + 4) w1 W
theorem KI.bears (G : Geo) (most : Nat) (c : Nat → Bool) (w1 : World) (s0 CB n0 : Nat) (hs : w1.heap.size = s0 + 8) (hCB : CB < s0) : Bears (s0 + 8) (KDm s0 CB) (KI G most c w1 s0 CB n0) := by
  intro pre A C row h hg hr
  obtain ⟨⟨v, hv, ho⟩, hl, hc, hm⟩ := h
  have hne : ∀ k, k < s0 + 8 → row ≠ some k := fun k hk e => by have := (hr k e).1; omega
  have hcell : C.cell? ⟨s0 + 3, 0, none⟩ = A.cell? ⟨s0 + 3, 0, none⟩ := World.cell?_of_block (w := A) (hg.block _ hv.lt (fun e => hne (s0 + 3) (by omega) e.symm))
  refine ⟨⟨⟨v, (hg.block _ hv.lt (fun e => hne (s0 + 3) (by omega) e.symm)).trans hv, ho.kept hg ?_⟩, (hg.block _ hl.lt (fun e => hne (s0 + 4) (by omega) e.symm)).trans hl, hc.grown hg (hne CB (by omega)), hm.grown hg (fun k e hk => absurd e (hne k (by omega)))⟩, fun k hk => ?_⟩
  · rcases ho.2 with ⟨h1, _⟩ | ⟨g, cap, cur, hv2, _⟩
    · exact .inl (by rw [h1]; rfl)
    · refine .inr fun e => ?_
      rw [hv2] at e
      have := (hr g (by rw [← e]; rfl)).2
      refine this (.inr (.inr (.inr ⟨(keepR G most c pre).1.length, cap, ?_⟩)))
      rw [hv.cell 0, hv2]; rfl
  · rcases hk with h | h | h | ⟨n, cap, h⟩
    · exact .inl h
    · exact .inr (.inl h)
    · exact .inr (.inr (.inl h))
    · exact .inr (.inr (.inr ⟨n, cap, by rw [← hcell]; exact h⟩))
theorem KI.dm {G : Geo} {most : Nat} {c : Nat → Bool} {w1 : World} {s0 CB n0 : Nat} (hCB : CB < s0) {pre : List Ptr} {A : World} (h : KI G most c w1 s0 CB n0 pre A) {k : Nat} (hk : KDm s0 CB A k) :
    k < A.heap.size ∧ ¬ (k = s0 + 6 ∨ k = s0 + 7) ∧ (k < s0 + 8 ∨ ∃ o : Obj, A.heap[k]? = some o ∧ o.isCells = true) := by
  obtain ⟨⟨v, hv, ho⟩, hl, hc, hm⟩ := h
  have h1 := hl.lt
  rcases hk with rfl | rfl | rfl | ⟨n, cap, hcell⟩
  · exact ⟨by omega, by omega, .inl (by omega)⟩
  · exact ⟨by omega, by omega, .inl (by omega)⟩
  · exact ⟨by omega, by omega, .inl (by omega)⟩
  · rw [hv.cell 0] at hcell
    cases hcell
    rcases ho.2 with ⟨h1, _⟩ | ⟨g, cap, cur, hv2, hb, hg, _⟩
    · cases h1
    · cases hv2
      exact ⟨(Array.getElem?_eq_some_iff.1 hg).1, by omega, .inr ⟨_, hg, rfl⟩⟩

theorem KI.same {G : Geo} {most : Nat} {c : Nat → Bool} {w1 : World} {s0 CB n0 : Nat} {pre : List Ptr} {x : Ptr} {W W' : World} (h : KI G most c w1 s0 CB n0 pre W) (hm : Mods (fun _ => False) W W') (e : keepOk G most (keepR G most c pre).2 x = false) : KI G most c w1 s0 CB n0 (pre ++ [x]) W' := by
  have e2 : keepR G most c (pre ++ [x]) = keepR G most c pre := by rw [keepR_snoc]; unfold keepS; rw [e]; rfl
  obtain ⟨⟨v, hv, ho⟩, hl, hc, hmm⟩ := h
  exact ⟨⟨v, (hm.block _ hv.lt (fun f => f)).trans hv, by rw [e2]; exact own_mods ho hm (fun _ _ f => f)⟩, by rw [e2]; exact (hm.block _ hl.lt (fun f => f)).trans hl, by rw [e2]; exact (hc.mods hm (fun f => f)).mono (by simp), hmm.trans hm (fun _ _ f => f.elim)⟩
theorem KDm.same {s0 CB : Nat} {W W' : World} (hm : Mods (fun _ => False) W W') (h3 : s0 + 3 < W.heap.size) (k : Nat) (h : KDm s0 CB W' k) : KDm s0 CB W k := by
  have hcell : W'.cell? ⟨s0 + 3, 0, none⟩ = W.cell? ⟨s0 + 3, 0, none⟩ := hm.cell h3 (fun f => f)
  rcases h with h | h | h | ⟨n, cap, h⟩
  · exact .inl h
  · exact .inr (.inl h)
  · exact .inr (.inr (.inl h))
  · exact .inr (.inr (.inr ⟨n, cap, by rw [← hcell]; exact h⟩))
theorem claim_look {w : World} {CB n : Nat} {c : Nat → Bool} (h : Claims w CB n c) {y : Nat} (hy : natOk y) : (Instr.lookup 65 (.map (some CB)) (.int .i64 (y : Int)) false).run Tryz.prog w = .ok (.bool (c y)) w := by
  obtain ⟨D, h1, h2, h3⟩ := h
  obtain ⟨v, ps, hrun, hv⟩ := h1.lookup intKeyed Tryz.underlying65 (zeroBool w) boolRz (nat_key hy)
  rw [(h2 y hy).2] at hv
  rw [hrun, bool_elem _ _ _ hv]
theorem claim_store {w : World} {CB n : Nat} {c : Nat → Bool} (h : Claims w CB n c) (hn : n < 1000000000000) {y : Nat} (hy : natOk y) : ∃ w', (Instr.mapUpdate 65 (.map (some CB)) (.int .i64 (y : Int)) (.bool true)).run Tryz.prog w = .ok () w' ∧ Claims w' CB (n + 1) (fun x => c x || decide (x = y)) ∧ Mods (fun k => k = CB) w w' ∧ w'.heap.size = w.heap.size := by
  obtain ⟨D, h1, h2, h3⟩ := h
  obtain ⟨w', hrun, r1, r2⟩ := h1.store intKeyed Tryz.underlying65 (by unfold maxLen; omega) (nat_key hy) boolRt
  refine ⟨w', hrun, ?_, mods_turned r2, size_turned r2⟩
  have := MapG.put_D natWay hy h1.isMap h2 h3 r1
  have e : (fun z => if z = y then some (DataW.lit (.bool true)) else boolD (c z)) = (fun x => boolD (c x || decide (x = y))) := by
    funext z
    by_cases hz : z = y
    · simp [hz, boolD]
    · simp [hz]
  rw [e] at this
  exact this

set_option maxRecDepth 100000 in
set_option maxHeartbeats 4000000 in
theorem keep_c (G : Geo) (hG : G.Ok) (X b o N cap CB n0 : Nat) (I : InoN) (c : Nat → Bool) (w : World) (hn0 : n0 ≤ 1000000000) (hsz : I 2 < 9000000000) (hp : ∀ k, I k < 4294967296) (hs1 : G.dOk (I 11) = false) (hs2 : G.dOk (I 12) = false)
    (x0 : w.cell? ⟨X, 0, none⟩ = some (.int .i64 G.gr)) (x1 : w.cell? ⟨X, 1, none⟩ = some (.int .i64 G.ino)) (x2 : w.cell? ⟨X, 2, none⟩ = some (.int .i64 G.da)) (x3 : w.cell? ⟨X, 3, none⟩ = some (.slice (some ⟨b, o, none⟩) N cap)) (x5 : w.cell? ⟨X, 5, none⟩ = some (.map (some CB)))
    (hc : Claims w CB n0 c) :
    Calls Tryz.prog 72 #[.pointer (some ⟨X, 0, none⟩), inoV I] w fun e w' => ∃ v, e = .returned v ∧ w'.ownsRow w.heap.size 114 4 v (keepR G (countN (I 2)) c (ptrsI I)).1.length ((keepR G (countN (I 2)) c (ptrsI I)).1.flatMap ptrV) ∧
      Claims w' CB (n0 + 10) (keepR G (countN (I 2)) c (ptrsI I)).2 ∧ Mods (fun k => k = CB) w w' := by
  obtain ⟨j0, hi, hz0, hz1, hz2⟩ := info_parts infoP
  obtain ⟨s0, hs0⟩ : ∃ s0, s0 = w.heap.size := ⟨_, rfl⟩
  have hX := lt_of_cell x0
  have hCB := hc.lt
  refine (callsIn_wide (n := 9)).1 ?_
  refine callsIn_of_wp_marks Tryz.func72 rfl trivial ?_ rfl
  unfold inoV
  simp only [Tryz.ntmps72, List.size_toArray, List.length_cons, List.length_nil, Nat.reduceAdd, Nat.reduceSub, Array.replicate_succ, Array.replicate_zero, List.push_toArray, List.append_toArray, List.nil_append, List.cons_append]
  gi_wp2_with (refine ⟨trivial, ?_⟩; gi_at_call 53; refine (callsIn_wide.2 (count_c (I 2) hsz _)).mono ?_; rintro e w' ⟨rfl, rfl⟩)
  obtain ⟨w1, hw1⟩ : ∃ W, W = ((((w.alloc (.cells #[.pointer (some ⟨X, 0, none⟩)] 63)).alloc (.cells #[.int .i64 (I 0 : Nat), .int .i64 (I 1 : Nat), .int .i64 (I 2 : Nat), .int .i64 (I 3 : Nat), .int .i64 (I 4 : Nat), .int .i64 (I 5 : Nat), .int .i64 (I 6 : Nat), .int .i64 (I 7 : Nat), .int .i64 (I 8 : Nat), .int .i64 (I 9 : Nat), .int .i64 (I 10 : Nat), .int .i64 (I 11 : Nat), .int .i64 (I 12 : Nat)] 40)).alloc (.cells #[.int .i64 (countN (I 2) : Nat)] 3)).alloc (.cells #[.slice none 0 0] 88)).alloc (.cells #[.int .i64 0, .int .i64 0, .int .i64 0, .int .i64 0] 114) := ⟨_, rfl⟩
  have hB1 : Below w.heap.size w w1 := by rw [hw1]; exact ((((((Below.refl _ w).alloc (Nat.le_refl _) _).alloc (by simp) _).alloc (by simp; omega) _).alloc (by simp; omega) _).alloc (by simp; omega) _)
  have z1 : w1.heap.size = s0 + 5 := by rw [hw1, hs0]; simp
  have k0 : Blk 63 w1 s0 [.pointer (some ⟨X, 0, none⟩)] := by rw [hw1, hs0]; exact ((((Blk.newL _).alloc _).alloc _).alloc _).alloc _
  have k1 : Blk 40 w1 (s0 + 1) (inoL I) := by rw [hw1, hs0]; exact (((Blk.snd _ (inoL I)).alloc _).alloc _).alloc _
  have k2 : Blk 3 w1 (s0 + 2) [.int .i64 (countN (I 2) : Nat)] := by rw [hw1, hs0]; exact ((Blk.newAt _ (by simp)).alloc _).alloc _
  have k3 : Blk 88 w1 (s0 + 3) [.slice none 0 0] := by rw [hw1, hs0]; exact (Blk.newAt _ (by simp)).alloc _
  have k4 : Blk 114 w1 (s0 + 4) (ptrV ⟨0, 0, 0, 0⟩) := by rw [hw1, hs0]; exact Blk.newAt (ptrV ⟨0, 0, 0, 0⟩) (by simp)
  rw [← hw1]
  simp only [← hs0, Nat.add_assoc, Nat.reduceAdd]
  have k0c := k0.cell 0
  simp only [List.getElem?_cons_zero] at k0c
  obtain ⟨hcB, hfB⟩ := bcell hB1
  have l0 := k0.lt; have l1 := k1.lt
  have X1 : X < w1.heap.size := by omega
  have x0' := (hcB X 0 hX).trans x0; have x1' := (hcB X 1 hX).trans x1; have x2' := (hcB X 2 hX).trans x2; have x3' := (hcB X 3 hX).trans x3
  obtain ⟨y0, y1, y2, y3, y4, y5, y6, y7, y8, y9, y10, y11, y12⟩ := cells13 k1
  have PC := fun W => pointers_c G.gr G.ino G.da b o N cap I (.func (.func 97) #[] #[.pointer (some ⟨s0 + 4, 0, none⟩)]) _ _ _ rfl W
  unfold inoV at PC
  clear hw1
  rw [← hs0] at hX hCB hB1
  have HS0 := Lib.hid hs0
  clear hs0
  refine wpIn_wide.2 ?_
  go_region_held3 (fun w' => w'.cell? ⟨X, 0, none⟩ = some (.int .i64 G.gr) ∧ w'.cell? ⟨X, 1, none⟩ = some (.int .i64 G.ino) ∧ w'.cell? ⟨X, 2, none⟩ = some (.int .i64 G.da) ∧ w'.cell? ⟨X, 3, none⟩ = some (.slice (some ⟨b, o, none⟩) N cap) ∧ w'.cell? ⟨s0, 0, none⟩ = some (.pointer (some ⟨X, 0, none⟩)) ∧ w'.cell? ⟨s0 + 1, 0, none⟩ = some (.int .i64 (I 0 : Nat)) ∧ w'.cell? ⟨s0 + 1, 1, none⟩ = some (.int .i64 (I 1 : Nat)) ∧ w'.cell? ⟨s0 + 1, 2, none⟩ = some (.int .i64 (I 2 : Nat)) ∧ w'.cell? ⟨s0 + 1, 3, none⟩ = some (.int .i64 (I 3 : Nat)) ∧ w'.cell? ⟨s0 + 1, 4, none⟩ = some (.int .i64 (I 4 : Nat)) ∧ w'.cell? ⟨s0 + 1, 5, none⟩ = some (.int .i64 (I 5 : Nat)) ∧ w'.cell? ⟨s0 + 1, 6, none⟩ = some (.int .i64 (I 6 : Nat)) ∧ w'.cell? ⟨s0 + 1, 7, none⟩ = some (.int .i64 (I 7 : Nat)) ∧ w'.cell? ⟨s0 + 1, 8, none⟩ = some (.int .i64 (I 8 : Nat)) ∧ w'.cell? ⟨s0 + 1, 9, none⟩ = some (.int .i64 (I 9 : Nat)) ∧ w'.cell? ⟨s0 + 1, 10, none⟩ = some (.int .i64 (I 10 : Nat)) ∧ w'.cell? ⟨s0 + 1, 11, none⟩ = some (.int .i64 (I 11 : Nat)) ∧ w'.cell? ⟨s0 + 1, 12, none⟩ = some (.int .i64 (I 12 : Nat)))
    (first
      | exact ⟨x0', x1', x2', x3', k0c, y0, y1, y2, y3, y4, y5, y6, y7, y8, y9, y10, y11, y12⟩
      | exact ⟨(hc2 _ _ X1).trans x0', (hc2 _ _ X1).trans x1', (hc2 _ _ X1).trans x2', (hc2 _ _ X1).trans x3', (hc2 _ _ l0).trans k0c, (hc2 _ _ l1).trans y0, (hc2 _ _ l1).trans y1, (hc2 _ _ l1).trans y2, (hc2 _ _ l1).trans y3, (hc2 _ _ l1).trans y4, (hc2 _ _ l1).trans y5, (hc2 _ _ l1).trans y6, (hc2 _ _ l1).trans y7, (hc2 _ _ l1).trans y8, (hc2 _ _ l1).trans y9, (hc2 _ _ l1).trans y10, (hc2 _ _ l1).trans y11, (hc2 _ _ l1).trans y12⟩)
    (first
      | (go_at_call 69; refine (PC _).mono ?_; rintro e w2 ⟨rfl, kI, kF, hB2, z2⟩; obtain ⟨hc2, hf2⟩ := bcell hB2))
  have z1' : w1.drew.heap.size = s0 + 5 := z1
  rw [z1'] at kI kF z2 hB2
  simp only [Nat.add_assoc, Nat.reduceAdd] at kI kF z2
  simp only [z1', Nat.add_assoc, Nat.reduceAdd]
  have m0 := hB2.block s0 (by omega) |>.trans k0
  have m2 := hB2.block (s0 + 2) (by omega) |>.trans k2
  have m3 := hB2.block (s0 + 3) (by omega) |>.trans k3
  have m4 := hB2.block (s0 + 4) (by omega) |>.trans k4
  have hB12 : Below s0 w w2 := by
    have : Below s0 w1 w2 := ⟨hB2.os, hB2.tape, hB2.output, by omega, fun k hk => hB2.block k (by omega)⟩
    exact hB1.trans this
  have hcW : Claims w2 CB n0 c := hc.below hB12 hCB
  have xc0 := (hB12.cell (p := ⟨X, 0, none⟩) hX).trans x0
  have xc1 := (hB12.cell (p := ⟨X, 1, none⟩) hX).trans x1
  have xc2 := (hB12.cell (p := ⟨X, 2, none⟩) hX).trans x2
  have xc3 := (hB12.cell (p := ⟨X, 3, none⟩) hX).trans x3
  have xc5 := (hB12.cell (p := ⟨X, 5, none⟩) hX).trans x5
  gi_wp2
  have i0 : KI G (countN (I 2)) c w2 s0 CB n0 [] w2 := ⟨⟨_, m3, World.ownsRow_nil _ _ _ _⟩, m4, hcW, Mods.refl _ _⟩
  refine rangeFunc_dm (F := Fence.wide) rfl (by decide) (gf := 89) (lb := #[.pointer (some ⟨s0 + 6, 0, none⟩), .pointer (some ⟨s0 + 7, 0, none⟩), .pointer (some ⟨s0 + 5, 0, none⟩)]) rfl trivial (enters_of Tryz.func89 (by kernel_rfl) rfl)
    (pointers_seq 8 (by omega) G I hs1 hs2 hp (s0 + 5) (s0 + 6) (s0 + 7) (s0 + 4) w2 kI kF) (Below.refl _ _) (fun _ => rfl)
    (KI G (countN (I 2)) c w2 s0 CB n0) (KDm s0 CB) (by rw [z2]; exact KI.bears G _ c w2 s0 CB n0 z2 hCB) (fun pre A k hA hk => by rw [z2]; exact KI.dm hCB hA hk) ?hL i0
    (fun x a' W => ∃ B, a' = { tmps := #[.pointer (some ⟨X, 0, none⟩), .agg #[.int .i64 (I 0 : Nat), .int .i64 (I 1 : Nat), .int .i64 (I 2 : Nat), .int .i64 (I 3 : Nat), .int .i64 (I 4 : Nat), .int .i64 (I 5 : Nat), .int .i64 (I 6 : Nat), .int .i64 (I 7 : Nat), .int .i64 (I 8 : Nat), .int .i64 (I 9 : Nat), .int .i64 (I 10 : Nat), .int .i64 (I 11 : Nat), .int .i64 (I 12 : Nat)], .pointer (some ⟨s0, 0, none⟩), .pointer (some ⟨s0 + 1, 0, none⟩), .slice none 0 0, .pointer (some ⟨s0 + 2, 0, none⟩), .pointer (some ⟨s0 + 3, 0, none⟩), .pointer (some ⟨s0 + 4, 0, none⟩), .pointer (some ⟨B, 0, none⟩), .pointer (some ⟨s0 + 1, 2, none⟩), .int .i64 (I 2 : Nat), .int .i64 (countN (I 2) : Nat), .agg #[.int .i64 0, .int .i64 0, .int .i64 0, .int .i64 0], .pointer (some ⟨X, 0, none⟩), .pointer (some ⟨X, 0, none⟩), .pointer (some ⟨X, 0, none⟩), .agg #[.int .i64 G.gr, .int .i64 G.ino, .int .i64 G.da, .slice (some ⟨b, o, none⟩) N cap], .agg #[.int .i64 (I 0 : Nat), .int .i64 (I 1 : Nat), .int .i64 (I 2 : Nat), .int .i64 (I 3 : Nat), .int .i64 (I 4 : Nat), .int .i64 (I 5 : Nat), .int .i64 (I 6 : Nat), .int .i64 (I 7 : Nat), .int .i64 (I 8 : Nat), .int .i64 (I 9 : Nat), .int .i64 (I 10 : Nat), .int .i64 (I 11 : Nat), .int .i64 (I 12 : Nat)], .func (.func 97) #[] #[.pointer (some ⟨s0 + 4, 0, none⟩)], .func (.func 89) #[] #[.pointer (some ⟨s0 + 6, 0, none⟩), .pointer (some ⟨s0 + 7, 0, none⟩), .pointer (some ⟨s0 + 5, 0, none⟩)], .agg #[.int .i64 x.lv, .int .i64 (x.n : Nat), .int .i64 (x.first : Nat), .int .i64 (x.tgt : Nat)], undef, undef, undef, undef, undef, undef, undef, undef, undef, undef, undef, undef, undef, undef, undef, undef, undef, undef, undef, undef, undef, undef, undef, undef, undef, undef, undef, undef, undef, undef, undef, undef, undef, undef, undef], defers := [] } ∧ Blk 114 W B (ptrV x) ∧ ¬ KDm s0 CB W B ∧ s0 + 8 ≤ B ∧ s0 + 3 < W.heap.size) ?hAx ?assign ?body ?done
  case hL =>
    intro pre W hI hgood
    have hlast := hI.last
    have hsub := keepR_sub G (countN (I 2)) c pre ([], c) (by simp)
    have h0 : (lastP (keepR G (countN (I 2)) c pre).1).lv = 0 := by
      unfold lastP
      cases hg : (keepR G (countN (I 2)) c pre).1.getLast? with
      | none => rfl
      | some p =>
        have hm := List.mem_of_getLast? hg
        obtain ⟨h1, h2⟩ := hsub p hm
        rcases h1 with h1 | h1
        · simp at h1
        · rcases hgood p h1 with h3 | h3
          · exact h3
          · rw [h2] at h3; cases h3
    refine ⟨((lastP (keepR G (countN (I 2)) c pre).1).n : Int), ((lastP (keepR G (countN (I 2)) c pre).1).first : Int), ((lastP (keepR G (countN (I 2)) c pre).1).tgt : Int), ?_⟩
    unfold ptrV at hlast
    rw [h0] at hlast
    exact hlast
  case hAx =>
    intro x a' u W W' row h hg hr
    obtain ⟨B, h1, h2, h3, h4, h5⟩ := h
    have hne : row ≠ some (s0 + 3) := fun e => by have := (hr _ e).1; omega
    have hneB : row ≠ some B := fun e => by
      obtain ⟨_, o, ho, hc⟩ := hr _ e
      rw [show W.heap[B]? = _ from h2] at ho
      cases ho; cases hc
    refine ⟨B, h1, (hg.block _ h2.lt (fun e => hneB e.symm)).trans h2, fun hk => h3 ?_, h4, Nat.lt_of_lt_of_le h5 hg.size⟩
    have hcell : W'.cell? ⟨s0 + 3, 0, none⟩ = W.cell? ⟨s0 + 3, 0, none⟩ := World.cell?_of_block (w := W) (hg.block _ h5 (fun e => hne e.symm))
    rcases hk with h | h | h | ⟨n, cap, h⟩
    · exact .inl h
    · exact .inr (.inl h)
    · exact .inr (.inr (.inl h))
    · exact .inr (.inr (.inr ⟨n, cap, by rw [← hcell]; exact h⟩))
  case assign =>
    intro l pre x W K hI hK
    unfold ptrE ptrV
    gi_wp2
    have hdm : ∀ k, KDm s0 CB (W.alloc (.cells (ptrV x).toArray 114)) k → KDm s0 CB W k := fun k hk => (KI.bears G _ c w2 s0 CB n0 z2 hCB pre W _ none hI (World.grownBy_alloc W _ none) (fun r e => by cases e)).2 k hk
    have hdl := fun k hk => (KI.dm hCB hI (k := k) hk).1
    have hs2 := hI.last.lt
    have hsz := hI.mods.size
    refine hK _ _ (World.grownBy_alloc W _ none) ⟨W.heap.size, rfl, Blk.newL (ptrV x), fun hk => ?_, by omega, by simp; omega⟩
    exact absurd (hdl _ (hdm _ hk)) (by omega)
  case body =>
    rintro l pre x a' W hI ⟨B, rfl, hB, hnB, hlB, hsW⟩ hgx hlen
    obtain ⟨⟨v, hv, ho⟩, hl, hcl, hm⟩ := id hI
    have hXC : X ≠ CB := fun e => by
      subst e
      obtain ⟨D, ⟨es, clock, hb, _⟩, _⟩ := hc
      simp [World.cell?, hb] at x0
    have hcW : ∀ k, k < s0 → k ≠ CB → ∀ q, W.cell? ⟨k, q, none⟩ = w2.cell? ⟨k, q, none⟩ := fun k hk hn q => World.cell?_of_block (w := w2) (hm.block k (by omega) (by omega))
    have X0 := (hcW X hX hXC 0).trans xc0; have X1 := (hcW X hX hXC 1).trans xc1; have X2 := (hcW X hX hXC 2).trans xc2; have X3 := (hcW X hX hXC 3).trans xc3; have X5 := (hcW X hX hXC 5).trans xc5
    have S0 : Blk 63 W s0 [.pointer (some ⟨X, 0, none⟩)] := (hm.block s0 (by omega) (by omega)).trans m0
    have S2 : Blk 3 W (s0 + 2) [.int .i64 (countN (I 2) : Nat)] := (hm.block (s0 + 2) (by omega) (by omega)).trans m2
    have S0c := S0.cell 0; have S2c := S2.cell 0; have B0 := hB.cell 0; have B1 := hB.cell 1; have B2 := hB.cell 2; have B3 := hB.cell 3
    unfold ptrV at B0 B1 B2 B3
    simp only [List.getElem?_cons_zero, List.getElem?_cons_succ] at S0c S2c B0 B1 B2 B3
    have LX : X < W.heap.size := by omega
    have LB := hB.lt; have LS := S0.lt; have LS2 := S2.lt
    have hkr := keepR_snoc G (countN (I 2)) c pre x
    obtain ⟨K, hKr⟩ : ∃ K, K = keepR G (countN (I 2)) c pre := ⟨_, rfl⟩
    rw [← hKr] at hkr hcl ho hl
    have hno : ∀ K Q', (∀ a w, ¬ Q' Exit.outgrown a w) → ¬ LetsOut (Exit.then K Q') := fun K Q' h ⟨a, w, h2⟩ => h a w h2
    have htg : natOk x.tgt := by unfold natOk; omega
    have HL : ∀ W', Below W.heap.size W W' → (Instr.lookup 65 (.map (some CB)) (.int .i64 (x.tgt : Nat)) false).run Tryz.prog W' = .ok (.bool (K.2 x.tgt)) W' := fun W' h => claim_look (hcl.below h hcl.lt) htg
    by_cases h1 : x.first < countN (I 2)
    · have hd : (decide ((x.first : Int) < (countN (I 2) : Nat))) = true := by simp; omega
      cases h2 : G.dOk x.tgt with
      | false =>
        gi_wp2
        refine region_round (fun w' => w'.cell? ⟨s0, 0, none⟩ = some (.pointer (some ⟨X, 0, none⟩)) ∧ w'.cell? ⟨s0 + 2, 0, none⟩ = some (.int .i64 (countN (I 2) : Nat)) ∧ w'.cell? ⟨B, 2, none⟩ = some (.int .i64 (x.first : Nat)) ∧ w'.cell? ⟨B, 3, none⟩ = some (.int .i64 (x.tgt : Nat)) ∧ w'.cell? ⟨X, 0, none⟩ = some (.int .i64 G.gr) ∧ w'.cell? ⟨X, 1, none⟩ = some (.int .i64 G.ino) ∧ w'.cell? ⟨X, 2, none⟩ = some (.int .i64 G.da) ∧ w'.cell? ⟨X, 3, none⟩ = some (.slice (some ⟨b, o, none⟩) N cap) ∧ w'.cell? ⟨X, 5, none⟩ = some (.map (some CB)) ∧ (Instr.lookup 65 (.map (some CB)) (.int .i64 (x.tgt : Nat)) false).run Tryz.prog w' = .ok (.bool (K.2 x.tgt)) w' ∧ Below W.heap.size W w') (by kernel_rfl) (by kernel_rfl) (hno _ _ (fun a w h => by cases h.1)) ⟨S0c, S2c, B2, B3, X0, X1, X2, X3, X5, HL _ (Below.refl _ _).drew, (Below.refl _ _).drew⟩ (fun hHeld => ?_)
        refine tkA (i := 0) (oi := ⟨_, _, _, _, _, _⟩) ?_
        simp only [putA, List.set]
        refine tkA (i := 1) (oi := ⟨_, _, _, _, _, _⟩) ?_
        simp only [putA, List.set]
        refine tkA (i := 2) (oi := ⟨_, _, _, _, _, _⟩) ?_
        simp only [putA, List.set]
        refine tkA (i := 3) (oi := ⟨_, _, _, _, _, _⟩) ?_
        simp only [putA, List.set]
        refine tkA (i := 4) (oi := ⟨_, _, _, _, _, _⟩) ?_
        simp only [putA, List.set]
        refine tkA (i := 5) (oi := ⟨_, _, _, _, _, _⟩) ?_
        simp only [putA, List.set]
        refine tkA (i := 6) (oi := ⟨_, _, _, _, _, _⟩) ?_
        simp only [putA, List.set]
        refine tkA (i := 7) (oi := ⟨_, _, _, _, _, _⟩) ?_
        simp only [putA, List.set]
        refine tkA (i := 8) (oi := ⟨_, _, _, _, _, _⟩) ?_
        simp only [putA, List.set]
        refine tkA (i := 9) (oi := ⟨_, _, _, _, _, _⟩) ?_
        simp only [putA, List.set]
        refine tkA (i := 10) (oi := ⟨_, _, _, _, _, _⟩) ?_
        simp only [putA, List.set]
        refine wpAnyH_ready (rs := [11]) (by kernel_rfl) (by simp) ?_
        refine AllReadyH.cons rfl (fun K hK => ?_) AllReadyH.nil
        go_simp
        go_wp2_with (go_at_call 49; refine (idata_c G hG _ x.tgt _).mono ?_; rintro e w3 ⟨rfl, hb3⟩; obtain ⟨hc3, hf3⟩ := bcell hb3; have hb3' : Below W.heap.size W w3 := ⟨hb3.os, hb3.tape, hb3.output, hb3.size, hb3.block⟩)
        refine hK.out _ _ ?_ (fun hHeld => ?_)
        · exact ⟨(hc3 _ _ LS).trans S0c, (hc3 _ _ LS2).trans S2c, (hc3 _ _ LB).trans B2, (hc3 _ _ LB).trans B3, (hc3 _ _ LX).trans X0, (hc3 _ _ LX).trans X1, (hc3 _ _ LX).trans X2, (hc3 _ _ LX).trans X3, (hc3 _ _ LX).trans X5, HL _ hb3', hb3'⟩
        clear hK K
        refine tkA (i := 12) (oi := ⟨_, _, _, _, _, _⟩) ?_
        simp only [putA, List.set]
        refine tkA (i := 13) (oi := ⟨_, _, _, _, _, _⟩) ?_
        simp only [putA, List.set]
        refine wpAnyH_take (i := 14) (oi := ⟨_, _, _, _, _, _⟩) (v := undef) rfl (by kernel_rfl) (by kernel_rfl) (by kernel_rfl) (fun _ _ _ h => h) (Or.inr ⟨by kernel_rfl, rfl⟩) (by assumption) ?_
        simp only [Act.put, List.setIfInBounds_toArray, List.set_cons_zero, List.set_cons_succ]
        refine wpAnyH_take (i := 15) (oi := ⟨_, _, _, _, _, _⟩) (v := undef) rfl (by kernel_rfl) (by kernel_rfl) (by kernel_rfl) (fun _ _ _ h => h) (Or.inr ⟨by kernel_rfl, rfl⟩) (by assumption) ?_
        simp only [Act.put, List.setIfInBounds_toArray, List.set_cons_zero, List.set_cons_succ]
        refine wpAnyH_take (i := 16) (oi := ⟨_, _, _, _, _, _⟩) (v := undef) rfl (by kernel_rfl) (by kernel_rfl) (by kernel_rfl) (fun _ _ _ h => h) (Or.inr ⟨by kernel_rfl, rfl⟩) (by assumption) ?_
        simp only [Act.put, List.setIfInBounds_toArray, List.set_cons_zero, List.set_cons_succ]
        refine wpAnyH_take (i := 17) (oi := ⟨_, _, _, _, _, _⟩) (v := undef) rfl (by kernel_rfl) (by kernel_rfl) (by kernel_rfl) (fun _ _ _ h => h) (Or.inr ⟨by kernel_rfl, rfl⟩) (by assumption) ?_
        simp only [Act.put, List.setIfInBounds_toArray, List.set_cons_zero, List.set_cons_succ]
        refine wpAnyH_take (i := 18) (oi := ⟨_, _, _, _, _, _⟩) (v := undef) rfl (by kernel_rfl) (by kernel_rfl) (by kernel_rfl) (fun _ _ _ h => h) (Or.inr ⟨by kernel_rfl, rfl⟩) (by assumption) ?_
        simp only [Act.put, List.setIfInBounds_toArray, List.set_cons_zero, List.set_cons_succ]
        refine wpAnyH_take (i := 19) (oi := ⟨_, _, _, _, _, _⟩) (v := undef) rfl (by kernel_rfl) (by kernel_rfl) (by kernel_rfl) (fun _ _ _ h => h) (Or.inr ⟨by kernel_rfl, rfl⟩) (by assumption) ?_
        simp only [Act.put, List.setIfInBounds_toArray, List.set_cons_zero, List.set_cons_succ]
        refine wpAnyH_take (i := 20) (oi := ⟨_, _, _, _, _, _⟩) (v := undef) rfl (by kernel_rfl) (by kernel_rfl) (by kernel_rfl) (fun _ _ _ h => h) (Or.inr ⟨by kernel_rfl, rfl⟩) (by assumption) ?_
        simp only [Act.put, List.setIfInBounds_toArray, List.set_cons_zero, List.set_cons_succ]
        refine wpAnyH_take (i := 21) (oi := ⟨_, _, _, _, _, _⟩) (v := undef) rfl (by kernel_rfl) (by kernel_rfl) (by kernel_rfl) (fun _ _ _ h => h) (Or.inr ⟨by kernel_rfl, rfl⟩) (by assumption) ?_
        simp only [Act.put, List.setIfInBounds_toArray, List.set_cons_zero, List.set_cons_succ]
        refine tkA (i := 22) (oi := ⟨_, _, _, _, _, _⟩) ?_
        simp only [putA, List.set]
        refine wpAnyH_done (by kernel_rfl) ?_ _
        gi_wp2
        have hm3 : Mods (fun _ => False) W w3 := (Mods.of_below hb3').mono (fun k hk h => by omega)
        refine ⟨hm3.mono (fun _ _ f => f.elim), fun k _ h => KDm.same hm3 (by omega) k h, hI.same hm3 (by simp [keepOk, h2])⟩
      | true =>
        cases h3 : K.2 x.tgt with
        | true =>
          rw [h3] at HL
          gi_wp2
          refine region_round (fun w' => w'.cell? ⟨s0, 0, none⟩ = some (.pointer (some ⟨X, 0, none⟩)) ∧ w'.cell? ⟨s0 + 2, 0, none⟩ = some (.int .i64 (countN (I 2) : Nat)) ∧ w'.cell? ⟨B, 2, none⟩ = some (.int .i64 (x.first : Nat)) ∧ w'.cell? ⟨B, 3, none⟩ = some (.int .i64 (x.tgt : Nat)) ∧ w'.cell? ⟨X, 0, none⟩ = some (.int .i64 G.gr) ∧ w'.cell? ⟨X, 1, none⟩ = some (.int .i64 G.ino) ∧ w'.cell? ⟨X, 2, none⟩ = some (.int .i64 G.da) ∧ w'.cell? ⟨X, 3, none⟩ = some (.slice (some ⟨b, o, none⟩) N cap) ∧ w'.cell? ⟨X, 5, none⟩ = some (.map (some CB)) ∧ (Instr.lookup 65 (.map (some CB)) (.int .i64 (x.tgt : Nat)) false).run Tryz.prog w' = .ok (.bool true) w' ∧ Below W.heap.size W w') (by kernel_rfl) (by kernel_rfl) (hno _ _ (fun a w h => by cases h.1)) ⟨S0c, S2c, B2, B3, X0, X1, X2, X3, X5, HL _ (Below.refl _ _).drew, (Below.refl _ _).drew⟩ (fun hHeld => ?_)
          refine tkA (i := 0) (oi := ⟨_, _, _, _, _, _⟩) ?_
          simp only [putA, List.set]
          refine tkA (i := 1) (oi := ⟨_, _, _, _, _, _⟩) ?_
          simp only [putA, List.set]
          refine tkA (i := 2) (oi := ⟨_, _, _, _, _, _⟩) ?_
          simp only [putA, List.set]
          refine tkA (i := 3) (oi := ⟨_, _, _, _, _, _⟩) ?_
          simp only [putA, List.set]
          refine tkA (i := 4) (oi := ⟨_, _, _, _, _, _⟩) ?_
          simp only [putA, List.set]
          refine tkA (i := 5) (oi := ⟨_, _, _, _, _, _⟩) ?_
          simp only [putA, List.set]
          refine tkA (i := 6) (oi := ⟨_, _, _, _, _, _⟩) ?_
          simp only [putA, List.set]
          refine tkA (i := 7) (oi := ⟨_, _, _, _, _, _⟩) ?_
          simp only [putA, List.set]
          refine tkA (i := 8) (oi := ⟨_, _, _, _, _, _⟩) ?_
          simp only [putA, List.set]
          refine tkA (i := 9) (oi := ⟨_, _, _, _, _, _⟩) ?_
          simp only [putA, List.set]
          refine tkA (i := 10) (oi := ⟨_, _, _, _, _, _⟩) ?_
          simp only [putA, List.set]
          refine wpAnyH_ready (rs := [11]) (by kernel_rfl) (by simp) ?_
          refine AllReadyH.cons rfl (fun K hK => ?_) AllReadyH.nil
          go_simp
          go_wp2_with (go_at_call 49; refine (idata_c G hG _ x.tgt _).mono ?_; rintro e w3 ⟨rfl, hb3⟩; obtain ⟨hc3, hf3⟩ := bcell hb3; have hb3' : Below W.heap.size W w3 := ⟨hb3.os, hb3.tape, hb3.output, hb3.size, hb3.block⟩)
          refine hK.out _ _ ?_ (fun hHeld => ?_)
          · exact ⟨(hc3 _ _ LS).trans S0c, (hc3 _ _ LS2).trans S2c, (hc3 _ _ LB).trans B2, (hc3 _ _ LB).trans B3, (hc3 _ _ LX).trans X0, (hc3 _ _ LX).trans X1, (hc3 _ _ LX).trans X2, (hc3 _ _ LX).trans X3, (hc3 _ _ LX).trans X5, HL _ hb3', hb3'⟩
          clear hK K
          refine tkA (i := 12) (oi := ⟨_, _, _, _, _, _⟩) ?_
          simp only [putA, List.set]
          refine tkA (i := 13) (oi := ⟨_, _, _, _, _, _⟩) ?_
          simp only [putA, List.set]
          refine tkA (i := 14) (oi := ⟨_, _, _, _, _, _⟩) ?_
          simp only [putA, List.set]
          refine tkA (i := 15) (oi := ⟨_, _, _, _, _, _⟩) ?_
          simp only [putA, List.set]
          refine tkA (i := 16) (oi := ⟨_, _, _, _, _, _⟩) ?_
          simp only [putA, List.set]
          refine tkA (i := 17) (oi := ⟨_, _, _, _, _, _⟩) ?_
          simp only [putA, List.set]
          refine tkA (i := 18) (oi := ⟨_, _, _, _, _, _⟩) ?_
          simp only [putA, List.set]
          refine tkA (i := 19) (oi := ⟨_, _, _, _, _, _⟩) ?_
          simp only [putA, List.set]
          refine tkA (i := 20) (oi := ⟨_, _, _, _, _, _⟩) ?_
          simp only [putA, List.set]
          refine tkA (i := 21) (oi := ⟨_, _, _, _, _, _⟩) ?_
          simp only [putA, List.set]
          refine tkA (i := 22) (oi := ⟨_, _, _, _, _, _⟩) ?_
          simp only [putA, List.set]
          refine wpAnyH_done (by kernel_rfl) ?_ _
          gi_wp2
          have hm3 : Mods (fun _ => False) W w3 := (Mods.of_below hb3').mono (fun k hk h => by omega)
          refine ⟨hm3.mono (fun _ _ f => f.elim), fun k _ h => KDm.same hm3 (by omega) k h, hI.same hm3 (by rw [← hKr]; simp [keepOk, h2, h3])⟩
        | false =>
          rw [h3] at HL
          gi_wp2
          refine region_round (fun w' => w'.cell? ⟨s0, 0, none⟩ = some (.pointer (some ⟨X, 0, none⟩)) ∧ w'.cell? ⟨s0 + 2, 0, none⟩ = some (.int .i64 (countN (I 2) : Nat)) ∧ w'.cell? ⟨B, 2, none⟩ = some (.int .i64 (x.first : Nat)) ∧ w'.cell? ⟨B, 3, none⟩ = some (.int .i64 (x.tgt : Nat)) ∧ w'.cell? ⟨X, 0, none⟩ = some (.int .i64 G.gr) ∧ w'.cell? ⟨X, 1, none⟩ = some (.int .i64 G.ino) ∧ w'.cell? ⟨X, 2, none⟩ = some (.int .i64 G.da) ∧ w'.cell? ⟨X, 3, none⟩ = some (.slice (some ⟨b, o, none⟩) N cap) ∧ w'.cell? ⟨X, 5, none⟩ = some (.map (some CB)) ∧ (Instr.lookup 65 (.map (some CB)) (.int .i64 (x.tgt : Nat)) false).run Tryz.prog w' = .ok (.bool false) w' ∧ Below W.heap.size W w') (by kernel_rfl) (by kernel_rfl) (hno _ _ (fun a w h => by cases h.1)) ⟨S0c, S2c, B2, B3, X0, X1, X2, X3, X5, HL _ (Below.refl _ _).drew, (Below.refl _ _).drew⟩ (fun hHeld => ?_)
          refine tkA (i := 0) (oi := ⟨_, _, _, _, _, _⟩) ?_
          simp only [putA, List.set]
          refine tkA (i := 1) (oi := ⟨_, _, _, _, _, _⟩) ?_
          simp only [putA, List.set]
          refine tkA (i := 2) (oi := ⟨_, _, _, _, _, _⟩) ?_
          simp only [putA, List.set]
          refine tkA (i := 3) (oi := ⟨_, _, _, _, _, _⟩) ?_
          simp only [putA, List.set]
          refine tkA (i := 4) (oi := ⟨_, _, _, _, _, _⟩) ?_
          simp only [putA, List.set]
          refine tkA (i := 5) (oi := ⟨_, _, _, _, _, _⟩) ?_
          simp only [putA, List.set]
          refine tkA (i := 6) (oi := ⟨_, _, _, _, _, _⟩) ?_
          simp only [putA, List.set]
          refine tkA (i := 7) (oi := ⟨_, _, _, _, _, _⟩) ?_
          simp only [putA, List.set]
          refine tkA (i := 8) (oi := ⟨_, _, _, _, _, _⟩) ?_
          simp only [putA, List.set]
          refine tkA (i := 9) (oi := ⟨_, _, _, _, _, _⟩) ?_
          simp only [putA, List.set]
          refine tkA (i := 10) (oi := ⟨_, _, _, _, _, _⟩) ?_
          simp only [putA, List.set]
          refine wpAnyH_ready (rs := [11]) (by kernel_rfl) (by simp) ?_
          refine AllReadyH.cons rfl (fun K hK => ?_) AllReadyH.nil
          go_simp
          go_wp2_with (go_at_call 49; refine (idata_c G hG _ x.tgt _).mono ?_; rintro e w3 ⟨rfl, hb3⟩; obtain ⟨hc3, hf3⟩ := bcell hb3; have hb3' : Below W.heap.size W w3 := ⟨hb3.os, hb3.tape, hb3.output, hb3.size, hb3.block⟩)
          refine hK.out _ _ ?_ (fun hHeld => ?_)
          · exact ⟨(hc3 _ _ LS).trans S0c, (hc3 _ _ LS2).trans S2c, (hc3 _ _ LB).trans B2, (hc3 _ _ LB).trans B3, (hc3 _ _ LX).trans X0, (hc3 _ _ LX).trans X1, (hc3 _ _ LX).trans X2, (hc3 _ _ LX).trans X3, (hc3 _ _ LX).trans X5, HL _ hb3', hb3'⟩
          clear hK K
          refine tkA (i := 12) (oi := ⟨_, _, _, _, _, _⟩) ?_
          simp only [putA, List.set]
          refine tkA (i := 13) (oi := ⟨_, _, _, _, _, _⟩) ?_
          simp only [putA, List.set]
          refine tkA (i := 14) (oi := ⟨_, _, _, _, _, _⟩) ?_
          simp only [putA, List.set]
          refine tkA (i := 15) (oi := ⟨_, _, _, _, _, _⟩) ?_
          simp only [putA, List.set]
          refine tkA (i := 16) (oi := ⟨_, _, _, _, _, _⟩) ?_
          simp only [putA, List.set]
          refine tkA (i := 17) (oi := ⟨_, _, _, _, _, _⟩) ?_
          simp only [putA, List.set]
          refine tkA (i := 18) (oi := ⟨_, _, _, _, _, _⟩) ?_
          simp only [putA, List.set]
          refine tkA (i := 19) (oi := ⟨_, _, _, _, _, _⟩) ?_
          simp only [putA, List.set]
          refine tkA (i := 20) (oi := ⟨_, _, _, _, _, _⟩) ?_
          simp only [putA, List.set]
          refine tkA (i := 21) (oi := ⟨_, _, _, _, _, _⟩) ?_
          simp only [putA, List.set]
          refine tkA (i := 22) (oi := ⟨_, _, _, _, _, _⟩) ?_
          simp only [putA, List.set]
          refine wpAnyH_done (by kernel_rfl) ?_ _
          gi_wp2
          have hs3 := hb3.size
          have hBC : B ≠ CB := by omega
          have hz3 : W.heap.size ≤ w3.heap.size := hb3'.size
          have hc3' : Claims w3.drew CB (n0 + pre.length) K.2 := (hcl.below hb3' hcl.lt).mods ((Mods.refl (fun _ => False) w3).drew) (fun f => f)
          obtain ⟨w4, hst, hc4, hm4, hz4⟩ := claim_store hc3' (by omega) htg
          replace hz4 : w4.heap.size = w3.heap.size := hz4
          have hm4' : Mods (fun k => k = CB) w3 w4 := ⟨hm4.os, hm4.tape, hm4.output, hm4.size, hm4.block⟩
          have A0 := (hc3 _ _ LS).trans S0c; have A5 := (hc3 _ _ LX).trans X5; have A3 := (hc3 _ _ LB).trans B3
          have hc4c : ∀ k q, k < w3.heap.size → k ≠ CB → w4.cell? ⟨k, q, none⟩ = w3.cell? ⟨k, q, none⟩ := fun k q hk hn => hm4.cell hk hn
          refine region_round (fun w' => w'.cell? ⟨s0, 0, none⟩ = some (.pointer (some ⟨X, 0, none⟩)) ∧ w'.cell? ⟨X, 5, none⟩ = some (.map (some CB)) ∧ w'.cell? ⟨B, 3, none⟩ = some (.int .i64 (x.tgt : Nat))) (by kernel_rfl) (by kernel_rfl) (hno _ _ (fun a w h => by cases h.1)) ⟨A0, A5, A3⟩ (fun hHeld => ?_)
          refine tkA (i := 0) (oi := ⟨_, _, _, _, _, _⟩) ?_
          simp only [putA, List.set]
          refine tkA (i := 1) (oi := ⟨_, _, _, _, _, _⟩) ?_
          simp only [putA, List.set]
          refine tkA (i := 2) (oi := ⟨_, _, _, _, _, _⟩) ?_
          simp only [putA, List.set]
          refine tkA (i := 3) (oi := ⟨_, _, _, _, _, _⟩) ?_
          simp only [putA, List.set]
          refine tkA (i := 4) (oi := ⟨_, _, _, _, _, _⟩) ?_
          simp only [putA, List.set]
          refine tkA (i := 5) (oi := ⟨_, _, _, _, _, _⟩) ?_
          simp only [putA, List.set]
          refine wpAnyH_ready (rs := [6]) (by kernel_rfl) (by simp) ?_
          refine AllReadyH.cons rfl (fun K hK => ?_) AllReadyH.nil
          go_simp
          refine hK.out _ _ ?_ (fun hHeld => ?_)
          · exact ⟨(hc4c _ _ (by omega) (by omega)).trans A0, (hc4c _ _ (by omega) hXC).trans A5, (hc4c _ _ (by omega) hBC).trans A3⟩
          clear hK K
          refine wpAnyH_done (by kernel_rfl) ?_ _
          have hv4 : Blk 88 w4 (s0 + 3) [v] := (hm4'.block _ (by have := hv.lt; omega) (by omega)).trans ((hb3'.block _ hv.lt).trans hv)
          have hl4 : Blk 114 w4 (s0 + 4) (ptrV (lastP K.1)) := (hm4'.block _ (by have := hl.lt; omega) (by omega)).trans ((hb3'.block _ hl.lt).trans hl)
          have hB4 : Blk 114 w4 B (ptrV x) := (hm4'.block _ (by omega) (by omega)).trans ((hb3'.block _ LB).trans hB)
          have ho4 : w4.ownsRow (s0 + 8) 114 4 v K.1.length (K.1.flatMap ptrV) := own_mods (own_below ho hb3') hm4' (fun g hg e => by have := (ho.lt g hg).1; omega)
          have c4 := hv4.cell 0; have b0 := hB4.cell 0; have b1 := hB4.cell 1; have b2 := hB4.cell 2; have b3 := hB4.cell 3
          unfold ptrV at b0 b1 b2 b3
          simp only [List.getElem?_cons_zero, List.getElem?_cons_succ] at c4 b0 b1 b2 b3
          have l3' := hv4.lt; have lB' := hB4.lt
          have hKl : K.1.length ≤ 10 := by
            have := keepR_length G (countN (I 2)) pre ([], c)
            rw [hKr]; unfold keepR; simp at this; omega
          have h48 : s0 + 8 ≤ w4.heap.size := by omega
          have nO : ∀ k, k < s0 + 8 → v.ownBlock ≠ some k := fun k hk e => by have := (ho4.lt k e).1; omega
          have nB : v.ownBlock ≠ some B := fun e => by
            rcases ho.2 with ⟨h1, _⟩ | ⟨g, cap, cur, hv2, _⟩
            · rw [h1] at e; cases e
            · rw [hv2] at e
              have e2 : g = B := Option.some.inj e
              exact hnB (.inr (.inr (.inr ⟨K.1.length, cap, by rw [hv.cell 0, hv2, e2]; rfl⟩)))
          have HZ4 := Lib.hid hz4
          clear hz4 hst
          gi_wp2_with (first
          | gi_at_builtin
            refine wpListIn_append_own_at _ rfl _ _ 88 rfl (s0 + 8) 114 j0 (.agg #[.int .i64 0, .int .i64 0, .int .i64 0, .int .i64 0]) 4 32 Tryz.underlying88 hi hz0 hz1 hz2 rfl (by decide) _ _ _ rfl (ho4.alloc _) ⟨_, 0, none⟩ 1 1 (ptrV x) rfl rfl (cells_newL _ _ _ _ (by simp)) (by simp [ptrV, Value.oneCell']) (by unfold maxLen; omega) (by omega) (by simp; omega) ?_
            intro v' w5 hown' hgrow _ hat
            obtain ⟨g', cap', rfl⟩ := ownsRow_succ hown'
            have e5 : ∀ k, k < w4.heap.size → v.ownBlock ≠ some k → w5.heap[k]? = w4.heap[k]? := fun k hk hn => (hgrow.block k (by simp; omega) (fun e => hn e.symm)).trans (Below.heap_alloc _ _ _ hk)
            have hv5 : Blk 88 w5 (s0 + 3) [v] := (e5 _ l3' (nO _ (by omega))).trans hv4
            have hl5 : Blk 114 w5 (s0 + 4) (ptrV (lastP K.1)) := (e5 _ hl4.lt (nO _ (by omega))).trans hl4
            have hB5 : Blk 114 w5 B (ptrV x) := (e5 _ lB' nB).trans hB4
            have d4 := hv5.cell 0; have d5 := hl5.cell 0; have d6 := hl5.cell 1; have d7 := hl5.cell 2; have d8 := hl5.cell 3
            have g0 := hB5.cell 0; have g1 := hB5.cell 1; have g2 := hB5.cell 2; have g3 := hB5.cell 3
            unfold ptrV at d5 d6 d7 d8 g0 g1 g2 g3
            simp only [List.getElem?_cons_zero, List.getElem?_cons_succ] at d4 d5 d6 d7 d8 g0 g1 g2 g3
            have f4 := hv5.frozen 0; have f5 := hl5.frozen 0; have f6 := hl5.frozen 1; have f7 := hl5.frozen 2; have f8 := hl5.frozen 3
            have m3 := hv5.lt; have m4 := hl5.lt; have m5 := hB5.lt)
          have hgg : g' = g' := rfl
          rw [← hKr]
          have hkr2 : keepR G (countN (I 2)) c (pre ++ [x]) = (K.1 ++ [x], fun y => K.2 y || decide (y = x.tgt)) := by
            rw [hkr]; unfold keepS; rw [if_pos (by simp [keepOk, h1, h2, h3])]
          obtain ⟨V, hV⟩ : ∃ V, V = Value.slice (some ⟨g', 0, none⟩) (K.1.length + 1) cap' := ⟨_, rfl⟩
          rw [← hV] at hown' hat ⊢
          have hVo : V.ownBlock = some g' := by rw [hV]; rfl
          have hg8 : s0 + 8 ≤ g' := (hown'.lt g' hVo).1
          have kv : ∀ k, v.ownBlock = some k → KDm s0 CB W k := fun k e => by
            rcases ho.2 with ⟨e1, _⟩ | ⟨g, cap, cur, hv2, _⟩
            · rw [e1] at e; cases e
            · rw [hv2] at e
              have e2 : g = k := Option.some.inj e
              exact .inr (.inr (.inr ⟨K.1.length, cap, by rw [hv.cell 0, hv2, e2]; rfl⟩))
          have base : Mods (KDm s0 CB W) W w5 := ((((Mods.of_below hb3').mono (fun k hk h => absurd h (by omega)) : Mods (KDm s0 CB W) W w3).trans hm4' (fun i hi e => .inl e)).alloc _).grown hgrow (fun k e hk => kv k e)
          have hsz5 : W.heap.size ≤ w5.heap.size := base.size
          obtain ⟨w7, hw7⟩ : ∃ w7, w7 = (((((w5.setCell ⟨s0 + 3, 0, none⟩ V).setCell ⟨s0 + 4, 0, none⟩ (.int .i64 x.lv)).setCell ⟨s0 + 4, 1, none⟩ (.int .i64 (x.n : Nat))).setCell ⟨s0 + 4, 2, none⟩ (.int .i64 (x.first : Nat))).setCell ⟨s0 + 4, 3, none⟩ (.int .i64 (x.tgt : Nat))) := ⟨_, rfl⟩
          have q3 : Blk 88 w7 (s0 + 3) [V] := by
            rw [hw7]
            have h5 := (hv5.set 0 V)
            have r : ∀ (U : World) (j : Nat) (u : Value), Blk 88 U (s0 + 3) [V] → Blk 88 (U.setCell ⟨s0 + 4, j, none⟩ u) (s0 + 3) [V] := fun U j u h => ((grown_set U (s0 + 4) j u).block _ h.lt (fun e => by have := Option.some.inj e; omega)).trans h
            exact r _ _ _ (r _ _ _ (r _ _ _ (r _ _ _ h5)))
          have q4 : Blk 114 w7 (s0 + 4) (ptrV x) := by
            rw [hw7]
            have h5 : Blk 114 (w5.setCell ⟨s0 + 3, 0, none⟩ V) (s0 + 4) (ptrV (lastP K.1)) := ((grown_set w5 (s0 + 3) 0 V).block _ hl5.lt (fun e => by have := Option.some.inj e; omega)).trans hl5
            exact (((h5.set 0 (.int .i64 x.lv)).set 1 (.int .i64 (x.n : Nat))).set 2 (.int .i64 (x.first : Nat))).set 3 (.int .i64 (x.tgt : Nat))
          have m57 : Mods (fun k => k = s0 + 3 ∨ k = s0 + 4) w5 w7 := by
            rw [hw7]
            exact (((((Mods.refl _ w5).setCell ⟨s0 + 3, 0, none⟩ (fun _ => .inl rfl) V).setCell ⟨s0 + 4, 0, none⟩ (fun _ => .inr rfl) _).setCell ⟨s0 + 4, 1, none⟩ (fun _ => .inr rfl) _).setCell ⟨s0 + 4, 2, none⟩ (fun _ => .inr rfl) _).setCell ⟨s0 + 4, 3, none⟩ (fun _ => .inr rfl) _
          rw [← hw7]
          clear hw7 hKr
          have mW7 : Mods (KDm s0 CB W) W w7 := base.trans m57 (fun i hi e => e.elim (fun h => .inr (.inl h)) (fun h => .inr (.inr (.inl h))))
          have m45 : Mods (fun k => v.ownBlock = some k) w4 w5 := ((Mods.refl _ w4).alloc _).grown hgrow (fun k e _ => e)
          refine ⟨mW7, fun k hk hd => ?_, ⟨⟨V, q3, ?_⟩, ?_, ?_, ?_⟩⟩
          · rcases hd with h | h | h | ⟨n, cap2, h⟩
            · exact .inl h
            · exact .inr (.inl h)
            · exact .inr (.inr (.inl h))
            · rw [q3.cell 0] at h
              have hVk : V = Value.slice (some ⟨k, 0, none⟩) n cap2 := Option.some.inj h
              have hgk : some g' = some k := by rw [← hVo, hVk]; rfl
              have hgk := Option.some.inj hgk
              rw [hVo, hgk] at hat
              rcases hat with hat | hat
              · exact kv k hat.symm
              · have := Option.some.inj hat
                simp at this
                have := HZ4.out
                omega
          · rw [hkr2, List.length_append, List.flatMap_append]
            have := own_mods hown' m57 (fun g hg => by rw [hVo] at hg; have := Option.some.inj hg; omega)
            simpa using this
          · rw [hkr2]
            have : lastP (K.1 ++ [x]) = x := by simp [lastP]
            rw [this]; exact q4
          · rw [hkr2]
            have := ((hc4.mods m45 (nO CB (by omega))).mods m57 (fun e => by omega)).mono (n' := n0 + (pre ++ [x]).length) (by simp; omega)
            exact this
          · exact hm.trans mW7 (fun i hi hd => by
              rcases hd with h | h | h | ⟨n, cap2, h⟩
              · exact .inl h
              · exact .inr (.inl h)
              · exact .inr (.inr h)
              · exfalso
                rw [hv.cell 0] at h
                have hvk : v = Value.slice (some ⟨i, 0, none⟩) n cap2 := Option.some.inj h
                exact nO i (by omega) (by rw [hvk]; rfl))
    · have hd : (decide ((x.first : Int) < (countN (I 2) : Nat))) = false := by simp; omega
      gi_wp2
      refine region_round (fun w' => w'.cell? ⟨s0, 0, none⟩ = some (.pointer (some ⟨X, 0, none⟩)) ∧ w'.cell? ⟨s0 + 2, 0, none⟩ = some (.int .i64 (countN (I 2) : Nat)) ∧ w'.cell? ⟨B, 2, none⟩ = some (.int .i64 (x.first : Nat)) ∧ w'.cell? ⟨B, 3, none⟩ = some (.int .i64 (x.tgt : Nat)) ∧ w'.cell? ⟨X, 0, none⟩ = some (.int .i64 G.gr) ∧ w'.cell? ⟨X, 1, none⟩ = some (.int .i64 G.ino) ∧ w'.cell? ⟨X, 2, none⟩ = some (.int .i64 G.da) ∧ w'.cell? ⟨X, 3, none⟩ = some (.slice (some ⟨b, o, none⟩) N cap) ∧ w'.cell? ⟨X, 5, none⟩ = some (.map (some CB)) ∧ (Instr.lookup 65 (.map (some CB)) (.int .i64 (x.tgt : Nat)) false).run Tryz.prog w' = .ok (.bool (K.2 x.tgt)) w' ∧ Below W.heap.size W w') (by kernel_rfl) (by kernel_rfl) (hno _ _ (fun a w h => by cases h.1)) ⟨S0c, S2c, B2, B3, X0, X1, X2, X3, X5, HL _ (Below.refl _ _).drew, (Below.refl _ _).drew⟩ (fun hHeld => ?_)
      refine tkA (i := 0) (oi := ⟨_, _, _, _, _, _⟩) ?_
      simp only [putA, List.set]
      refine tkA (i := 1) (oi := ⟨_, _, _, _, _, _⟩) ?_
      simp only [putA, List.set]
      refine tkA (i := 2) (oi := ⟨_, _, _, _, _, _⟩) ?_
      simp only [putA, List.set]
      refine tkA (i := 3) (oi := ⟨_, _, _, _, _, _⟩) ?_
      simp only [putA, List.set]
      refine tkA (i := 4) (oi := ⟨_, _, _, _, _, _⟩) ?_
      simp only [putA, List.set]
      refine wpAnyH_take (i := 5) (oi := ⟨_, _, _, _, _, _⟩) (v := undef) rfl (by kernel_rfl) (by kernel_rfl) (by kernel_rfl) (fun _ _ _ h => h) (Or.inr ⟨by kernel_rfl, rfl⟩) (by assumption) ?_
      simp only [Act.put, List.setIfInBounds_toArray, List.set_cons_zero, List.set_cons_succ]
      refine wpAnyH_take (i := 6) (oi := ⟨_, _, _, _, _, _⟩) (v := undef) rfl (by kernel_rfl) (by kernel_rfl) (by kernel_rfl) (fun _ _ _ h => h) (Or.inr ⟨by kernel_rfl, rfl⟩) (by assumption) ?_
      simp only [Act.put, List.setIfInBounds_toArray, List.set_cons_zero, List.set_cons_succ]
      refine wpAnyH_take (i := 7) (oi := ⟨_, _, _, _, _, _⟩) (v := undef) rfl (by kernel_rfl) (by kernel_rfl) (by kernel_rfl) (fun _ _ _ h => h) (Or.inr ⟨by kernel_rfl, rfl⟩) (by assumption) ?_
      simp only [Act.put, List.setIfInBounds_toArray, List.set_cons_zero, List.set_cons_succ]
      refine wpAnyH_take (i := 8) (oi := ⟨_, _, _, _, _, _⟩) (v := undef) rfl (by kernel_rfl) (by kernel_rfl) (by kernel_rfl) (fun _ _ _ h => h) (Or.inr ⟨by kernel_rfl, rfl⟩) (by assumption) ?_
      simp only [Act.put, List.setIfInBounds_toArray, List.set_cons_zero, List.set_cons_succ]
      refine wpAnyH_take (i := 9) (oi := ⟨_, _, _, _, _, _⟩) (v := undef) rfl (by kernel_rfl) (by kernel_rfl) (by kernel_rfl) (fun _ _ _ h => h) (Or.inr ⟨by kernel_rfl, rfl⟩) (by assumption) ?_
      simp only [Act.put, List.setIfInBounds_toArray, List.set_cons_zero, List.set_cons_succ]
      refine wpAnyH_take (i := 10) (oi := ⟨_, _, _, _, _, _⟩) (v := undef) rfl (by kernel_rfl) (by kernel_rfl) (by kernel_rfl) (fun _ _ _ h => h) (Or.inr ⟨by kernel_rfl, rfl⟩) (by assumption) ?_
      simp only [Act.put, List.setIfInBounds_toArray, List.set_cons_zero, List.set_cons_succ]
      refine wpAnyH_take (i := 11) (oi := ⟨_, _, _, _, _, _⟩) (v := undef) rfl (by kernel_rfl) (by kernel_rfl) (by kernel_rfl) (fun _ _ _ h => h) (Or.inr ⟨by kernel_rfl, rfl⟩) (by assumption) ?_
      simp only [Act.put, List.setIfInBounds_toArray, List.set_cons_zero, List.set_cons_succ]
      refine tkA (i := 12) (oi := ⟨_, _, _, _, _, _⟩) ?_
      simp only [putA, List.set]
      refine tkA (i := 13) (oi := ⟨_, _, _, _, _, _⟩) ?_
      simp only [putA, List.set]
      refine wpAnyH_take (i := 14) (oi := ⟨_, _, _, _, _, _⟩) (v := undef) rfl (by kernel_rfl) (by kernel_rfl) (by kernel_rfl) (fun _ _ _ h => h) (Or.inr ⟨by kernel_rfl, rfl⟩) (by assumption) ?_
      simp only [Act.put, List.setIfInBounds_toArray, List.set_cons_zero, List.set_cons_succ]
      refine wpAnyH_take (i := 15) (oi := ⟨_, _, _, _, _, _⟩) (v := undef) rfl (by kernel_rfl) (by kernel_rfl) (by kernel_rfl) (fun _ _ _ h => h) (Or.inr ⟨by kernel_rfl, rfl⟩) (by assumption) ?_
      simp only [Act.put, List.setIfInBounds_toArray, List.set_cons_zero, List.set_cons_succ]
      refine wpAnyH_take (i := 16) (oi := ⟨_, _, _, _, _, _⟩) (v := undef) rfl (by kernel_rfl) (by kernel_rfl) (by kernel_rfl) (fun _ _ _ h => h) (Or.inr ⟨by kernel_rfl, rfl⟩) (by assumption) ?_
      simp only [Act.put, List.setIfInBounds_toArray, List.set_cons_zero, List.set_cons_succ]
      refine wpAnyH_take (i := 17) (oi := ⟨_, _, _, _, _, _⟩) (v := undef) rfl (by kernel_rfl) (by kernel_rfl) (by kernel_rfl) (fun _ _ _ h => h) (Or.inr ⟨by kernel_rfl, rfl⟩) (by assumption) ?_
      simp only [Act.put, List.setIfInBounds_toArray, List.set_cons_zero, List.set_cons_succ]
      refine wpAnyH_take (i := 18) (oi := ⟨_, _, _, _, _, _⟩) (v := undef) rfl (by kernel_rfl) (by kernel_rfl) (by kernel_rfl) (fun _ _ _ h => h) (Or.inr ⟨by kernel_rfl, rfl⟩) (by assumption) ?_
      simp only [Act.put, List.setIfInBounds_toArray, List.set_cons_zero, List.set_cons_succ]
      refine wpAnyH_take (i := 19) (oi := ⟨_, _, _, _, _, _⟩) (v := undef) rfl (by kernel_rfl) (by kernel_rfl) (by kernel_rfl) (fun _ _ _ h => h) (Or.inr ⟨by kernel_rfl, rfl⟩) (by assumption) ?_
      simp only [Act.put, List.setIfInBounds_toArray, List.set_cons_zero, List.set_cons_succ]
      refine wpAnyH_take (i := 20) (oi := ⟨_, _, _, _, _, _⟩) (v := undef) rfl (by kernel_rfl) (by kernel_rfl) (by kernel_rfl) (fun _ _ _ h => h) (Or.inr ⟨by kernel_rfl, rfl⟩) (by assumption) ?_
      simp only [Act.put, List.setIfInBounds_toArray, List.set_cons_zero, List.set_cons_succ]
      refine wpAnyH_take (i := 21) (oi := ⟨_, _, _, _, _, _⟩) (v := undef) rfl (by kernel_rfl) (by kernel_rfl) (by kernel_rfl) (fun _ _ _ h => h) (Or.inr ⟨by kernel_rfl, rfl⟩) (by assumption) ?_
      simp only [Act.put, List.setIfInBounds_toArray, List.set_cons_zero, List.set_cons_succ]
      refine tkA (i := 22) (oi := ⟨_, _, _, _, _, _⟩) ?_
      simp only [putA, List.set]
      refine wpAnyH_done (by kernel_rfl) ?_ _
      gi_wp2
      have hm3 : Mods (fun _ => False) W W.drew := (Mods.refl _ W).drew
      refine ⟨hm3.mono (fun _ _ f => f.elim), fun k _ h => KDm.same hm3 (by omega) k h, hI.same hm3 (by simp [keepOk, h1])⟩
  case done =>
    rintro D xs W hD rfl ⟨⟨v, hv, ho⟩, hl, hcl, hm⟩ hK
    have hcell := hv.cell 0
    simp only [List.getElem?_cons_zero] at hcell
    have hvl := hv.lt
    gi_wp2
    refine ⟨by simp, .inl ⟨_, _, rfl, run_takeDeferred hK, ?_⟩⟩
    have hgp := grownBy_putObj' W D
    refine ⟨_, results_tmp rfl _ _ _, v, rfl, own_mono (ownsRow_putObj ho _ hK rfl) (by rw [← HS0.out]; omega), ?_, ?_⟩
    · exact MapG.grown (hcl.mono (by simp [ptrsI])) (hgp _) (fun e => by have := Option.some.inj e; omega)
    · have h1 := hm.size
      have e1 : w.heap.size = s0 := HS0.out.symm
      refine ⟨hm.os.trans hB12.os, hm.tape.trans hB12.tape, hm.output.trans hB12.output, ?_, fun k hk hn => ?_⟩
      · have := (hgp (.deferred none)).size; simp at this ⊢; omega
      · rw [World.putObj_heap_other (by omega)]
        exact (hm.block k (by omega) (by omega)).trans (hB12.block k (by omega))
end Go.Proofs.YtbeabehebenocaaGreatDoor
end

section
/- mend: a mender in memory: what was taken in, the claims, the image. -/
namespace Go.Proofs.YtbeabehebenocaaGreatDoor
open Go.RowKit

/-- an inode that was taken in -/
structure Tk where
  ino : Nat
  i : InoN
  L : List Ptr
  parent : Nat
  anew : Bool
  links : Nat
def tkV (t : Tk) (v : Value) : List Value := [.int .i64 (t.ino : Nat), .int .i64 (t.i 0 : Nat), .int .i64 (t.i 1 : Nat), .int .i64 (t.i 2 : Nat), .int .i64 (t.i 3 : Nat), .int .i64 (t.i 4 : Nat), .int .i64 (t.i 5 : Nat), .int .i64 (t.i 6 : Nat), .int .i64 (t.i 7 : Nat), .int .i64 (t.i 8 : Nat), .int .i64 (t.i 9 : Nat), .int .i64 (t.i 10 : Nat), .int .i64 (t.i 11 : Nat), .int .i64 (t.i 12 : Nat), v, .int .i64 (t.parent : Nat), .bool t.anew, .int .i64 (t.links : Nat)]
def TkAt (w : World) (B : Nat) (t : Tk) : Prop := ∃ v, Blk 90 w B (tkV t v) ∧ w.ownsRow 0 114 4 v t.L.length (t.L.flatMap ptrV)
def InM (w : World) (IB n : Nat) (adr : Nat → Option Nat) : Prop := MapG 3 ptrElem natK natOk w IB n (fun x => ptrD (adr x))

theorem TkAt.lt {w : World} {B : Nat} {t : Tk} (h : TkAt w B t) : B < w.heap.size := by obtain ⟨v, h1, _⟩ := h; exact h1.lt
/-- what is neither a taken inode's block nor a block of pointers may change -/
theorem TkAt.mods {s : Nat → Prop} {w w' : World} {B : Nat} {t : Tk} (h : TkAt w B t) (hm : Mods s w w') (hs : ∀ k, s k → k < w.heap.size → ¬ ∃ ys fr, w.heap[k]? = some (.cells ys 90 fr) ∨ w.heap[k]? = some (.cells ys 114 fr)) : TkAt w' B t := by
  obtain ⟨v, h1, h2⟩ := h
  refine ⟨v, (hm.block _ h1.lt fun hk => hs B hk h1.lt ⟨_, _, .inl h1⟩).trans h1, own_mods h2 hm fun g hg hk => ?_⟩
  rcases h2.2 with ⟨e, _⟩ | ⟨g', cap, cur, e, _, hgg, _⟩
  · rw [e] at hg; cases hg
  · rw [e] at hg
    have e2 : g' = g := Option.some.inj hg
    exact hs g hk (by rw [← e2]; exact (Array.getElem?_eq_some_iff.1 hgg).1) ⟨_, _, .inr (by rw [← e2]; exact hgg)⟩
theorem TkAt.below {w w' : World} {B : Nat} {t : Tk} (h : TkAt w B t) (hb : Below w.heap.size w w') : TkAt w' B t :=
  h.mods (Mods.of_below hb) fun k hk hl => by omega

/-- a mender -/
structure MAt (w : World) (g : Geo) (b o N cap : Nat) (f : Nat → Nat) (X CB IB M : Nat) (out way : Value) (c : Nat → Bool) (adr : Nat → Option Nat) (tk : Nat → Tk) : Prop where
  men : Blk 69 w X [.int .i64 (g.gr : Nat), .int .i64 (g.ino : Nat), .int .i64 (g.da : Nat), .slice (some ⟨b, o, none⟩) N cap, out, .map (some CB), .map (some IB), way]
  img : ImgOk g b o N cap f w
  cl : Claims w CB M c
  im : InM w IB M adr
  ne : CB ≠ IB
  tks : ∀ x B, adr x = some B → TkAt w B (tk x) ∧ (tk x).ino = x ∧ X < B

theorem not_map {w : World} {kt : TypeId} {κ : Type} {R : Value → Option (DU × List MemPlace)} {mk : κ → Lit} {ok : κ → Prop} {b n : Nat} {g : κ → Option DU} (h : MapG kt R mk ok w b n g) {ys : Array Value} {e : TypeId} {fr : Nat × Nat} (h2 : w.heap[b]? = some (.cells ys e fr)) : False := by
  obtain ⟨D, ⟨es, clock, hb, _⟩, _⟩ := h
  rw [hb] at h2; cases h2
theorem MAt.below {w w' : World} {g : Geo} {b o N cap : Nat} {f : Nat → Nat} {X CB IB M : Nat} {out way : Value} {c : Nat → Bool} {adr : Nat → Option Nat} {tk : Nat → Tk} (h : MAt w g b o N cap f X CB IB M out way c adr tk) (hb : Below w.heap.size w w') : MAt w' g b o N cap f X CB IB M out way c adr tk :=
  ⟨h.men.below hb h.men.lt, h.img.below hb h.img.lt, h.cl.below hb h.cl.lt, h.im.below hb h.im.lt, h.ne, fun x B e => ⟨(h.tks x B e).1.below hb, (h.tks x B e).2⟩⟩
theorem MAt.drew {w : World} {g : Geo} {b o N cap : Nat} {f : Nat → Nat} {X CB IB M : Nat} {out way : Value} {c : Nat → Bool} {adr : Nat → Option Nat} {tk : Nat → Tk} (h : MAt w g b o N cap f X CB IB M out way c adr tk) : MAt w.drew g b o N cap f X CB IB M out way c adr tk := h.below (Below.refl _ _).drew

theorem rd_not_map {w : World} {kt : TypeId} {κ : Type} {R : Value → Option (DU × List MemPlace)} {mk : κ → Lit} {ok : κ → Prop} {b n : Nat} {g : κ → Option DU} (h : MapG kt R mk ok w b n g) {o : Nat} {v : Value} (h2 : w.cell? ⟨b, o, none⟩ = some v) : False := by
  obtain ⟨D, ⟨es, clock, hb, _⟩, _⟩ := h
  simp [World.cell?, hb] at h2
/-- the two maps may change, and new blocks may come -/
theorem MAt.turn {w w' : World} {g : Geo} {b o N cap : Nat} {f : Nat → Nat} {X CB IB M M' : Nat} {out way : Value} {c c' : Nat → Bool} {adr adr' : Nat → Option Nat} {tk tk' : Nat → Tk} (h : MAt w g b o N cap f X CB IB M out way c adr tk)
    (hm : Mods (fun k => k = CB ∨ k = IB) w w') (hc : Claims w' CB M' c') (hi : InM w' IB M' adr') (ht : ∀ x B, adr' x = some B → (adr x = some B ∧ tk' x = tk x) ∨ (TkAt w' B (tk' x) ∧ (tk' x).ino = x ∧ X < B)) :
    MAt w' g b o N cap f X CB IB M' out way c' adr' tk' := by
  have hn : ∀ k, k = CB ∨ k = IB → ¬ ∃ ys e fr, w.heap[k]? = some (.cells ys e fr) := fun k hk ⟨ys, e, fr, hh⟩ => by
    rcases hk with rfl | rfl
    · exact not_map h.cl hh
    · exact not_map h.im hh
  have hb : ¬ (b = CB ∨ b = IB) := fun hk => by
    have hr := h.img.rd 0 (by have := h.img.n; have := h.img.ok.total_pos; omega)
    rcases hk with rfl | rfl
    · exact rd_not_map h.cl hr
    · exact rd_not_map h.im hr
  have hbl := h.img.lt
  refine ⟨(hm.block _ h.men.lt (fun hk => hn _ hk ⟨_, _, _, h.men⟩)).trans h.men, { h.img with rd := fun k hk => (hm.cell hbl hb).trans (h.img.rd k hk) }, hc, hi, h.ne, fun x B e => ?_⟩
  rcases ht x B e with ⟨h1, h2⟩ | h1
  · rw [h2]
    exact ⟨(h.tks x B h1).1.mods hm (fun k hk _ ⟨ys, fr, hh⟩ => hn k hk (hh.elim (fun e => ⟨_, _, _, e⟩) (fun e => ⟨_, _, _, e⟩))), (h.tks x B h1).2⟩
  · exact h1
theorem tag_inj {xs ys : Array Value} {e e' : TypeId} {fr fr' : Nat × Nat} (h : some (Obj.cells xs e fr) = some (Obj.cells ys e' fr')) : e = e' := by injection h with h; injection h
/-- an inode that was taken in gets other links -/
theorem MAt.links {w : World} {g : Geo} {b o N cap : Nat} {f : Nat → Nat} {X CB IB M : Nat} {out way : Value} {c : Nat → Bool} {adr : Nat → Option Nat} {tk : Nat → Tk} (h : MAt w g b o N cap f X CB IB M out way c adr tk) {x B : Nat} (hx : adr x = some B) (n : Nat) {u : Value} (hu : u = .int .i64 (n : Nat)) :
    MAt (w.setCell ⟨B, 17, none⟩ u) g b o N cap f X CB IB M out way c adr (fun y => if y = x then { tk x with links := n } else tk y) := by
  subst hu
  obtain ⟨⟨v, hB, hv⟩, hino⟩ := h.tks x B hx
  have hm : Mods (fun k => k = B) w (w.setCell ⟨B, 17, none⟩ (.int .i64 (n : Nat))) := (Mods.refl (fun k => k = B) w).setCell ⟨B, 17, none⟩ (fun _ => rfl) _
  have hXB : X ≠ B := fun e => by
    have h1 : w.heap[X]? = _ := h.men
    rw [e, show w.heap[B]? = _ from hB] at h1
    exact absurd (tag_inj h1) (by decide)
  have hbB : b ≠ B := fun e => by
    have hr := h.img.rd 0 (by have := h.img.n; have := h.img.ok.total_pos; omega)
    rw [e, hB.cell] at hr
    have hmem := List.mem_of_getElem? hr
    obtain ⟨A, cc, hvs⟩ : ∃ A cap, v = .slice A (tk x).L.length cap := by
      rcases hv.2 with ⟨hv1, hn⟩ | ⟨g, cap, cur, hv1, _⟩
      · exact ⟨none, 0, by rw [hv1, hn]⟩
      · exact ⟨_, _, hv1⟩
    rw [hvs] at hmem
    simp [tkV] at hmem
  refine ⟨h.men.mods hm hXB, { h.img with rd := fun k hk => (hm.cell h.img.lt hbB).trans (h.img.rd k hk) }, h.cl.mods hm (fun e => by subst e; exact not_map h.cl hB), h.im.mods hm (fun e => by subst e; exact not_map h.im hB), h.ne, fun y B' e => ?_⟩
  by_cases hy : y = x
  · simp only [hy, if_true] at e ⊢
    rw [hx] at e
    cases e
    exact ⟨⟨v, hB.set 17 _, own_mods hv hm (fun k hk e => by
      subst e
      rcases hv.2 with ⟨hv1, _⟩ | ⟨g', cap', cur, hv1, _, hgg, _⟩
      · rw [hv1] at hk; cases hk
      · rw [hv1] at hk
        have e2 : g' = k := Option.some.inj hk
        rw [e2, show w.heap[k]? = _ from hB] at hgg
        exact absurd (tag_inj hgg) (by decide))⟩, hino⟩
  · simp only [if_neg hy]
    obtain ⟨⟨v', hB', hv'⟩, hino'⟩ := h.tks y B' e
    have hne : B' ≠ B := fun e2 => by
      subst e2
      have c1 := hB.cell 0
      have c2 := hB'.cell 0
      rw [c1] at c2
      simp [tkV] at c2
      omega
    refine ⟨⟨v', hB'.mods hm hne, own_mods hv' hm (fun k hk e => by
      subst e
      rcases hv'.2 with ⟨hv1, _⟩ | ⟨g', cap', cur, hv1, _, hgg, _⟩
      · rw [hv1] at hk; cases hk
      · rw [hv1] at hk
        have e2 : g' = k := Option.some.inj hk
        rw [e2, show w.heap[k]? = _ from hB] at hgg
        exact absurd (tag_inj hgg) (by decide))⟩, hino'⟩
theorem MAt.img_ne {w : World} {g : Geo} {b o N cap : Nat} {f : Nat → Nat} {X CB IB M : Nat} {out way : Value} {c : Nat → Bool} {adr : Nat → Option Nat} {tk : Nat → Tk} (h : MAt w g b o N cap f X CB IB M out way c adr tk) (ho : ∀ k q, out ≠ .int k q) (hw : ∀ k q, way ≠ .int k q) : b ≠ X := fun e => by
  have hr := h.img.rd 0 (by have := h.img.n; have := h.img.ok.total_pos; omega)
  rw [e, h.men.cell] at hr
  have hmem := List.mem_of_getElem? hr
  simp at hmem
  rcases hmem with hmem | hmem
  · exact ho _ _ hmem.symm
  · exact hw _ _ hmem.symm
theorem in_look {w : World} {IB n : Nat} {adr : Nat → Option Nat} (h : InM w IB n adr) {y : Nat} (hy : natOk y) : (Instr.lookup 66 (.map (some IB)) (.int .i64 (y : Int)) false).run Tryz.prog w = .ok (ptrTo (adr y)) w := by
  obtain ⟨D, h1, h2, h3⟩ := h
  have hz : (zeroValue 70).run Tryz.prog w = .ok (.pointer none) w := by kernel_rfl
  obtain ⟨v, ps, hrun, hv⟩ := h1.lookup intKeyed Tryz.underlying66 hz (zd := .lit (.int .i64 (-1))) (zp := []) rfl (nat_key hy)
  rw [(h2 y hy).2] at hv
  rw [hrun, ptr_elem _ _ _ hv]
theorem in_look_ok {w : World} {IB n : Nat} {adr : Nat → Option Nat} (h : InM w IB n adr) {y : Nat} (hy : natOk y) : (Instr.lookup 66 (.map (some IB)) (.int .i64 (y : Int)) true).run Tryz.prog w = .ok (.tuple #[ptrTo (adr y), .bool (adr y).isSome]) w := by
  obtain ⟨D, h1, h2, h3⟩ := h
  have hz : (zeroValue 70).run Tryz.prog w = .ok (.pointer none) w := by kernel_rfl
  obtain ⟨v, ps, hrun, hv⟩ := h1.look_ok intKeyed Tryz.underlying66 hz (zd := .lit (.int .i64 (-1))) (zp := []) rfl (nat_key hy)
  rw [(h2 y hy).2] at hv
  have e3 : ((fun x => ptrD (adr x)) y).isSome = (adr y).isSome := by cases h : adr y <;> simp [ptrD, h]
  rw [hrun, ptr_elem _ _ _ hv, (h2 y hy).1, e3]
theorem in_store {w : World} {IB n : Nat} {adr : Nat → Option Nat} (h : InM w IB n adr) (hn : n < 1000000000000) {y B : Nat} (hy : natOk y) : ∃ w', (Instr.mapUpdate 66 (.map (some IB)) (.int .i64 (y : Int)) (.pointer (some ⟨B, 0, none⟩))).run Tryz.prog w = .ok () w' ∧ InM w' IB (n + 1) (fun x => if x = y then some B else adr x) ∧ Mods (fun k => k = IB) w w' ∧ w'.heap.size = w.heap.size := by
  obtain ⟨D, h1, h2, h3⟩ := h
  obtain ⟨w', hrun, r1, r2⟩ := h1.store intKeyed Tryz.underlying66 (by unfold maxLen; omega) (nat_key hy) (val := .pointer (some ⟨B, 0, none⟩)) (d := .lit (.int .i64 (B : Int))) (ps := []) rfl
  refine ⟨w', hrun, ?_, mods_turned r2, size_turned r2⟩
  have := MapG.put_D natWay hy h1.isMap h2 h3 r1
  have e : (fun z => if z = y then some (DataW.lit (.int .i64 (B : Int))) else ptrD (adr z)) = (fun x => ptrD (if x = y then some B else adr x)) := by
    funext z
    by_cases hz : z = y
    · simp [hz, ptrD]
    · simp [hz]
  rw [e] at this
  exact this
theorem own_slice {w : World} {base e size n : Nat} {v : Value} {xs : List Value} (h : w.ownsRow base e size v n xs) : ∃ A cap, v = .slice A n cap := by
  rcases h.2 with ⟨hv, hn⟩ | ⟨g, cap, cur, hv, _⟩
  · exact ⟨none, 0, by rw [hv, hn]⟩
  · exact ⟨_, _, hv⟩
theorem MAt.tkc {w : World} {g : Geo} {b o N cap : Nat} {f : Nat → Nat} {X CB IB M : Nat} {out way : Value} {c : Nat → Bool} {adr : Nat → Option Nat} {tk tk' : Nat → Tk} (h : MAt w g b o N cap f X CB IB M out way c adr tk) (e : ∀ y, tk y = tk' y) : MAt w g b o N cap f X CB IB M out way c adr tk' := by
  have : tk = tk' := funext e
  subst this; exact h
/-- the sizes that can be -/
def capI (i : InoN) : InoN := fun k => if k = 2 then min (i 2) 67379200 else i k
end Go.Proofs.YtbeabehebenocaaGreatDoor
end

section
/- Bits of rows; a range over a map whose keys are naturals. -/
namespace Go.Proofs.YtbeabehebenocaaGreatDoor
open Go.RowKit

theorem setB_bit : ∀ x : Fin 256, ∀ r q : Fin 8, decide (setB x.val r.val true / 2 ^ q.val % 2 = 1) = (decide (q.val = r.val) || decide (x.val / 2 ^ q.val % 2 = 1)) := by decide +kernel
theorem getBit_with {f : Nat → Nat} (hf : ∀ k, f k < 256) {n i : Nat} (hi : i / 8 < n) (k : Nat) : getBit (withB f i true) n k = (decide (k = i) || getBit f n k) := by
  unfold getBit withB
  by_cases h : k / 8 = i / 8
  · have hk : k / 8 < n := by omega
    have h0 := setB_bit ⟨f (k / 8), hf _⟩ ⟨i % 8, Nat.mod_lt _ (by decide)⟩ ⟨k % 8, Nat.mod_lt _ (by decide)⟩
    dsimp only at h0
    rw [if_pos h, h0]
    have e : decide (k % 8 = i % 8) = decide (k = i) := by
      rw [Bool.eq_iff_iff, decide_eq_true_iff, decide_eq_true_iff]; omega
    simp [hk, e]
  · have hne : k ≠ i := fun e => h (by rw [e])
    simp [h, hne]
theorem getBit_zero (n k : Nat) : getBit (fun _ => 0) n k = false := by simp [getBit]

/-- the step of a range over a map whose keys are naturals -/
theorem mapg_next {w : World} {ops : Array Oper} {rest : List Oper} {o : Oper} {a : Act} {Q : Exit → Act → World → Prop} (hg : o.guard = none) (it : Operand) (hop : o.op = Op.next it false) (R : Value → Option (DU × List MemPlace)) (b r n : Nat) (D : DU) (left : Lit → Bool) (cnt : Nat)
    (hit : a.eval it = .pointer (some ⟨r, 0, none⟩)) (h : w.ranges Tryz.prog 3 R b r n D left cnt) (h3 : ∀ kl, Maps.has D kl = true → ∃ x, natOk x ∧ kl = natK x) (hl : ∀ kl, left kl = true → Maps.has D kl = true)
    (hDone : (∀ kl, left kl = false) → wpList Tryz.prog ops Q rest (a.put o.dst (.tuple #[.bool false])) w)
    (hMore : ∀ (x : Nat) (v : Value) (w' : World) (cnt' : Nat), natOk x → Maps.has D (natK x) = true → left (natK x) = true → w'.ranges Tryz.prog 3 R b r n D (fun z => left z && !z.sameKey (natK x)) cnt' → cnt' < cnt → w.grownBy w' (some r) → w'.heap.size = w.heap.size →
      (Instr.entry (.pointer (some ⟨r, 0, none⟩))).run Tryz.prog w' = .ok (.tuple #[.int .i64 (x : Int), v]) w' → wpList Tryz.prog ops Q rest (a.put o.dst (.tuple #[.bool true, .int .i64 (x : Int), v])) w') :
    wpList Tryz.prog ops Q (o :: rest) a w := by
  refine wpList_next_ranges w hg it hop 3 intKeyed R (Value.int .i64) (fun v : Value => v) (fun key kl hkey => by obtain ⟨x, rfl, _⟩ := Maps.keyOf_int_inv Tryz.underlying3 hkey; exact ⟨x, rfl⟩) (fun v y _ => ⟨v, rfl⟩) b r n D left cnt hit h (fun _ => hDone) ?_
  intro x v kl y w' cnt' hkey hlk _ _ hrg hlt hgr hsz hen
  obtain ⟨x', ex, rfl, _⟩ := Maps.keyOf_int_inv Tryz.underlying3 hkey
  cases ex
  obtain ⟨q, hq, e⟩ := h3 _ (hl _ hlk)
  unfold natK at e
  cases e
  exact hMore q v w' cnt' hq (hl _ hlk) hlk hrg hlt hgr hsz hen
theorem sameKey_nat {x y : Nat} (hy : natOk y) : (natK x).sameKey (natK y) = decide (x = y) := by
  by_cases h : x = y
  · subst h
    rw [WideAt.sameKey_self (natWay.key _ hy)]; simp
  · rw [Maps.sameKey_ne (fun e => by unfold natK at e; injection e with _ e; omega)]; simp [h]
/-- a range's step strikes one key -/
theorem left_step {g : Nat → Bool} {left : Lit → Bool} {x : Nat} (hx : natOk x) (hg : g x = true) (y : Nat) : (g y && !(left (natK y) && !(natK y).sameKey (natK x))) = (decide (y = x) || (g y && !left (natK y))) := by
  rw [sameKey_nat hx]
  by_cases h : y = x
  · subst h; simp [hg]
  · simp [h]

/-! ### a disk of one group -/
theorem Geo.one_inodes {g : Geo} (h : g.gr = 1) : g.inodes = g.ino * 16 := by unfold Geo.inodes; rw [h]; omega
theorem Geo.one_iGr {g : Geo} (h : g.gr = 1) (i : Nat) : g.iGr i = 0 := by
  unfold Geo.iGr
  split
  · rename_i hi
    have h1 := Geo.iOk_iff.1 hi
    rw [Geo.one_inodes h] at h1
    exact Nat.div_eq_of_lt (by omega)
  · rfl
theorem Geo.one_iNo {g : Geo} (h : g.gr = 1) {i : Nat} (hi : g.iOk i = true) : g.iNo i = i - 1 ∧ 1 ≤ i ∧ i ≤ 16 * g.ino := by
  have h1 := Geo.iOk_iff.1 hi
  rw [Geo.one_inodes h] at h1
  unfold Geo.iNo
  rw [if_pos hi, Nat.mod_eq_of_lt (by omega)]
  omega
theorem Geo.one_dNo {g : Geo} (h : g.gr = 1) {p : Nat} (hp : g.dOk p = true) : g.dNo p = p - 2 - g.ino ∧ 2 + g.ino ≤ p ∧ p < 2 + g.ino + g.da := by
  have h1 := Geo.dOk_iff.1 hp
  unfold Geo.total at h1
  rw [h, Nat.one_mul] at h1
  have h2 : (p - 1) / g.span = 0 := Nat.div_eq_of_lt (by omega)
  have h3 : (p - 1) % g.span = p - 1 := Nat.mod_eq_of_lt (by omega)
  unfold Geo.dNo
  rw [if_pos hp, h2, h3]
  rw [h3] at h1
  unfold Geo.span at h1
  omega
theorem Geo.one_data {g : Geo} {n : Nat} (hn : n < g.da) : g.data n = 2 + g.ino + n := by
  unfold Geo.data Geo.head
  rw [Nat.div_eq_of_lt hn, Nat.mod_eq_of_lt hn]; omega
end Go.Proofs.YtbeabehebenocaaGreatDoor
end
