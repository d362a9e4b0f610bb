/- Part of the road to RpCard: Base, Geo, Bits, Mem, Num, Row, AppZ, Copy, RefA, GeoP, GeoR, Super, Str, Shelf, Name, Ent. -/
import Derived.WalkKit
import Derived.WalkSpells
import Derived.WalkLawsBesides
import Derived.Lib.Hide
import Derived.RangeFuncBox
import Derived.Deep.AppendLies
import Derived.ArgAppend
import Derived.Test.YtbeabehebenocaaGreatDoorProg
import Derived.Deep.RegionHeld3
import Derived.Deep.QuietTactic
import Derived.BigQuiet
import Derived.OwnWalk
import Derived.Laws.MakeOwn
import Derived.StillTailTactics
import Derived.BigRegion
import Derived.Lib.AppendZeros
import Derived.Laws.CopyOwn
import Derived.Lib.SlBytesConst
import Derived.Laws.IdiomStrings
import Derived.Shelf.Strings.Search1
import Derived.Ground.Names2Prog
import Derived.Shelf.Small.Strs
import Derived.Lib.BufferWrite
import Derived.Deep.RegionLaw
set_option linter.all false
set_option linter.unusedSimpArgs false
set_option linter.unusedVariables false
set_option linter.unusedSectionVars false
section
namespace Go.Proofs.YtbeabehebenocaaGreatDoor
open Go.RowKit
theorem tkA {P : Program} {ops : Array Oper} {Q : Exit → Act → World → Prop} {md : Region.Mode} {S : World → Prop} {i : Nat} {oi : Oper} {v : Value} {fuel : Nat} {listed : Array Bool} {a : Act} {w : World}
    (h : wpAnyH P md ops Q S fuel (listed.setIfInBounds i true) (a.put oi.dst v) w) (hi : ops[i]? = some oi := by rfl)
    (hs : Region.noSelect ops = true := by kernel_rfl) (hf : Region.free md ops listed i = true := by kernel_rfl) (hr : (Region.ready md ops listed).contains i = true := by kernel_rfl)
    (hQ : ∀ c a w, Q (.panic c) (a.put oi.dst v) w → Q (.panic c) a w := by exact fun _ _ _ h => h) (hw : Region.wanted oi (yielded ops a.tmps) = true := by kernel_rfl)
    (he : ∀ w, S w → (execOp a.eval oi).run P w = .ok (.value v) w := by intro w hSw; (try dsimp only at hSw); go_simp; first | done | with_reducible rfl) (hS : S w := by assumption) : wpAnyH P md ops Q S (fuel + 1) listed a w :=
  wpAnyH_take hi hs hf hr hQ (Or.inl ⟨hw, he⟩) hS h
theorem putA (k : Nat) (l : List Value) (d) (v : Value) : Act.put ⟨l.toArray, d⟩ (some k) v = ⟨(l.set k v).toArray, d⟩ := by simp only [Act.put, List.setIfInBounds_toArray]
end Go.Proofs.YtbeabehebenocaaGreatDoor
end
section
/- Small plain lemmas on numbers, bytes and reading memory that the walks share. -/
namespace Go.Proofs.YtbeabehebenocaaGreatDoor
open Go.RowKit

/-- memory holds n bytes from an address on -/
def RdB (w : World) (b o n : Nat) (f : Nat → Nat) : Prop := ∀ k, k < n → w.cell? ⟨b, o + k, none⟩ = some (.int .u8 ((f k : Nat) : Int))
theorem ret_int {k : IntKind} {a b : Int} (h : a = b) : Ending.returned (.int k a) = .returned (.int k b) := by rw [h]
theorem ret_ib {a b : Int} {c d : Bool} (h : a = b) (h2 : c = d) : Ending.returned (.tuple #[.int .i64 a, .bool c]) = .returned (.tuple #[.int .i64 b, .bool d]) := by rw [h, h2]
theorem ret_iib {a b a2 b2 : Int} {c d : Bool} (h : a = b) (h1 : a2 = b2) (h2 : c = d) : Ending.returned (.tuple #[.int .i64 a, .int .i64 a2, .bool c]) = .returned (.tuple #[.int .i64 b, .int .i64 b2, .bool d]) := by rw [h, h1, h2]
theorem wrap_in (x : Int) (h0 : -9223372036854775808 ≤ x) (h1 : x ≤ 9223372036854775807) : IntKind.i64.wrap x = x := by rw [IntKind.wrap_i64]; omega
theorem mul_le_cast {a b c : Nat} (h : a * b ≤ c) : (a : Int) * (b : Int) ≤ (c : Int) := by rw [← Int.natCast_mul]; omega
theorem mul_nn (a b : Nat) : 0 ≤ (a : Int) * (b : Int) := by rw [← Int.natCast_mul]; omega
theorem wrap_nat (x : Nat) (h : x < 9223372036854775808) : IntKind.i64.wrap (x : Int) = (x : Int) := wrap_in _ (by omega) (by omega)
theorem wrap_tdiv (a b : Nat) (h : a < 9223372036854775808) : IntKind.i64.wrap (Int.tdiv (a : Int) (b : Int)) = ((a / b : Nat) : Int) := by
  have : a / b ≤ a := Nat.div_le_self _ _
  rw [← Int.ofNat_tdiv]; exact wrap_nat _ (by omega)
theorem wrap_ediv (a b : Nat) (h : a < 9223372036854775808) : IntKind.i64.wrap ((a : Int) / (b : Int)) = ((a / b : Nat) : Int) := by
  have : a / b ≤ a := Nat.div_le_self _ _
  rw [← Int.natCast_ediv]; exact wrap_nat _ (by omega)
theorem lt_of_cell {w : World} {b o : Nat} {v : Value} (h : w.cell? ⟨b, o, none⟩ = some v) : b < w.heap.size := by
  exact World.block_lt_of_cell? w ⟨b, o, none⟩ h
theorem RdB.below {w w' : World} {b o n : Nat} {f : Nat → Nat} (h : RdB w b o n f) (hb : Below w.heap.size w w') : RdB w' b o n f :=
  fun k hk => by rw [hb.cell (p := ⟨b, o + k, none⟩) (lt_of_cell (h k hk))]; exact h k hk
theorem RdB.z {w : World} {b n : Nat} {f : Nat → Nat} (h : RdB w b 0 n f) (k : Nat) (hk : k < n) : w.cell? ⟨b, k, none⟩ = some (.int .u8 ((f k : Nat) : Int)) := by
  have := h k hk
  rwa [Nat.zero_add] at this
theorem RdB.sub {w : World} {b o n : Nat} {f : Nat → Nat} (h : RdB w b o n f) (s m : Nat) (hs : s + m ≤ n) : RdB w b (o + s) m (fun k => f (s + k)) :=
  fun k hk => by rw [show o + s + k = o + (s + k) by omega]; exact h (s + k) (by omega)

theorem bcell {W w1 : World} (hb : Below W.heap.size W w1) : (∀ b o, b < W.heap.size → w1.cell? ⟨b, o, none⟩ = W.cell? ⟨b, o, none⟩) ∧ (∀ b o, b < W.heap.size → w1.frozen? ⟨b, o, none⟩ = W.frozen? ⟨b, o, none⟩) :=
  ⟨fun b o h => hb.cell (p := ⟨b, o, none⟩) h, fun b o h => hb.frozen (p := ⟨b, o, none⟩) h⟩

theorem bdrewN {B : Nat} {a b : World} (h : Below B a b) (n : Nat) : Below B a (b.drewN n) := by
  unfold World.drewN
  exact ⟨h.os, h.tape, h.output, h.size, h.block⟩
/-- the number of n bytes, the lowest first -/
def leN (f : Nat → Nat) : Nat → Nat
  | 0 => 0
  | k + 1 => leN f k + f k * 256 ^ k
theorem leN_lt (f : Nat → Nat) (hf : ∀ k, f k < 256) : ∀ n, leN f n < 256 ^ n
  | 0 => by simp [leN]
  | n + 1 => by
    have := leN_lt f hf n
    have h2 := hf n
    simp only [leN, Nat.pow_succ]
    have : f n * 256 ^ n ≤ 255 * 256 ^ n := Nat.mul_le_mul_right _ (by omega)
    omega
theorem leN_congr {f g : Nat → Nat} : ∀ n, (∀ k, k < n → f k = g k) → leN f n = leN g n
  | 0, _ => rfl
  | n + 1, h => by simp only [leN]; rw [leN_congr n (fun k hk => h k (by omega)), h n (by omega)]
theorem two_pow8 (k : Nat) : 2 ^ (8 * k) = 256 ^ k := by rw [Nat.pow_mul]
theorem two_pow8i (k : Nat) : (2 : Int) ^ (8 * k) = ((256 ^ k : Nat) : Int) := by rw [← two_pow8]; simp
theorem pow256_le {k m : Nat} (h : k ≤ m) : 256 ^ k ≤ 256 ^ m := Nat.pow_le_pow_right (by decide) h
theorem wrap64_nat (x : Nat) (h : x < 9223372036854775808) : wrap64 (x : Int) = x := by unfold wrap64; omega
theorem or_step (n x k : Nat) (hk : k ≤ 6) (hn : n < 256 ^ k) (hx : x < 256) : bits .or .i64 (n : Int) (wrap64 ((x : Int) * 2 ^ (8 * k))) = ((n + x * 256 ^ k : Nat) : Int) := by
  have hp := pow256_le hk
  have h7 : (256 : Nat) ^ 6 = 281474976710656 := by decide
  have hm : x * 256 ^ k < 72057594037927936 := by
    have : x * 256 ^ k ≤ 255 * 256 ^ k := Nat.mul_le_mul_right _ (by omega)
    omega
  have e1 : (x : Int) * 2 ^ (8 * k) = ((x * 256 ^ k : Nat) : Int) := by rw [two_pow8i]; simp
  rw [e1, wrap64_nat _ (by omega)]
  rw [(bits_nat .i64 63 (by decide) (fun m h0 h1 => by rw [IntKind.wrap_i64]; omega) n (x * 256 ^ k) (by omega) (by omega)).2]
  rw [← two_pow8, Nat.mul_comm x, Nat.or_comm, ← Nat.two_pow_add_eq_or_of_lt (by rw [two_pow8]; exact hn), Nat.add_comm]

/-- the k-th byte of a number -/
def byteN (n k : Nat) : Nat := n / 256 ^ k % 256
theorem byteN_lt (n k : Nat) : byteN n k < 256 := Nat.mod_lt _ (by decide)
theorem leN_byteN (n : Nat) : ∀ k, leN (byteN n) k = n % 256 ^ k
  | 0 => by simp [leN, Nat.mod_one]
  | k + 1 => by
    simp only [leN, leN_byteN n k, byteN]
    rw [Nat.pow_succ, Nat.mod_mul, Nat.mul_comm (256 ^ k)]
/-- the values of n bytes -/
def bytesL (f : Nat → Nat) (n : Nat) : List Value := (List.range n).map fun k => Value.int .u8 ((f k : Nat) : Int)
theorem bytesL_length (f : Nat → Nat) (n : Nat) : (bytesL f n).length = n := by simp [bytesL]
theorem bytesL_snoc (f : Nat → Nat) (n : Nat) : bytesL f (n + 1) = bytesL f n ++ [.int .u8 ((f n : Nat) : Int)] := by simp [bytesL, List.range_succ]
theorem bytesL_get (f : Nat → Nat) (n k : Nat) (h : k < n) : (bytesL f n)[k]? = some (.int .u8 ((f k : Nat) : Int)) := by simp [bytesL, h]
theorem bytesL_congr {f g : Nat → Nat} {n : Nat} (h : ∀ k, k < n → f k = g k) : bytesL f n = bytesL g n := by
  unfold bytesL
  exact List.map_congr_left fun k hk => by rw [h k (by simpa using hk)]
/-- f up to n, then g -/
def catF (n : Nat) (f g : Nat → Nat) : Nat → Nat := fun k => if k < n then f k else g (k - n)
theorem bytesL_append (f g : Nat → Nat) (n m : Nat) : bytesL f n ++ bytesL g m = bytesL (catF n f g) (n + m) := by
  unfold bytesL
  rw [List.range_add, List.map_append, List.map_map]
  congr 1
  · exact List.map_congr_left fun k hk => by have : k < n := by simpa using hk
                                             simp [catF, this]
  · exact List.map_congr_left fun k _ => by have : ¬ n + k < n := by omega
                                            simp [catF, this]
/-- of the blocks that were there only those in s may have changed -/
structure Mods (s : Nat → Prop) (w w' : World) : Prop where
  os : w'.os = w.os
  tape : w'.tape = w.tape
  output : w'.output = w.output
  size : w.heap.size ≤ w'.heap.size
  block : ∀ k, k < w.heap.size → ¬ s k → w'.heap[k]? = w.heap[k]?
theorem Mods.refl (s : Nat → Prop) (w : World) : Mods s w w := ⟨rfl, rfl, rfl, Nat.le_refl _, fun _ _ _ => rfl⟩
theorem Mods.trans {s t : Nat → Prop} {a b c : World} (h : Mods s a b) (k : Mods t b c) (hst : ∀ i, i < a.heap.size → t i → s i) : Mods s a c :=
  ⟨k.os.trans h.os, k.tape.trans h.tape, k.output.trans h.output, Nat.le_trans h.size k.size, fun i hi hn => (k.block i (Nat.lt_of_lt_of_le hi h.size) fun ht => hn (hst i hi ht)).trans (h.block i hi hn)⟩
theorem Mods.mono {s t : Nat → Prop} {a b : World} (h : Mods s a b) (hst : ∀ i, i < a.heap.size → s i → t i) : Mods t a b :=
  ⟨h.os, h.tape, h.output, h.size, fun i hi hn => h.block i hi fun hs => hn (hst i hi hs)⟩
theorem Mods.drew {s : Nat → Prop} {a b : World} (h : Mods s a b) : Mods s a b.drew := ⟨h.os, h.tape, h.output, h.size, h.block⟩
theorem Mods.alloc {s : Nat → Prop} {a b : World} (h : Mods s a b) (o : Obj) : Mods s a (b.alloc o) :=
  h.trans (t := fun _ => False) ⟨rfl, rfl, rfl, by simp, fun k hk _ => Below.heap_alloc _ _ _ hk⟩ fun _ _ f => f.elim
theorem Mods.setCell {s : Nat → Prop} {a b : World} (h : Mods s a b) (p : Addr) (hp : p.block < a.heap.size → s p.block) (u : Value) : Mods s a (b.setCell p u) :=
  h.trans (t := fun k => k = p.block) ⟨rfl, rfl, rfl, by simp [World.setCell], fun k hk hn => Below.heap_setCell _ _ _ _ hn⟩ fun i hi e => by subst e; exact hp hi
theorem Mods.grown {s : Nat → Prop} {a b c : World} {row : Option Nat} (h : Mods s a b) (hg : b.grownBy c row) (hr : ∀ k, row = some k → k < a.heap.size → s k) : Mods s a c :=
  h.trans (t := fun k => row = some k) ⟨hg.os, hg.tape, hg.output, hg.size, fun k hk hn => hg.block k hk fun e => hn e.symm⟩ fun i hi e => hr i e hi
theorem Mods.of_below {a b : World} {B : Nat} (h : Below B a b) : Mods (fun k => B ≤ k) a b := ⟨h.os, h.tape, h.output, h.size, fun k _ hn => h.block k (by omega)⟩
theorem Mods.below {s : Nat → Prop} {a b : World} {B : Nat} (h : Mods s a b) (hs : ∀ k, s k → B ≤ k) (hB : B ≤ a.heap.size) : Below B a b :=
  ⟨h.os, h.tape, h.output, h.size, fun k hk => h.block k (by omega) fun e => by have := hs k e; omega⟩
theorem Mods.cell {s : Nat → Prop} {a b : World} (h : Mods s a b) {g o : Nat} (hg : g < a.heap.size) (hn : ¬ s g) : b.cell? ⟨g, o, none⟩ = a.cell? ⟨g, o, none⟩ :=
  World.cell?_of_block (w := a) (h.block g hg hn)
theorem Mods.trans_below {s : Nat → Prop} {a b c : World} {B : Nat} (h : Mods s a b) (k : Below B b c) (hB : a.heap.size ≤ B) : Mods s a c :=
  h.trans (Mods.of_below k) fun i hi e => by omega

/-- the same slice, or a new one -/
def SameOr (w : World) (v v' : Value) : Prop := v'.ownBlock = v.ownBlock ∨ ∀ g, v'.ownBlock = some g → w.heap.size ≤ g
theorem SameOr.refl (w : World) (v : Value) : SameOr w v v := .inl rfl
theorem SameOr.step {w wr : World} {v v' : Value} {g n cap : Nat} (h : SameOr w v v') (hat : v'.ownBlock = some g ∨ wr.heap.size ≤ g) (hs : w.heap.size ≤ wr.heap.size) : SameOr w v (.slice (some ⟨g, 0, none⟩) n cap) := by
  rcases hat with h1 | h1
  · rcases h with h2 | h2
    · exact .inl (h1.symm.trans h2)
    · exact .inr fun g' e => by cases e; exact h2 g h1
  · exact .inr fun g' e => by cases e; exact Nat.le_trans hs h1
theorem SameOr.mods {s : Nat → Prop} {w wr w1 : World} {v v' : Value} (h : SameOr w v v') (hm : Mods s w wr) (hg : wr.grownBy w1 v'.ownBlock) (hs : ∀ k, v.ownBlock = some k → s k) : Mods s w w1 :=
  hm.grown hg fun k e hk => by
    rcases h with h | h
    · exact hs k (h ▸ e)
    · have := h k e; omega

/-- a slice that append may take: the call's own, or one that is full (so that append makes a new one) -/
def Src (w : World) (base : Nat) (e : TypeId) (size : Nat) (v : Value) (n : Nat) (xs : List Value) : Prop :=
  w.ownsRow base e size v n xs ∨ ∃ b, v = .slice (some b) n n ∧ 0 < n ∧ xs.length = n * size ∧ ∀ j u, xs[j]? = some u → w.cell? (b.add j) = some u
theorem own_mono {w : World} {base base' : Nat} {e : TypeId} {size : Nat} {v : Value} {n : Nat} {xs : List Value} (h : w.ownsRow base e size v n xs) (hb : base' ≤ base) : w.ownsRow base' e size v n xs := by
  obtain ⟨hl, h⟩ := h
  refine ⟨hl, ?_⟩
  rcases h with h | ⟨g, cap, cur, rfl, hbg, r⟩
  · exact .inl h
  · exact .inr ⟨g, cap, cur, rfl, by omega, r⟩
theorem grownBy_any {w w' : World} {row : Option Nat} (h : w.grownBy w' none) : w.grownBy w' row := ⟨h.os, h.tape, h.output, h.size, fun k hk _ => h.block k hk (by simp)⟩

/-- append(s, t...), at least one -/
theorem src_append {P : Program} {ops : Array Oper} {rest : List Oper} {o : Oper} {a : Act} {w : World} {Q : Exit → Act → World → Prop} (hgd : o.guard = none) (s x : Operand) (t : TypeId)
    (ho : o.op = .call { callee := .builtin .append, args := #[s, x], argTypes := #[t, t] })
    (base : Nat) (e : TypeId) (i : TypeInfo) (z : Value) (size bytes : Nat) (ht : P.underlying t = some (.slice e)) (hi : P.info? e = some i) (hz : i.zero = some z)
    (hsize : i.size = size) (hby : i.bytes = bytes) (hzs : z.cells.size = size) (hsz : 0 < size)
    (v : Value) (n : Nat) (xs : List Value) (hs : a.eval s = v) (hown : Src w base e size v n xs)
    (ad : Addr) (m c : Nat) (news : List Value) (hx : a.eval x = .slice (some ad) m c) (hl : news.length = m * size) (hnews : ∀ j u, news[j]? = some u → w.cell? (ad.add j) = some u) (h1 : ∀ u ∈ news, u.oneCell' = true)
    (hm : 0 < m) (h63 : n + m ≤ maxLen) (hbytes : (n + m) * bytes ≤ 140737488355328) (hbase : base ≤ w.heap.size)
    (h : ∀ g cap w', w'.ownsRow base e size (.slice (some ⟨g, 0, none⟩) (n + m) cap) (n + m) (xs ++ news) → w.grownBy w' v.ownBlock → (v.ownBlock = some g ∨ w.heap.size ≤ g) → g < w'.heap.size → wpList P ops Q rest (a.put o.dst (.slice (some ⟨g, 0, none⟩) (n + m) cap)) w') :
    wpList P ops Q (o :: rest) a w := by
  rcases hown with hown | ⟨b, rfl, hn, hxl, hxs⟩
  · exact wpList_append_lies w hgd s x t ho base e i z size bytes ht hi hz hsize hby hzs hsz v n xs hs hown ad m c news hx hl hnews h1 hm h63 hbytes hbase _ rfl fun g cap w' h2 h3 h4 h5 => h g cap w' h2 h3 (h4.imp id fun e => by omega) h5
  · refine wpList_append_grows w hgd s x t ho e i z size bytes ht hi hz hsize hby hzs hsz (some b) n n xs hs (by simp) hxl (fun b' e => by cases e; exact hxs) ad m c news hx hl hnews h1 (by omega) h63 hbytes ?_
    intro v' w' h2 h3
    obtain ⟨g, cap, rfl, hg, hlt⟩ := h2.form (by omega)
    exact h g cap w' (own_mono h2 hbase) (grownBy_any h3) (.inr hg) hlt

/-- append of one new element (its cells lie in the newest block) -/
theorem app_own {P : Program} {ops : Array Oper} {rest : List Oper} {o : Oper} {a : Act} {wr : World} {Q : Exit → Act → World → Prop} (us : List Value) (hgd : o.guard = none) (s x : Operand) (t : TypeId)
    (ho : o.op = .call { callee := .builtin .append, args := #[s, x], argTypes := #[t, t] })
    (base : Nat) (e : TypeId) (i : TypeInfo) (z : Value) (size bytes : Nat) (ht : P.underlying t = some (.slice e)) (hi : P.info? e = some i) (hz : i.zero = some z)
    (hsize : i.size = size) (hby : i.bytes = bytes) (hzs : z.cells.size = size) (hsz : 0 < size)
    (v : Value) (n : Nat) (xs : List Value) (hs : a.eval s = v) (hown : Src wr base e size v n xs)
    (hx : a.eval x = .slice (some ⟨wr.heap.size, 0, none⟩) 1 1) (hl : us.length = size) (h1 : ∀ u ∈ us, u.oneCell' = true)
    (h63 : n + 1 ≤ maxLen) (hbytes : (n + 1) * bytes ≤ 140737488355328) (hbase : base ≤ wr.heap.size)
    (h : ∀ g cap w', w'.ownsRow base e size (.slice (some ⟨g, 0, none⟩) (n + 1) cap) (n + 1) (xs ++ us) → wr.grownBy w' v.ownBlock → (v.ownBlock = some g ∨ wr.heap.size ≤ g) → g < w'.heap.size → wpList P ops Q rest (a.put o.dst (.slice (some ⟨g, 0, none⟩) (n + 1) cap)) w') :
    wpList P ops Q (o :: rest) a (wr.alloc (.cells us.toArray e)) := by
  have hown' : Src (wr.alloc (.cells us.toArray e)) base e size v n xs := by
    rcases hown with hown | ⟨b, rfl, hn, hxl, hxs⟩
    · exact .inl (hown.alloc _)
    · refine .inr ⟨b, rfl, hn, hxl, fun j u hj => ?_⟩
      have h2 := hxs j u hj
      have h3 := World.block_lt_of_cell? wr _ h2
      rw [World.cell?_alloc_lt _ _ _ h3]; exact h2
  refine src_append hgd s x t ho base e i z size bytes ht hi hz hsize hby hzs hsz v n xs hs hown' ⟨wr.heap.size, 0, none⟩ 1 1 us hx (by rw [hl]; omega) ?_ h1 (by omega) h63 hbytes (by simp; omega) ?_
  · intro j u hj
    have : (⟨wr.heap.size, 0, none⟩ : Addr).add j = ⟨wr.heap.size, j, none⟩ := by cases j <;> simp [Addr.add]
    rw [this, World.cell?_alloc_at _ _ _ _ rfl]
    simpa using hj
  · intro g cap w' hown' hg hat hlt
    have hg' : wr.grownBy w' v.ownBlock := ⟨hg.os, hg.tape, hg.output, by have := hg.size; simp at this; omega, fun k hk hne => by
      rw [hg.block k (by simp; omega) hne]; exact Below.heap_alloc _ _ _ hk⟩
    exact h g cap w' hown' hg' (hat.imp id fun e => by simp at e; omega) hlt
theorem own_below_grown {wr w' : World} {base e size n : Nat} {v : Value} {xs : List Value} (h : wr.ownsRow base e size v n xs) (hg : wr.grownBy w' v.ownBlock) (hb : base ≤ wr.heap.size) : Below base wr w' :=
  (Below.refl base wr).grown hg hb fun k hk => (h.lt k hk).1
end Go.Proofs.YtbeabehebenocaaGreatDoor
end

section
/- How a disk is divided, as plain numbers. -/
namespace Go.Proofs.YtbeabehebenocaaGreatDoor

structure Geo where
  gr : Nat
  ino : Nat
  da : Nat
deriving DecidableEq
/-- a geometry that may be -/
structure Geo.Ok (g : Geo) : Prop where
  g1 : 1 ≤ g.gr
  g2 : g.gr ≤ 8
  i1 : 1 ≤ g.ino
  i2 : g.ino ≤ 4
  d1 : 8 ≤ g.da
  d2 : g.da ≤ 1000
def Geo.span (g : Geo) : Nat := 1 + g.ino + g.da
def Geo.total (g : Geo) : Nat := 1 + g.gr * g.span
def Geo.inodes (g : Geo) : Nat := g.gr * g.ino * 16
def Geo.blocks (g : Geo) : Nat := g.gr * g.da
def Geo.head (g : Geo) (k : Nat) : Nat := 1 + k * g.span
/-- is a block a data block? which one -/
def Geo.dOk (g : Geo) (p : Nat) : Bool := decide (1 ≤ p) && (decide (p < g.total) && decide (1 + g.ino ≤ (p - 1) % g.span))
def Geo.dNo (g : Geo) (p : Nat) : Nat := if g.dOk p then (p - 1) / g.span * g.da + ((p - 1) % g.span - 1 - g.ino) else 0
/-- the block that is the n-th data block -/
def Geo.data (g : Geo) (n : Nat) : Nat := g.head (n / g.da) + 1 + g.ino + n % g.da
/-- is there such an inode? its group, its number there, its block, its place there -/
def Geo.iOk (g : Geo) (i : Nat) : Bool := decide (1 ≤ i) && decide (i ≤ g.inodes)
def Geo.iGr (g : Geo) (i : Nat) : Nat := if g.iOk i then (i - 1) / (g.ino * 16) else 0
def Geo.iNo (g : Geo) (i : Nat) : Nat := if g.iOk i then (i - 1) % (g.ino * 16) else 0
def Geo.iBlk (g : Geo) (i : Nat) : Nat := if g.iOk i then g.head (g.iGr i) + 1 + g.iNo i / 16 else 0
def Geo.iOff (g : Geo) (i : Nat) : Nat := if g.iOk i then g.iNo i % 16 * 64 else 0

theorem Geo.Ok.span_le {g : Geo} (h : g.Ok) : g.span ≤ 1005 := by have := h.i2; have := h.d2; unfold Geo.span; omega
theorem Geo.Ok.span_pos {g : Geo} (h : g.Ok) : 10 ≤ g.span := by have := h.i1; have := h.d1; unfold Geo.span; omega
theorem Geo.Ok.total_le {g : Geo} (h : g.Ok) : g.total ≤ 8041 := by
  have : g.gr * g.span ≤ 8 * 1005 := Nat.mul_le_mul h.g2 h.span_le
  unfold Geo.total; omega
theorem Geo.Ok.total_pos {g : Geo} (h : g.Ok) : 11 ≤ g.total := by
  have : 1 * 10 ≤ g.gr * g.span := Nat.mul_le_mul h.g1 h.span_pos
  unfold Geo.total; omega
theorem Geo.Ok.inodes_le {g : Geo} (h : g.Ok) : g.inodes ≤ 512 := by
  have : g.gr * g.ino ≤ 8 * 4 := Nat.mul_le_mul h.g2 h.i2
  unfold Geo.inodes; omega
theorem Geo.Ok.blocks_le {g : Geo} (h : g.Ok) : g.blocks ≤ 8000 := Nat.mul_le_mul h.g2 h.d2
theorem Geo.Ok.head_lt {g : Geo} (h : g.Ok) {k : Nat} (hk : k < g.gr) : g.head k + g.span ≤ g.total := by
  have : (k + 1) * g.span ≤ g.gr * g.span := Nat.mul_le_mul_right _ hk
  rw [Nat.succ_mul] at this
  unfold Geo.head Geo.total; omega
theorem Geo.iOk_iff {g : Geo} {i : Nat} : g.iOk i = true ↔ 1 ≤ i ∧ i ≤ g.inodes := by simp [Geo.iOk]
theorem Geo.iGr_lt {g : Geo} {i : Nat} (h : g.iOk i = true) : g.iGr i < g.gr := by
  have hh := Geo.iOk_iff.1 h
  unfold Geo.iGr; rw [if_pos h]
  apply Nat.div_lt_of_lt_mul
  have : g.ino * 16 * g.gr = g.inodes := by unfold Geo.inodes; rw [Nat.mul_comm, ← Nat.mul_assoc]
  omega
theorem Geo.iNo_lt {g : Geo} {i : Nat} (hg : g.Ok) : g.iNo i < g.ino * 16 := by
  have := hg.i1
  unfold Geo.iNo; split
  · exact Nat.mod_lt _ (by omega)
  · omega
theorem Geo.iBlk_lt {g : Geo} {i : Nat} (hg : g.Ok) (h : g.iOk i = true) : g.iBlk i + 1 + g.da ≤ g.total + 0 ∧ g.iOff i + 64 ≤ 1024 ∧ 2 ≤ g.iBlk i := by
  have h1 := hg.head_lt (Geo.iGr_lt h)
  have h2 : g.iNo i / 16 < g.ino := Nat.div_lt_of_lt_mul (by rw [Nat.mul_comm]; exact Geo.iNo_lt hg)
  unfold Geo.iBlk Geo.iOff; rw [if_pos h, if_pos h]
  have : g.iNo i % 16 < 16 := Nat.mod_lt _ (by decide)
  have h3 : 1 ≤ g.head (g.iGr i) := by unfold Geo.head; omega
  unfold Geo.span at h1
  omega
theorem Geo.dOk_iff {g : Geo} {p : Nat} : g.dOk p = true ↔ 1 ≤ p ∧ p < g.total ∧ 1 + g.ino ≤ (p - 1) % g.span := by simp [Geo.dOk]
end Go.Proofs.YtbeabehebenocaaGreatDoor
end

section
/- Rows of bits. -/
namespace Go.Proofs.YtbeabehebenocaaGreatDoor
open Go.RowKit

/-- is a bit of n bytes 1? -/
def getBit (f : Nat → Nat) (n i : Nat) : Bool := decide (i / 8 < n) && decide (f (i / 8) / 2 ^ (i % 8) % 2 = 1)

theorem and1_u8 (x r : Nat) (hx : x < 256) : bits .and .u8 ((x : Int) / 2 ^ r) 1 = ((x / 2 ^ r % 2 : Nat) : Int) := by
  have e : ((x : Int) / 2 ^ r) = ((x / 2 ^ r : Nat) : Int) := by simp
  have hq : x / 2 ^ r ≤ x := Nat.div_le_self _ _
  rw [e]
  generalize x / 2 ^ r = y at *
  rw [show (1 : Int) = 2 ^ 1 - 1 by decide, bits_mask .u8 8 (by decide) wraps_u8 1 (by decide) _ (by omega) (by omega)]
  omega
theorem and1_ne (x r : Nat) (hx : x < 256) : (bits .and .u8 ((x : Int) / 2 ^ r) 1 != 0) = decide (x / 2 ^ r % 2 = 1) := by
  rw [and1_u8 x r hx]
  by_cases h : x / 2 ^ r % 2 = 1
  · rw [decide_eq_true h, bne_iff_ne]; omega
  · rw [decide_eq_false h, bne_eq_false_iff_eq]; omega
theorem and1_eq (x r : Nat) (hx : x < 256) : (bits .and .u8 ((x : Int) / 2 ^ r) 1 == 1) = decide (x / 2 ^ r % 2 = 1) := by
  rw [and1_u8 x r hx]
  by_cases h : x / 2 ^ r % 2 = 1
  · rw [decide_eq_true h, beq_iff_eq]; omega
  · rw [decide_eq_false h, beq_eq_false_iff_ne]; omega

theorem bget_c (b o n cap i : Nat) (f : Nat → Nat) (w : World) (hf : ∀ k, f k < 256) (h : RdB w b o n f) (hi : i ≤ 100000) :
    Calls Tryz.prog 103 #[.slice (some ⟨b, o, none⟩) n cap, .int .i64 i] w fun e w' => e = .returned (.bool (getBit f n i)) ∧ w = w' := by
  by_cases hlt : i / 8 < n
  · have hc := h _ hlt
    have hlt' : decide ((i : Int) / 8 < (n : Int)) = true := by simp; omega
    have hm : i % 8 < 8 := Nat.mod_lt _ (by decide)
    have hfin : getBit f n i = decide (f (i / 8) / 2 ^ (i % 8) % 2 = 1) := by simp [getBit, hlt]
    rw [← and1_ne (f (i / 8)) (i % 8) (hf _)] at hfin
    have Hfin := Lib.hid hfin; clear hfin
    go_enter Tryz.func103, Tryz.ntmps103
    go_wp2
    go_ret
    exact ⟨by rw [Hfin.out]; rfl, rfl⟩
  · have hlt' : decide ((i : Int) / 8 < (n : Int)) = false := by simp; omega
    have hfin : getBit f n i = false := by simp [getBit, hlt]
    have Hfin := Lib.hid hfin; clear hfin
    go_enter Tryz.func103, Tryz.ntmps103
    go_wp2
    go_ret
    exact ⟨by rw [Hfin.out]; rfl, rfl⟩

theorem rbget_c (b o n cap i : Nat) (f : Nat → Nat) (w : World) (hf : ∀ k, f k < 256) (h : RdB w b o n f) (hi : i ≤ 100000) :
    Calls Tryz.prog 44 #[.slice (some ⟨b, o, none⟩) n cap, .int .i64 i] w fun e w' => e = .returned (.bool (getBit f n i)) ∧ w = w' := by
  by_cases hlt : i / 8 < n
  · have hc := h _ hlt
    have hlt' : decide ((i : Int) / 8 < (n : Int)) = true := by simp; omega
    have hm : i % 8 < 8 := Nat.mod_lt _ (by decide)
    have hfin : getBit f n i = decide (f (i / 8) / 2 ^ (i % 8) % 2 = 1) := by simp [getBit, hlt]
    rw [← and1_eq (f (i / 8)) (i % 8) (hf _)] at hfin
    have Hfin := Lib.hid hfin; clear hfin
    go_enter Tryz.func44, Tryz.ntmps44
    go_wp2
    go_ret
    exact ⟨by rw [Hfin.out]; rfl, rfl⟩
  · have hlt' : decide ((i : Int) / 8 < (n : Int)) = false := by simp; omega
    have hfin : getBit f n i = false := by simp [getBit, hlt]
    have Hfin := Lib.hid hfin; clear hfin
    go_enter Tryz.func44, Tryz.ntmps44
    go_wp2
    go_ret
    exact ⟨by rw [Hfin.out]; rfl, rfl⟩

/-- a bit of a byte set or not -/
def setB (x r : Nat) (on : Bool) : Nat := x - x / 2 ^ r % 2 * 2 ^ r + if on then 2 ^ r else 0
theorem or_u8 : ∀ x : Fin 256, ∀ r : Fin 8, bits .or .u8 (x.val : Int) ((2 ^ r.val : Nat) : Int) = (setB x.val r.val true : Int) := by decide +kernel
theorem andNot_u8 : ∀ x : Fin 256, ∀ r : Fin 8, bits .andNot .u8 (x.val : Int) ((2 ^ r.val : Nat) : Int) = (setB x.val r.val false : Int) := by decide +kernel
theorem setB_lt : ∀ x : Fin 256, ∀ r : Fin 8, ∀ on : Bool, setB x.val r.val on < 256 := by decide +kernel
theorem setB_twice : ∀ x : Fin 256, ∀ r : Fin 8, setB (setB x.val r.val false) r.val true = setB x.val r.val true := by decide +kernel
/-- bytes with a bit set or not -/
def withB (f : Nat → Nat) (i : Nat) (on : Bool) : Nat → Nat := fun k => if k = i / 8 then setB (f k) (i % 8) on else f k
theorem withB_lt {f : Nat → Nat} (hf : ∀ k, f k < 256) (i : Nat) (on : Bool) : ∀ k, withB f i on k < 256 := fun k => by
  unfold withB; split
  · exact setB_lt ⟨f k, hf k⟩ ⟨i % 8, Nat.mod_lt _ (by decide)⟩ on
  · exact hf k
/-- the first i bits of n bytes, the others 0 -/
def rowB (f : Nat → Nat) (n : Nat) : Nat → Nat → Nat
  | 0 => fun _ => 0
  | i + 1 => fun k => if k = i / 8 ∧ getBit f n i = true then rowB f n i k + 2 ^ (i % 8) else rowB f n i k
theorem rowB_lt (f : Nat → Nat) (n : Nat) : ∀ i k, rowB f n i k < 2 ^ min 8 (i - 8 * k)
  | 0, k => by simp [rowB]
  | i + 1, k => by
    have ih := rowB_lt f n i k
    simp only [rowB]
    split
    · rename_i h
      have hk : i - 8 * k = i % 8 := by omega
      have hm : i % 8 < 8 := Nat.mod_lt _ (by decide)
      rw [hk, Nat.min_eq_right (by omega)] at ih
      rw [show i + 1 - 8 * k = i % 8 + 1 by omega, Nat.min_eq_right (by omega), Nat.pow_succ]
      omega
    · exact Nat.lt_of_lt_of_le ih (Nat.pow_le_pow_right (by decide) (by omega))
theorem rowB_byte (f : Nat → Nat) (n i k : Nat) : rowB f n i k < 256 :=
  Nat.lt_of_lt_of_le (rowB_lt f n i k) (show 2 ^ min 8 (i - 8 * k) ≤ 2 ^ 8 from Nat.pow_le_pow_right (by decide) (by omega))
theorem setB_zero {x r : Nat} (h : x < 2 ^ r) (on : Bool) : setB x r on = x + if on then 2 ^ r else 0 := by
  unfold setB; rw [Nat.div_eq_of_lt h]; simp
theorem rowB_with (f : Nat → Nat) (n i k : Nat) : withB (rowB f n i) i (getBit f n i) k = rowB f n (i + 1) k := by
  unfold withB
  simp only [rowB]
  by_cases hk : k = i / 8
  · have hl := rowB_lt f n i k
    rw [show i - 8 * k = i % 8 by omega, Nat.min_eq_right (Nat.le_of_lt (Nat.mod_lt _ (by decide)))] at hl
    rw [if_pos hk, setB_zero hl]
    cases getBit f n i <;> simp [hk]
  · simp [hk]
end Go.Proofs.YtbeabehebenocaaGreatDoor
end

section
/- Blocks of memory that are known whole. -/
namespace Go.Proofs.YtbeabehebenocaaGreatDoor
open Go.RowKit

/-- block B holds just these cells, none of them shared with a string -/
def Blk (e : TypeId) (w : World) (B : Nat) (xs : List Value) : Prop := w.heap[B]? = some (.cells xs.toArray e (0, 0))
theorem Blk.lt {e : TypeId} {w : World} {B : Nat} {xs : List Value} (h : Blk e w B xs) : B < w.heap.size := by
  unfold Blk at h; exact (Array.getElem?_eq_some_iff.1 h).1
theorem Blk.cell {e : TypeId} {w : World} {B : Nat} {xs : List Value} (h : Blk e w B xs) (i : Nat) : w.cell? ⟨B, i, none⟩ = xs[i]? := by
  rw [cell_of_row w B i xs.toArray e (0, 0) h]; simp
theorem Blk.frozen {e : TypeId} {w : World} {B : Nat} {xs : List Value} (h : Blk e w B xs) (i : Nat) : w.frozen? ⟨B, i, none⟩ = false := frozen_of_row w B i xs.toArray e h
theorem Blk.set {e : TypeId} {w : World} {B : Nat} {xs : List Value} (h : Blk e w B xs) (i : Nat) (v : Value) : Blk e (w.setCell ⟨B, i, none⟩ v) B (xs.set i v) := by
  unfold Blk at h ⊢
  rw [heap_setCell_same w B i xs.toArray e v h]; simp
theorem Blk.other {e : TypeId} {w : World} {B : Nat} {xs : List Value} (h : Blk e w B xs) (p : Addr) (v : Value) (hp : p.block ≠ B) : Blk e (w.setCell p v) B xs := by
  unfold Blk at h ⊢
  rw [Below.heap_setCell _ _ _ _ (fun e => hp e.symm)]; exact h
theorem Blk.alloc {e : TypeId} {w : World} {B : Nat} {xs : List Value} (h : Blk e w B xs) (o : Obj) : Blk e (w.alloc o) B xs := by
  have := h.lt
  unfold Blk at h ⊢
  rw [Below.heap_alloc _ _ _ this]; exact h
theorem Blk.new {e : TypeId} (w : World) (xs : List Value) : Blk e (w.alloc (.cells xs.toArray e)) w.heap.size xs := heap_alloc_new w _
theorem Blk.mods {e : TypeId} {s : Nat → Prop} {w w' : World} {B : Nat} {xs : List Value} (h : Blk e w B xs) (hm : Mods s w w') (hs : ¬ s B) : Blk e w' B xs := by
  have hl := h.lt
  unfold Blk at h ⊢
  rw [hm.block B hl hs]; exact h
theorem Blk.below {e : TypeId} {C : Nat} {w w' : World} {B : Nat} {xs : List Value} (h : Blk e w B xs) (hm : Below C w w') (hs : B < C) : Blk e w' B xs := by
  unfold Blk at h ⊢
  rw [hm.block B hs]; exact h
theorem Blk.drew {e : TypeId} {w : World} {B : Nat} {xs : List Value} (h : Blk e w B xs) : Blk e w.drew B xs := h
theorem Blk.newL {e : TypeId} {w : World} (xs : List Value) : Blk e (w.alloc (.cells xs.toArray e)) w.heap.size xs := heap_alloc_new w _
theorem Blk.snd {e : TypeId} {w : World} (o : Obj) (xs : List Value) : Blk e ((w.alloc o).alloc (.cells xs.toArray e)) (w.heap.size + 1) xs := by
  have := Blk.newL (e := e) (w := w.alloc o) xs
  rwa [World.size_alloc] at this
theorem Blk.fst {e : TypeId} {w : World} (o : Obj) (xs : List Value) : Blk e ((w.alloc (.cells xs.toArray e)).alloc o) w.heap.size xs := (Blk.newL xs).alloc o
/-- what is owned to its end is a block that is known whole -/
theorem Blk.of_own {e : TypeId} {w : World} {base g n : Nat} {xs : List Value} (h : w.ownsRow base e 1 (.slice (some ⟨g, 0, none⟩) n n) n xs) : Blk e w g xs ∧ base ≤ g := by
  obtain ⟨hl, h⟩ := h
  rcases h with ⟨h, _⟩ | ⟨g', cap, cur, hv, hb, hg, hn, _, hs, ht⟩
  · cases h
  · cases hv
    refine ⟨?_, hb⟩
    unfold Blk
    rw [hg, ← ht, List.take_of_length_le (by simp; omega)]
theorem Blk.own {e : TypeId} {w : World} {base g n : Nat} {xs : List Value} (h : Blk e w g xs) (hb : base ≤ g) (hn : xs.length = n) (hm : n ≤ maxLen) : w.ownsRow base e 1 (.slice (some ⟨g, 0, none⟩) n n) n xs :=
  ⟨by omega, .inr ⟨g, n, xs.toArray, rfl, hb, h, Nat.le_refl _, hm, by simp; omega, by rw [List.take_of_length_le (by simp; omega)]⟩⟩

theorem bytesL_set (f : Nat → Nat) (n i x : Nat) (hi : i < n) : (bytesL f n).set i (.int .u8 (x : Int)) = bytesL (fun k => if k = i then x else f k) n := by
  apply List.ext_getElem?
  intro k
  by_cases hk : k < n
  · rw [bytesL_get _ _ _ hk]
    by_cases e : i = k
    · subst e; rw [List.getElem?_set_self (by rw [bytesL_length]; exact hk)]; simp
    · rw [List.getElem?_set_ne e, bytesL_get _ _ _ hk]; simp [Ne.symm e]
  · rw [List.getElem?_eq_none (by simp [bytesL_length]; omega), List.getElem?_eq_none (by simp [bytesL_length]; omega)]
theorem BlkB_rd {e : TypeId} {w : World} {B n : Nat} {f : Nat → Nat} (h : Blk e w B (bytesL f n)) : RdB w B 0 n f := fun k hk => by
  rw [Nat.zero_add, h.cell, bytesL_get _ _ _ hk]
theorem own_rd {e : TypeId} {w : World} {base n : Nat} {v : Value} {f : Nat → Nat} (h : w.ownsRow base e 1 v n (bytesL f n)) (hn : 0 < n) :
    ∃ g cap, v = .slice (some ⟨g, 0, none⟩) n cap ∧ base ≤ g ∧ n ≤ cap ∧ cap ≤ maxLen ∧ RdB w g 0 n f := by
  obtain ⟨hl, h⟩ := h
  rcases h with ⟨_, h⟩ | ⟨g, cap, cur, rfl, hb, hg, hc, hm, hs, ht⟩
  · omega
  · refine ⟨g, cap, rfl, hb, hc, hm, fun k hk => ?_⟩
    rw [Nat.zero_add, cell_of_row w g k cur e (0, 0) hg]
    have h1 := bytesL_get f n k hk
    rw [← ht, List.getElem?_take_of_lt (by omega)] at h1
    simpa using h1
theorem madeCells_one (z : Value) (hz : z.cells = #[z]) (n : Nat) : (madeCells z.cells (n * 1)).toList = List.replicate n z := by
  apply List.ext_getElem?
  intro k
  by_cases hk : k < n
  · simp [madeCells, hz, List.getElem?_replicate, hk, Nat.mod_one]
  · rw [List.getElem?_eq_none (by simp [madeCells]; omega), List.getElem?_eq_none (by simp; omega)]
theorem zeros_bytes (n : Nat) : List.replicate n (Value.int .u8 0) = bytesL (fun _ => 0) n := by
  apply List.ext_getElem?
  intro k
  by_cases hk : k < n
  · rw [bytesL_get _ _ _ hk]; simp [hk]
  · rw [List.getElem?_eq_none (by simp; omega), List.getElem?_eq_none (by simp [bytesL_length]; omega)]

/-- make([]T, n) of scalars -/
theorem mk_one {P : Program} (w : World) {ops : Array Oper} {rest : List Oper} {o : Oper} {a : Act} {Q : Exit → Act → World → Prop}
    (hg : o.guard = none) (l c : Operand) (t : TypeId) (hop : o.op = Op.makeSlice t l c)
    (e : TypeId) (i : TypeInfo) (z : Value) (by_ : Nat) (h1 : P.underlying t = some (.slice e)) (h2 : P.info? e = some i) (h3 : i.zero = some z) (h4 : i.size = 1) (h5 : i.bytes = by_) (hz : z.cells = #[z])
    (kl kc : IntKind) (L C : Int) (n : Nat) (hl : a.eval l = .int kl L) (hc : a.eval c = .int kc C) (hL : L = (n : Int)) (hC : C = (n : Int)) (b2 : by_ * n ≤ 281474976710656) (b3 : n ≤ maxLen)
    (hK : ∀ w', Blk e w' w.heap.size (List.replicate n z) → w.grownBy w' none → wpList P ops Q rest (a.put o.dst (.slice (some ⟨w.heap.size, 0, none⟩) n n)) w') :
    wpList P ops Q (o :: rest) a w := by
  refine wpList_make_full w hg l c t hop w.heap.size e i z 1 h1 h2 h3 h4 kl kc L C n hl hc hL hC (by rw [h5]; exact b2) b3 (Nat.le_refl _) fun w' ho hgr => hK w' ?_ hgr
  rw [madeCells_one z hz] at ho
  exact (Blk.of_own ho).1
end Go.Proofs.YtbeabehebenocaaGreatDoor
end

section
/- What the small functions on numbers and bytes compute. -/
namespace Go.Proofs.YtbeabehebenocaaGreatDoor
open Go.RowKit

theorem get_c (b o n cap : Nat) (f : Nat → Nat) (w : World) (hf : ∀ k, f k < 256) (hn : n ≤ 7) (h : RdB w b o n f) :
   Calls Tryz.prog 104 #[.slice (some ⟨b,o,none⟩) n cap] w fun e w' => e = .returned (.int .i64 (leN f n)) ∧ w = w' := by
  go_enter Tryz.func104, Tryz.ntmps104
  go_wp2
  go_loop [3, 4, 5, 8] (fun t _ _ i => ∃ k : Nat, k ≤ n ∧ i = .int .i64 k ∧ t = .int .i64 (leN f k)) (fun _ _ _ i => n - (intOf i).toNat)
  case atStart => exact ⟨0, Nat.zero_le _, rfl, rfl⟩
  case round =>
    obtain ⟨k, hk, rfl, rfl⟩ := hrel
    by_cases hlt : k < n
    · have hc := h k hlt
      have hb := hf k
      go_wp2
      go_round
      case rel => exact ⟨k + 1, by omega, by go_num, by rw [or_step _ _ _ (by omega) (leN_lt f hf k) hb]; rfl⟩
      case measure => simp [intOf]; omega
    · obtain rfl : k = n := by omega
      go_wp2
      go_ret
      exact ⟨rfl, rfl⟩

theorem value_c (b o n cap : Nat) (f : Nat → Nat) (w : World) (hf : ∀ k, f k < 256) (hn : n ≤ 7) (h : RdB w b o n f) :
   Calls Tryz.prog 66 #[.slice (some ⟨b,o,none⟩) n cap] w fun e w' => e = .returned (.int .i64 (leN f n)) ∧ w = w' := by
  go_enter Tryz.func66, Tryz.ntmps66
  go_wp2
  go_loop [3, 4, 5, 8] (fun t _ _ i => ∃ k : Nat, k ≤ n ∧ i = .int .i64 k ∧ t = .int .i64 (leN f k)) (fun _ _ _ i => n - (intOf i).toNat)
  case atStart => exact ⟨0, Nat.zero_le _, rfl, rfl⟩
  case round =>
    obtain ⟨k, hk, rfl, rfl⟩ := hrel
    by_cases hlt : k < n
    · have hc := h k hlt
      have hb := hf k
      go_wp2
      go_round
      case rel => exact ⟨k + 1, by omega, by go_num, by rw [or_step _ _ _ (by omega) (leN_lt f hf k) hb]; rfl⟩
      case measure => simp [intOf]; omega
    · obtain rfl : k = n := by omega
      go_wp2
      go_ret
      exact ⟨rfl, rfl⟩

theorem info8 : (Tryz.prog.info? 5).map (fun i => (i.zero, i.size, i.bytes)) = some (some (.int .u8 0), 1, 1) := by kernel_rfl

theorem shr_byte (n k : Nat) : ((n : Int) / 2 ^ (8 * k)) = ((n / 256 ^ k : Nat) : Int) := by rw [two_pow8i]; simp
theorem byte_eq (n k : Nat) : ((n : Int) / 2 ^ (8 * k) % 256) = ((byteN n k : Nat) : Int) := by rw [shr_byte]; simp [byteN]

theorem put_c (n width : Nat) (w : World) (hw : width ≤ 8) :
   Calls Tryz.prog 102 #[.int .i64 n, .int .i64 width] w fun e w' => ∃ v, e = .returned v ∧ w'.ownsRow w.heap.size 5 1 v width (bytesL (byteN n) width) ∧ Below w.heap.size w w' := by
  obtain ⟨i0, hi, hz0, hz1, hz2⟩ := info_parts info8
  go_enter Tryz.func102, Tryz.ntmps102
  go_wp2
  go_loopw [5, 6, 8] (fun v _ i wr => ∃ k : Nat, k ≤ width ∧ i = .int .i64 k ∧ wr.ownsRow w.heap.size 5 1 v k (bytesL (byteN n) k) ∧ Below w.heap.size w wr) (fun _ _ i _ => width - (intOf i).toNat)
  case atStart => exact ⟨0, Nat.zero_le _, rfl, World.ownsRow_nil _ _ _ _, Below.refl _ _⟩
  case round =>
    obtain ⟨k, hk, rfl, hown, hB⟩ := hrel
    by_cases hlt : k < width
    · go_wp2_with (at_builtin; refine app_own [_] rfl _ _ 25 rfl w.heap.size 5 i0 (.int .u8 0) 1 1 Tryz.underlying25 hi hz0 hz1 hz2 rfl (by decide) _ _ _ rfl (by exact .inl hown) rfl rfl (by simp [Value.oneCell']) (by unfold maxLen; omega) (by omega) hB.size ?_; intro g cap w1 hown1 hgrow hat hlt1)
      go_roundw
      case rel => exact ⟨k + 1, by omega, by go_num, by rw [bytesL_snoc, ← byte_eq]; exact hown1, hB.trans (own_below_grown hown hgrow hB.size)⟩
      case measure => simp [intOf]; omega
    · obtain rfl : k = width := by omega
      go_wp2
      go_ret
      exact ⟨_, rfl, hown, hB⟩

theorem number_c (n width : Nat) (w : World) (hw : width ≤ 8) :
   Calls Tryz.prog 85 #[.int .i64 n, .int .i64 width] w fun e w' => ∃ v, e = .returned v ∧ w'.ownsRow w.heap.size 5 1 v width (bytesL (byteN n) width) ∧ Below w.heap.size w w' := by
  obtain ⟨i0, hi, hz0, hz1, hz2⟩ := info_parts info8
  go_enter Tryz.func85, Tryz.ntmps85
  go_wp2
  go_loopw [5, 6, 8] (fun v _ i wr => ∃ k : Nat, k ≤ width ∧ i = .int .i64 k ∧ wr.ownsRow w.heap.size 5 1 v k (bytesL (byteN n) k) ∧ Below w.heap.size w wr) (fun _ _ i _ => width - (intOf i).toNat)
  case atStart => exact ⟨0, Nat.zero_le _, rfl, World.ownsRow_nil _ _ _ _, Below.refl _ _⟩
  case round =>
    obtain ⟨k, hk, rfl, hown, hB⟩ := hrel
    by_cases hlt : k < width
    · go_wp2_with (at_builtin; refine app_own [_] rfl _ _ 25 rfl w.heap.size 5 i0 (.int .u8 0) 1 1 Tryz.underlying25 hi hz0 hz1 hz2 rfl (by decide) _ _ _ rfl (by exact .inl hown) rfl rfl (by simp [Value.oneCell']) (by unfold maxLen; omega) (by omega) hB.size ?_; intro g cap w1 hown1 hgrow hat hlt1)
      go_roundw
      case rel => exact ⟨k + 1, by omega, by go_num, by rw [bytesL_snoc, ← byte_eq]; exact hown1, hB.trans (own_below_grown hown hgrow hB.size)⟩
      case measure => simp [intOf]; omega
    · obtain rfl : k = width := by omega
      go_wp2
      go_ret
      exact ⟨_, rfl, hown, hB⟩

theorem byte_eq2 (n k : Nat) (h : n < 4294967296) : (bits .and .i64 ((n : Int) / 2 ^ (8 * k)) 255 % 256) = ((byteN n k : Nat) : Int) := by
  rw [shr_byte]
  unfold byteN
  generalize hq : n / 256 ^ k = q
  have h3 : q < 4294967296 := by rw [← hq]; exact Nat.lt_of_le_of_lt (Nat.div_le_self _ _) h
  rw [show (255 : Int) = 2 ^ 8 - 1 by decide, bits_mask .i64 63 (by decide) (fun m h0 h1 => by rw [IntKind.wrap_i64]; omega) 8 (by decide) _ (by omega) (by omega)]
  omega

theorem rput_c (base n0 n width : Nat) (v : Value) (xs : List Value) (w : World) (hw : width ≤ 8) (hn : n < 4294967296) (hn0 : n0 ≤ 1000000) (hbase : base ≤ w.heap.size) (hown0 : Src w base 5 1 v n0 xs) :
   Calls Tryz.prog 24 #[v, .int .i64 n, .int .i64 width] w fun e w' => ∃ v', e = .returned v' ∧ Src w' base 5 1 v' (n0 + width) (xs ++ bytesL (byteN n) width) ∧ (0 < width → w'.ownsRow base 5 1 v' (n0 + width) (xs ++ bytesL (byteN n) width)) ∧ SameOr w v v' ∧ Mods (fun k => v.ownBlock = some k) w w' := by
  obtain ⟨i0, hi, hz0, hz1, hz2⟩ := info_parts info8
  go_enter Tryz.func24, Tryz.ntmps24
  go_wp2
  go_loopw [0, 7] (fun v' i wr => ∃ k : Nat, k ≤ width ∧ i = .int .i64 k ∧ Src wr base 5 1 v' (n0 + k) (xs ++ bytesL (byteN n) k) ∧ (0 < k → wr.ownsRow base 5 1 v' (n0 + k) (xs ++ bytesL (byteN n) k)) ∧ SameOr w v v' ∧ Mods (fun k => v.ownBlock = some k) w wr) (fun _ i _ => width - (intOf i).toNat)
  case atStart => exact ⟨0, Nat.zero_le _, rfl, by simpa [bytesL] using hown0, fun h => by omega, .inl rfl, Mods.refl _ _⟩
  case round =>
    obtain ⟨k, hk, rfl, hown, hown2, hS, hB⟩ := hrel
    by_cases hlt : k < width
    · have hsz := hB.size
      go_wp2_with (at_builtin; refine app_own [_] rfl _ _ 25 rfl base 5 i0 (.int .u8 0) 1 1 Tryz.underlying25 hi hz0 hz1 hz2 rfl (by decide) _ _ _ rfl (by exact hown) rfl rfl (by simp [Value.oneCell']) (by unfold maxLen; omega) (by omega) (by omega) ?_; intro g cap w1 hown1 hgrow hat hlt1)
      go_roundw
      case rel =>
        have hown3 : w1.ownsRow base 5 1 (.slice (some ⟨g, 0, none⟩) (n0 + k + 1) cap) (n0 + k + 1) (xs ++ bytesL (byteN n) (k + 1)) := by rw [bytesL_snoc, ← byte_eq2 n k hn, ← List.append_assoc]; exact hown1
        exact ⟨k + 1, by omega, by go_num, .inl hown3, fun _ => hown3, hS.step hat hsz, hS.mods hB hgrow fun k e => e⟩
      case measure => simp [intOf]; omega
    · obtain rfl : k = width := by omega
      go_wp2
      go_ret
      exact ⟨_, rfl, hown, hown2, hS, hB⟩
end Go.Proofs.YtbeabehebenocaaGreatDoor
end

section
/- Rows of bits, made. -/
namespace Go.Proofs.YtbeabehebenocaaGreatDoor
open Go.RowKit

theorem Below.mods {s : Nat → Prop} {a b c : World} {B : Nat} (h : Below B a b) (k : Mods s b c) (hs : ∀ i, i < B → ¬ s i) (hB : B ≤ b.heap.size) : Below B a c :=
  h.trans ⟨k.os, k.tape, k.output, k.size, fun i hi => k.block i (by omega) (hs i hi)⟩

theorem pow_mod (i : Nat) : ((2 : Int) ^ (i % 8) % 256) = ((2 ^ (i % 8) : Nat) : Int) := by
  have : 2 ^ (i % 8) < 256 := show _ < 2 ^ 8 from Nat.pow_lt_pow_right (by decide) (Nat.mod_lt _ (by decide))
  have e : ((2 : Int) ^ (i % 8)) = ((2 ^ (i % 8) : Nat) : Int) := by simp
  rw [e]; generalize 2 ^ (i % 8) = y at *; omega
theorem or_byte (x i : Nat) (hx : x < 256) : bits .or .u8 (x : Int) (2 ^ (i % 8) % 256) = (setB x (i % 8) true : Int) := by
  rw [pow_mod]; exact or_u8 ⟨x, hx⟩ ⟨i % 8, Nat.mod_lt _ (by decide)⟩
theorem andNot_byte (x i : Nat) (hx : x < 256) : bits .andNot .u8 (x : Int) (2 ^ (i % 8) % 256) = (setB x (i % 8) false : Int) := by
  rw [pow_mod]; exact andNot_u8 ⟨x, hx⟩ ⟨i % 8, Nat.mod_lt _ (by decide)⟩

theorem row_c (B o m cap n size : Nat) (f : Nat → Nat) (w : World) (hf : ∀ k, f k < 256) (h : RdB w B o m f) (hm : 0 < m) (hn : n ≤ 8 * size) (hs : size ≤ 1000) :
    Calls Tryz.prog 86 #[.slice (some ⟨B, o, none⟩) m cap, .int .i64 n, .int .i64 size] w fun e w' => ∃ g, e = .returned (.slice (some ⟨g, 0, none⟩) size size) ∧ w.heap.size ≤ g ∧ Blk 5 w' g (bytesL (rowB f m n) size) ∧ Below w.heap.size w w' := by
  obtain ⟨i0, hi, hz0, hz1, hz2⟩ := info_parts info8
  have hBlt := lt_of_cell (h 0 hm)
  go_enter Tryz.func86, Tryz.ntmps86
  go_wp2_with (at_make; refine mk_one _ rfl _ _ 25 rfl 5 i0 (.int .u8 0) 1 Tryz.underlying25 hi hz0 hz1 hz2 rfl _ _ _ _ size rfl rfl rfl rfl (by omega) (by unfold maxLen; omega) ?_; intro w1 hblk hgr)
  have hB1 : Below w.heap.size w w1 := (Below.refl _ _).grown hgr (Nat.le_refl _) (fun k e => by cases e)
  rw [zeros_bytes] at hblk
  go_loopw [8, 12] (fun _ i wr => ∃ k : Nat, k ≤ n ∧ i = .int .i64 k ∧ Blk 5 wr w.heap.size (bytesL (rowB f m k) size) ∧ Below w.heap.size w wr) (fun _ i _ => n - (intOf i).toNat)
  case atStart => exact ⟨0, Nat.zero_le _, rfl, hblk, hB1⟩
  case round =>
    obtain ⟨k, hk, rfl, hblk, hB⟩ := hrel
    by_cases hlt : k < n
    · have hR := h.below hB
      have hq : k / 8 < size := by omega
      have hw := rowB_with f m k
      cases hg : getBit f m k with
      | false =>
        have hcall := bget_c B o m cap k f wr hf hR (by omega)
        rw [hg] at hcall
        have HC := Lib.hid hcall; clear hcall
        go_wp2_with (go_at_call 103; refine HC.out.mono ?_; rintro e w2 ⟨rfl, rfl⟩)
        go_roundw
        case rel => exact ⟨k + 1, by omega, by go_num, by rw [show rowB f m (k + 1) = rowB f m k from funext fun j => by simp [rowB, hg]]; exact hblk, hB⟩
        case measure => simp [intOf]; omega
      | true =>
        have hcall := bget_c B o m cap k f wr hf hR (by omega)
        rw [hg] at hcall
        have HC := Lib.hid hcall; clear hcall
        have hc := hblk.cell (k / 8)
        rw [bytesL_get _ _ _ hq] at hc
        have hfz := hblk.frozen (k / 8)
        go_wp2_with (go_at_call 103; refine HC.out.mono ?_; rintro e w2 ⟨rfl, rfl⟩)
        go_region
        go_wp2
        go_roundw
        case rel =>
          refine ⟨k + 1, by omega, by go_num, ?_, ?_⟩
          · rw [or_byte _ _ (rowB_byte _ _ _ _)]
            have h2 := hblk.set (k / 8) (.int .u8 ((setB (rowB f m k (k / 8)) (k % 8) true : Nat) : Int))
            rw [bytesL_set _ _ _ _ hq] at h2
            rw [show bytesL (rowB f m (k + 1)) size = bytesL (fun j => if j = k / 8 then setB (rowB f m k (k / 8)) (k % 8) true else rowB f m k j) size from bytesL_congr fun j _ => by rw [← hw j, hg]; unfold withB; by_cases e : j = k / 8 <;> simp [e]]
            exact h2.drew
          · exact (hB.setCell (p := ⟨w.heap.size, k / 8, none⟩) (Nat.le_refl _) _).drew
        case measure => simp [intOf]; omega
    · obtain rfl : k = n := by omega
      go_wp2
      go_ret
      exact ⟨_, rfl, Nat.le_refl _, hblk, hB⟩
end Go.Proofs.YtbeabehebenocaaGreatDoor
end

section
/- append(b, make([]T, n)...) onto a slice that the call owns, for scalars. -/
namespace Go.Proofs.YtbeabehebenocaaGreatDoor
open Go.RowKit
section
variable {P : Program} (w : World)

theorem zeroCells_one (z : Value) (hz : z.cells = #[z]) (n : Nat) : Builtin.zeroCells z.cells n = (List.replicate n z).toArray := by
  apply Array.ext'
  apply List.ext_getElem?
  intro k
  by_cases hk : k < n
  · simp [Builtin.zeroCells, hz, List.getElem?_replicate, hk, Nat.mod_one]
  · rw [List.getElem?_eq_none (by simp [Builtin.zeroCells, hz]; omega), List.getElem?_eq_none (by simp; omega)]

theorem run_append_zeros_room (t tn ty e : TypeId) (i : TypeInfo) (z : Value) (kn k : IntKind) (ht : P.underlying t = some (.slice e)) (htn : P.underlying tn = some (.int kn)) (hi : P.info? e = some i) (hz : i.zero = some z) (hs1 : i.size = 1) (hzc : z.cells = #[z]) (h1 : z.oneCell' = true)
    (g sLen sCap : Nat) (cur : Array Value) (hg : w.heap[g]? = some (.cells cur e (0, 0)))
    (m : Nat) (hm : m ≤ 1000000000) (hb48 : m * i.bytes ≤ 281474976710656) (hroom : sLen + m ≤ sCap) (hfit : sLen + m ≤ cur.size) :
    (Builtin.append_ #[t, tn] ty #[.slice (some ⟨g, 0, none⟩) sLen sCap, .int k m]).run P w =
      .ok (.slice (some ⟨g, 0, none⟩) (sLen + m) sCap) (w.setRow g (cur.toList.take sLen ++ List.replicate m z ++ cur.toList.drop (sLen + m)).toArray) := by
  have hw : IntKind.i64.wrap (m : Int) = m := wrap_nat _ (by omega)
  have hneg : ¬ ((m : Int) < 0) := by omega
  have h48i : ¬ (281474976710656 < (m : Int) * (i.bytes : Int)) := by rw [← Int.natCast_mul]; omega
  have hst := run_storeCells_at P g sLen e (List.replicate m z) 0 cur w hg (by simpa using hfit) (by intro v hv; rw [List.eq_of_mem_replicate hv]; exact h1)
  simp only [Nat.add_zero, List.length_replicate] at hst
  by_cases hm0 : m = 0
  · subst hm0
    have hw0 : IntKind.i64.wrap 0 = 0 := by decide
    have hr0 : sLen ≤ sCap := by omega
    simp [hw0, hr0, Builtin.append_, run_underlying ht, run_underlying htn, sizeOf, typeInfo, hi, hs1, asInt, asIntOf, hw, hneg, h48i, hroom, Addr.add_lit, List.replicate] at hst ⊢
    simp [hst]
  · simp [Builtin.append_, run_underlying ht, run_underlying htn, sizeOf, typeInfo, zeroValue, hi, hz, hs1, asInt, asIntOf, hw, hneg, h48i, hm0, hroom, zeroCells_one z hzc, Addr.add_lit, hst]

theorem run_append_zeros_grow (t tn ty e : TypeId) (i : TypeInfo) (z : Value) (kn k : IntKind) (ht : P.underlying t = some (.slice e)) (htn : P.underlying tn = some (.int kn)) (hi : P.info? e = some i) (hz : i.zero = some z) (hs1 : i.size = 1) (hzc : z.cells = #[z])
    (b : Addr) (sLen sCap : Nat) (olds : List Value) (hlo : olds.length = sLen * i.size) (holds : ∀ j v, olds[j]? = some v → w.cell? (b.add j) = some v)
    (m : Nat) (hpos : 0 < m) (hm : m ≤ 1000000000) (hb48 : m * i.bytes ≤ 281474976710656) (hg : sCap < sLen + m) (h63 : ((sLen + m : Nat) : Int) ≤ 9223372036854775807) (hfit : Builtin.nextslicecap (sLen + m) sCap * i.bytes ≤ 281474976710656) :
    (Builtin.append_ #[t, tn] ty #[.slice (some b) sLen sCap, .int k m]).run P w =
      .ok (.slice (some ⟨w.heap.size, 0, none⟩) (sLen + m) (grownCap w (sLen + m) sCap e))
        (w.drew.alloc (.cells (olds.toArray ++ (List.replicate m z).toArray ++ Builtin.zeroCells z.cells (grownCap w (sLen + m) sCap e - (sLen + m))) e)) := by
  have hw : IntKind.i64.wrap (m : Int) = m := wrap_nat _ (by omega)
  have hneg : ¬ ((m : Int) < 0) := by omega
  have h48i : ¬ (281474976710656 < (m : Int) * (i.bytes : Int)) := by rw [← Int.natCast_mul]; omega
  have hn : ¬ (sLen + m ≤ sCap) := by omega
  have h63' : ¬ (9223372036854775807 < ((sLen : Int) + (m : Int))) := by omega
  have h48' : ¬ (281474976710656 < Builtin.nextslicecap (sLen + m) sCap * i.bytes) := by omega
  have hfo := run_firstCells_some (P := P) w.drew i.size sLen b sLen sCap olds hlo (by simpa using holds)
  have hm0 : m ≠ 0 := by omega
  simp [Builtin.append_, run_underlying ht, run_underlying htn, sizeOf, typeInfo, zeroValue, hi, hz, hs1, asInt, asIntOf, hw, hneg, h48i, hm0, hn, h63', h48', Question.forced, zeroCells_one z hzc, newRow, grownCap] at hfo ⊢
  simp [hfo]

theorem run_append_zeros_own (base : Nat) (t tn ty e : TypeId) (i : TypeInfo) (z : Value) (bytes : Nat) (kn k : IntKind) (ht : P.underlying t = some (.slice e)) (htn : P.underlying tn = some (.int kn)) (hi : P.info? e = some i) (hz : i.zero = some z)
    (hsize : i.size = 1) (hby : i.bytes = bytes) (hzc : z.cells = #[z]) (h1 : z.oneCell' = true)
    (v : Value) (n : Nat) (xs : List Value) (hown : w.ownsRow base e 1 v n xs) (hn : 0 < n)
    (m : Nat) (hm : m ≤ 1000000000) (h63 : n + m ≤ maxLen) (hbytes : (n + m) * bytes ≤ 140737488355328) (hbase : base ≤ w.heap.size) :
    ∃ g cap w', (Builtin.append_ #[t, tn] ty #[v, .int k m]).run P w = .ok (.slice (some ⟨g, 0, none⟩) (n + m) cap) w' ∧ w'.ownsRow base e 1 (.slice (some ⟨g, 0, none⟩) (n + m) cap) (n + m) (xs ++ List.replicate m z) ∧ w.grownBy w' v.ownBlock ∧
      (v.ownBlock = some g ∨ w.heap.size ≤ g) := by
  subst hby
  have hsmall : n + m ≤ 9223372036854775807 := by simp only [maxLen] at h63; omega
  have hmb : m * i.bytes ≤ 281474976710656 := by
    have : m * i.bytes ≤ (n + m) * i.bytes := Nat.mul_le_mul_right _ (by omega)
    omega
  obtain ⟨hlen, hown'⟩ := hown
  rcases hown' with ⟨_, h0⟩ | ⟨g, cap, cur, rfl, hbg, hg, hnc, hcm, hcs, htake⟩
  · omega
  · by_cases hroom : n + m ≤ cap
    · have hr := run_append_zeros_room (P := P) w t tn ty e i z kn k ht htn hi hz hsize hzc h1 g n cap cur hg m hm hmb hroom (by omega)
      refine ⟨_, _, _, hr, ⟨by simp; omega, .inr ⟨g, cap, _, rfl, hbg, setRow_heap w g cur _ e _ hg, hroom, hcm, ?_, ?_⟩⟩, ⟨rfl, rfl, rfl, by simp, fun k _ hk => setRow_other w g k _ (fun e => hk (by simp [Value.ownBlock, e]))⟩, .inl rfl⟩
      · simp; omega
      · rw [Nat.mul_one] at htake ⊢
        simp only [List.toList_toArray]
        rw [htake, List.take_append_of_le_length (by simp; omega), List.take_of_length_le (by simp; omega)]
    · have hm0 : 0 < m := by omega
      have holds : ∀ j u, xs[j]? = some u → w.cell? ((⟨g, 0, none⟩ : Addr).add j) = some u := (show w.ownsRow base e 1 (.slice (some ⟨g, 0, none⟩) n cap) n xs from ⟨hlen, .inr ⟨g, cap, cur, rfl, hbg, hg, hnc, hcm, hcs, htake⟩⟩).cells (g := g) rfl
      have hr := run_append_zeros_grow (P := P) w t tn ty e i z kn k ht htn hi hz hsize hzc ⟨g, 0, none⟩ n cap xs (by rw [hsize]; exact hlen) holds m hm0 hm hmb (by omega) (by omega) (growslice_fits (by omega) hbytes)
      have hge := grownCap_ge w (n + m) cap e
      refine ⟨_, _, _, hr, ⟨by simp; omega, .inr ⟨w.heap.size, _, _, rfl, hbase, heap_alloc_new w.drew _, hge, grownCap_le_maxLen w (n + m) cap e h63, ?_, ?_⟩⟩, ⟨rfl, rfl, rfl, by simp, fun k hk _ => Below.heap_alloc w.drew _ k hk⟩, .inr (Nat.le_refl _)⟩
      · rw [zeroCells_one z hzc]; simp; omega
      · rw [zeroCells_one z hzc]
        simp only [Array.toList_append, List.toList_toArray]
        rw [List.take_append_of_le_length (by simp; omega), List.take_of_length_le (by simp; omega)]

/-- append(b, make([]T, m)...) -/
theorem app_zeros {ops : Array Oper} {rest : List Oper} {o : Oper} {a : Act} {Q : Exit → Act → World → Prop} (hgd : o.guard = none) (s x : Operand) (t tn : TypeId)
    (ho : o.op = .call { callee := .builtin .append, args := #[s, x], argTypes := #[t, tn] })
    (base : Nat) (e : TypeId) (i : TypeInfo) (z : Value) (bytes : Nat) (kn k : IntKind) (ht : P.underlying t = some (.slice e)) (htn : P.underlying tn = some (.int kn)) (hi : P.info? e = some i) (hz : i.zero = some z)
    (hsize : i.size = 1) (hby : i.bytes = bytes) (hzc : z.cells = #[z]) (h1 : z.oneCell' = true)
    (v : Value) (n : Nat) (xs : List Value) (hs : a.eval s = v) (hown : w.ownsRow base e 1 v n xs) (hn : 0 < n)
    (m : Nat) (M : Int) (hx : a.eval x = .int k M) (hM : M = (m : Int)) (hm : m ≤ 1000000000) (h63 : n + m ≤ maxLen) (hbytes : (n + m) * bytes ≤ 140737488355328) (hbase : base ≤ w.heap.size)
    (h : ∀ g cap w', w'.ownsRow base e 1 (.slice (some ⟨g, 0, none⟩) (n + m) cap) (n + m) (xs ++ List.replicate m z) → w.grownBy w' v.ownBlock → (v.ownBlock = some g ∨ w.heap.size ≤ g) → wpList P ops Q rest (a.put o.dst (.slice (some ⟨g, 0, none⟩) (n + m) cap)) w') :
    wpList P ops Q (o :: rest) a w := by
  subst hM
  obtain ⟨g, cap, w', hr, h2, h3, h4⟩ := run_append_zeros_own (P := P) w base t tn o.type e i z bytes kn k ht htn hi hz hsize hby hzc h1 v n xs hown hn m hm h63 hbytes hbase
  exact Lib.wpList_append_run w hgd s x t tn ho _ _ hs hx _ _ hr (h g cap w' h2 h3 h4)
end
end Go.Proofs.YtbeabehebenocaaGreatDoor
end

section
/- copy and append of bytes, in terms of functions from places to bytes. -/
namespace Go.Proofs.YtbeabehebenocaaGreatDoor
open Go.RowKit

/-- f, but from off on m bytes of g -/
def putF (f : Nat → Nat) (off m : Nat) (g : Nat → Nat) : Nat → Nat := fun k => if off ≤ k ∧ k < off + m then g (k - off) else f k
theorem bytesL_put (f g : Nat → Nat) (n off m : Nat) (h : off + m ≤ n) : splice (bytesL f n) off (bytesL g m) = bytesL (putF f off m g) n := by
  apply List.ext_getElem?
  intro k
  unfold splice
  rw [bytesL_length]
  by_cases hk : k < n
  · rw [bytesL_get _ _ _ hk]
    by_cases h1 : k < off
    · rw [List.getElem?_append_left (by simp [bytesL_length]; omega), List.getElem?_take_of_lt h1, bytesL_get _ _ _ hk]
      have : ¬ (off ≤ k ∧ k < off + m) := by omega
      simp only [putF, if_neg this]
    · rw [List.getElem?_append_right (by simp [bytesL_length]; omega)]
      rw [show (List.take off (bytesL f n)).length = off by simp [bytesL_length]; omega]
      by_cases h2 : k < off + m
      · rw [List.getElem?_append_left (by simp [bytesL_length]; omega), bytesL_get _ _ _ (by omega)]
        have : off ≤ k ∧ k < off + m := by omega
        simp only [putF, if_pos this]
      · rw [List.getElem?_append_right (by simp [bytesL_length]; omega), bytesL_length, List.getElem?_drop, show off + m + (k - off - m) = k by omega, bytesL_get _ _ _ hk]
        have : ¬ (off ≤ k ∧ k < off + m) := by omega
        simp only [putF, if_neg this]
  · rw [List.getElem?_eq_none (by simp [bytesL_length]; omega), List.getElem?_eq_none (by simp [bytesL_length]; omega)]
theorem rd_news {w : World} {b o n : Nat} {f : Nat → Nat} (h : RdB w b o n f) : ∀ j u, (bytesL f n)[j]? = some u → w.cell? ((⟨b, o, none⟩ : Addr).add j) = some u := by
  intro j u hj
  have hl : j < n := by have := (List.getElem?_eq_some_iff.1 hj).1; rwa [bytesL_length] at this
  rw [bytesL_get _ _ _ hl] at hj
  have : (⟨b, o, none⟩ : Addr).add j = ⟨b, o + j, none⟩ := by cases j <;> simp [Addr.add]
  rw [this, h j hl]; exact hj
theorem bytes_one (f : Nat → Nat) (n : Nat) : ∀ u ∈ bytesL f n, u.oneCell' = true := by
  intro u hu
  obtain ⟨k, _, rfl⟩ := List.mem_map.1 hu
  rfl

/-- copy(d, s) of bytes into a block that is known whole -/
theorem copy_blk {P : Program} {w : World} {ops : Array Oper} {rest : List Oper} {o : Oper} {a : Act} {Q : Exit → Act → World → Prop} (hgd : o.guard = none) (d s : Operand) (dT sT : TypeId)
    (ho : o.op = .call { callee := .builtin .copy, args := #[d, s], argTypes := #[dT, sT] }) (elem : TypeId) (hu : P.underlying dT = some (.slice elem)) (hsz : (P.info? elem).map (·.size) = some 1)
    (g off dLen dCap sb so sLen sCap : Nat) (hd : a.eval d = .slice (some ⟨g, off, none⟩) dLen dCap) (hs : a.eval s = .slice (some ⟨sb, so, none⟩) sLen sCap)
    (n : Nat) (f fs : Nat → Nat) (t : TypeId) (hg : Blk t w g (bytesL f n)) (m : Nat) (hm : m = Nat.min sLen dLen) (hsrc : RdB w sb so m fs) (hfit : off + m ≤ n)
    (h : ∀ w', Blk t w' g (bytesL (putF f off m fs) n) → Mods (fun k => k = g) w w' → wpList P ops Q rest (a.put o.dst (goInt m)) w') :
    wpList P ops Q (o :: rest) a w := by
  have hl : (bytesL fs m).length = m := bytesL_length _ _
  refine wpList_copy_own hgd d s dT sT ho elem hu hsz g off dLen dCap ⟨sb, so, none⟩ sLen sCap hd hs (bytesL f n).toArray t hg (bytesL fs m) (by rw [hl, hm]) (rd_news hsrc) (by simp [bytesL_length]; omega) (bytes_one _ _) ?_
  have h2 := h (w.setRow g (splice (bytesL f n) off (bytesL fs m)).toArray) (by rw [bytesL_put _ _ _ _ _ hfit]; exact setRow_heap w g _ _ t _ hg) ⟨rfl, rfl, rfl, by simp, fun k _ hk => setRow_other w g k _ hk⟩
  simpa [splice, hl] using h2

theorem own_mods {s : Nat → Prop} {w w' : World} {base e size n : Nat} {v : Value} {xs : List Value} (h : w.ownsRow base e size v n xs) (hm : Mods s w w') (hs : ∀ g, v.ownBlock = some g → ¬ s g) : w'.ownsRow base e size v n xs := by
  obtain ⟨hl, h⟩ := h
  refine ⟨hl, ?_⟩
  rcases h with h | ⟨g, cap, cur, rfl, hb, hg, r⟩
  · exact .inl h
  · exact .inr ⟨g, cap, cur, rfl, hb, by rw [hm.block g (Array.getElem?_eq_some_iff.1 hg).1 (hs g rfl)]; exact hg, r⟩
theorem own_below {w w' : World} {base e size n : Nat} {v : Value} {xs : List Value} (h : w.ownsRow base e size v n xs) (hm : Below w.heap.size w w') : w'.ownsRow base e size v n xs := by
  refine own_mods h (Mods.of_below hm) fun g hg => ?_
  have := (h.lt g hg).2
  omega

/-- append(s, t...) of bytes onto a slice of the call's own -/
theorem app_bytes {P : Program} {w : World} {ops : Array Oper} {rest : List Oper} {o : Oper} {a : Act} {Q : Exit → Act → World → Prop} (hgd : o.guard = none) (s x : Operand) (t : TypeId)
    (ho : o.op = .call { callee := .builtin .append, args := #[s, x], argTypes := #[t, t] })
    (base : Nat) (e : TypeId) (i : TypeInfo) (ht : P.underlying t = some (.slice e)) (hi : P.info? e = some i) (hz : i.zero = some (.int .u8 0)) (hsize : i.size = 1) (hby : i.bytes = 1)
    (v : Value) (n : Nat) (f : Nat → Nat) (hs : a.eval s = v) (hown : Src w base e 1 v n (bytesL f n))
    (sb so m c : Nat) (fs : Nat → Nat) (hx : a.eval x = .slice (some ⟨sb, so, none⟩) m c) (hsrc : RdB w sb so m fs) (hm : 0 < m) (hb : n + m ≤ 1000000000) (hbase : base ≤ w.heap.size)
    (h : ∀ g cap w', w'.ownsRow base e 1 (.slice (some ⟨g, 0, none⟩) (n + m) cap) (n + m) (bytesL (catF n f fs) (n + m)) → w.grownBy w' v.ownBlock → (v.ownBlock = some g ∨ w.heap.size ≤ g) → wpList P ops Q rest (a.put o.dst (.slice (some ⟨g, 0, none⟩) (n + m) cap)) w') :
    wpList P ops Q (o :: rest) a w := by
  refine src_append hgd s x t ho base e i (.int .u8 0) 1 1 ht hi hz hsize hby rfl (by decide) v n _ hs hown ⟨sb, so, none⟩ m c (bytesL fs m) hx (by rw [bytesL_length]; omega) (rd_news hsrc) (bytes_one _ _) hm (by unfold maxLen; omega) (by omega) hbase ?_
  intro g cap w' ho' hg hat _
  rw [bytesL_append] at ho'
  exact h g cap w' ho' hg hat
theorem src_of_rd {w : World} {base e b o n : Nat} {f : Nat → Nat} (h : RdB w b o n f) (hn : 0 < n) : Src w base e 1 (.slice (some ⟨b, o, none⟩) n n) n (bytesL f n) :=
  .inr ⟨⟨b, o, none⟩, rfl, hn, by simp [bytesL_length], rd_news h⟩
theorem Src.below {w w' : World} {base e size n : Nat} {v : Value} {xs : List Value} (h : Src w base e size v n xs) (hm : Below w.heap.size w w') : Src w' base e size v n xs := by
  rcases h with h | ⟨b, rfl, hn, hxl, hxs⟩
  · exact .inl (own_below h hm)
  · exact .inr ⟨b, rfl, hn, hxl, fun j u hj => by rw [hm.cell (World.block_lt_of_cell? w _ (hxs j u hj))]; exact hxs j u hj⟩
theorem catF_lt {n : Nat} {f g : Nat → Nat} (hf : ∀ k, f k < 256) (hg : ∀ k, g k < 256) : ∀ k, catF n f g k < 256 := fun k => by unfold catF; split <;> simp [hf, hg]
theorem putF_lt {f g : Nat → Nat} {off m : Nat} (hf : ∀ k, f k < 256) (hg : ∀ k, g k < 256) : ∀ k, putF f off m g k < 256 := fun k => by unfold putF; split <;> simp [hf, hg]
end Go.Proofs.YtbeabehebenocaaGreatDoor
end

section
/- The reference's small functions: fits, fill, With. -/
namespace Go.Proofs.YtbeabehebenocaaGreatDoor
open Go.RowKit

theorem own_get {w : World} {base e g n cap : Nat} {f : Nat → Nat} (h : w.ownsRow base e 1 (.slice (some ⟨g, 0, none⟩) n cap) n (bytesL f n)) {i : Nat} (hi : i < n) : w.cell? ⟨g, i, none⟩ = some (.int .u8 (f i : Nat)) ∧ w.frozen? ⟨g, i, none⟩ = false := by
  obtain ⟨hl, h⟩ := h
  rcases h with ⟨hv, _⟩ | ⟨g', cap', cur, hv, hb, hg, hc, hm, hs, ht⟩
  · cases hv
  · cases hv
    rw [Nat.mul_one] at ht
    refine ⟨?_, frozen_of_row w g i cur e hg⟩
    rw [cell_of_row w g i cur e (0, 0) hg]
    have h1 := bytesL_get f n i hi
    rw [← ht, List.getElem?_take_of_lt hi] at h1
    simpa using h1
theorem own_set {w : World} {base e g n cap : Nat} {f : Nat → Nat} (h : w.ownsRow base e 1 (.slice (some ⟨g, 0, none⟩) n cap) n (bytesL f n)) {i : Nat} (hi : i < n) (x : Nat) {u : Value} (hu : u = .int .u8 (x : Nat)) :
    (w.setCell ⟨g, i, none⟩ u).ownsRow base e 1 (.slice (some ⟨g, 0, none⟩) n cap) n (bytesL (fun k => if k = i then x else f k) n) := by
  subst hu
  obtain ⟨hl, h⟩ := h
  refine ⟨by rw [bytesL_length] at hl ⊢; exact hl, ?_⟩
  rcases h with ⟨hv, _⟩ | ⟨g', cap', cur, hv, hb, hg, hc, hm, hs, ht⟩
  · cases hv
  · cases hv
    refine .inr ⟨g, cap, cur.set! i (.int .u8 (x : Nat)), rfl, hb, ?_, hc, hm, by simpa using hs, ?_⟩
    · have := heap_setCell_same w g i cur e (.int .u8 (x : Nat)) hg
      simpa using this
    · rw [← bytesL_set f n i x hi, ← ht]
      simp [List.take_set]
theorem own_len {w : World} {base e g n cap size : Nat} {xs : List Value} (h : w.ownsRow base e size (.slice (some ⟨g, 0, none⟩) n cap) n xs) : base ≤ g ∧ g < w.heap.size ∧ n ≤ cap ∧ cap ≤ maxLen := by
  obtain ⟨hl, h⟩ := h
  rcases h with ⟨hv, _⟩ | ⟨g', cap', cur, hv, hb, hg, hc, hm, hs, ht⟩
  · cases hv
  · cases hv
    exact ⟨hb, (Array.getElem?_eq_some_iff.1 hg).1, hc, hm⟩
set_option maxRecDepth 100000 in
theorem rfits2_c (n : Nat) (hn : n < 65536) (w : World) : Calls Tryz.prog 23 #[.int .i64 n, .int .i64 2] w fun e w' => e = .returned (.bool true) ∧ w = w' := by
  go_enter Tryz.func23, Tryz.ntmps23
  go_wp2
  go_ret
  exact ⟨congrArg (fun q => Ending.returned (Value.bool q)) (decide_eq_true (by omega)), rfl⟩
set_option maxRecDepth 100000 in
theorem rfits4_c (n : Nat) (hn : n < 4294967296) (w : World) : Calls Tryz.prog 23 #[.int .i64 n, .int .i64 4] w fun e w' => e = .returned (.bool true) ∧ w = w' := by
  go_enter Tryz.func23, Tryz.ntmps23
  go_wp2
  go_ret
  exact ⟨congrArg (fun q => Ending.returned (Value.bool q)) (decide_eq_true (by omega)), rfl⟩

theorem rput2_c (base n0 n width : Nat) (v : Value) (f : Nat → Nat) (w : World) (hw : width ≤ 8) (hw0 : 0 < width) (hn : n < 4294967296) (hn0 : n0 ≤ 1000000) (hbase : base ≤ w.heap.size) (hown0 : Src w base 5 1 v n0 (bytesL f n0)) :
   Calls Tryz.prog 24 #[v, .int .i64 n, .int .i64 width] w fun e w' => ∃ v', e = .returned v' ∧ w'.ownsRow base 5 1 v' (n0 + width) (bytesL (catF n0 f (byteN n)) (n0 + width)) ∧ SameOr w v v' ∧ Mods (fun k => v.ownBlock = some k) w w' := by
  refine (rput_c base n0 n width v _ w hw hn hn0 hbase hown0).mono ?_
  rintro e w' ⟨v', rfl, h1, h2, h3, h4⟩
  rw [bytesL_append] at h2
  exact ⟨v', rfl, h2 hw0, h3, h4⟩

theorem rfill_c (base n0 n : Nat) (v : Value) (f : Nat → Nat) (w : World) (h0 : 0 < n0) (hn : n0 ≤ n) (hnb : n ≤ 1000000) (hbase : base ≤ w.heap.size) (hown : w.ownsRow base 5 1 v n0 (bytesL f n0)) :
   Calls Tryz.prog 25 #[v, .int .i64 n] w fun e w' => ∃ v', e = .returned v' ∧ w'.ownsRow base 5 1 v' n (bytesL (catF n0 f fun _ => 0) n) ∧ SameOr w v v' ∧ Mods (fun k => v.ownBlock = some k) w w' := by
  obtain ⟨i0, hi0, hz0, hz1, hz2⟩ := info_parts info8
  obtain ⟨g, cap, hv, _⟩ := own_rd hown h0
  subst hv
  obtain ⟨m, rfl⟩ : ∃ m, n = n0 + m := ⟨n - n0, by omega⟩
  have e1 : ((n0 + m : Nat) : Int) - (n0 : Int) = (m : Int) := by omega
  go_enter Tryz.func25, Tryz.ntmps25
  go_wp2_with (at_builtin; refine app_zeros _ rfl _ _ 25 3 rfl base 5 i0 (.int .u8 0) 1 .i64 .i64 Tryz.underlying25 Tryz.underlying3 hi0 hz0 hz1 hz2 rfl rfl _ n0 (bytesL f n0) rfl (by exact hown) h0 m _ rfl (by first | rfl | omega) (by omega) (by unfold maxLen; omega) (by omega) hbase ?_; intro g9 cap9 w9 ho9 hgr9 hat9)
  rw [zeros_bytes, bytesL_append] at ho9
  go_ret
  exact ⟨_, rfl, ho9, (SameOr.refl w _).step hat9 (Nat.le_refl _), (Mods.refl _ w).grown hgr9 fun k e _ => e⟩

set_option maxRecDepth 100000 in
set_option maxHeartbeats 1000000 in
theorem rwith_c (b o n cap i : Nat) (f : Nat → Nat) (on : Bool) (w : World) (hf : ∀ k, f k < 256) (h : RdB w b o n f) (hn : 0 < n) (hnb : n ≤ 1000000) (hi : i / 8 < n) :
    Calls Tryz.prog 43 #[.slice (some ⟨b, o, none⟩) n cap, .int .i64 i, .bool on] w fun e w' => ∃ v, e = .returned v ∧ w'.ownsRow w.heap.size 5 1 v n (bytesL (withB f i on) n) ∧ Below w.heap.size w w' := by
  obtain ⟨i0, hi0, hz0, hz1, hz2⟩ := info_parts info8
  have hbl := lt_of_cell (h 0 hn)
  have hown : w.ownsRow w.heap.size 5 1 (.slice none 0 0) 0 (bytesL (fun _ => 0) 0) := World.ownsRow_nil _ _ _ _
  have HR := Lib.hid h; have HO := Lib.hid hown
  clear h hown
  have hlt' : decide ((n : Int) ≤ (i : Int) / 8) = false := by simp; omega
  go_enter Tryz.func43, Tryz.ntmps43
  have hz := withB_lt hf i false (i / 8)
  have f0 := hf (i / 8)
  have e0 : catF 0 (fun _ => 0) f = f := funext fun k => by simp [catF]
  have z0 : withB f i false (i / 8) = setB (f (i / 8)) (i % 8) false := if_pos rfl
  rw [z0] at hz
  have w0 : ∀ on, (fun k => if k = i / 8 then setB (f (i / 8)) (i % 8) on else f k) = withB f i on := fun on => funext fun k => by
    unfold withB; by_cases h : k = i / 8
    · simp [h]
    · simp [h]
  have a0 := andNot_byte (f (i / 8)) i f0
  have o0 := or_byte (setB (f (i / 8)) (i % 8) false) i hz
  have t0 : setB (setB (f (i / 8)) (i % 8) false) (i % 8) true = setB (f (i / 8)) (i % 8) true := setB_twice ⟨f (i / 8), f0⟩ ⟨i % 8, Nat.mod_lt _ (by decide)⟩
  rw [t0] at o0
  have E0 := Lib.hid e0; have W0 := Lib.hid w0; have A0 := Lib.hid a0; have O0 := Lib.hid o0
  clear hz e0 z0 w0 a0 o0 t0
  cases on
  all_goals
    go_wp2_with (at_builtin; refine app_bytes rfl _ _ 25 rfl w.heap.size 5 i0 Tryz.underlying25 hi0 hz0 hz1 hz2 _ _ (fun _ => 0) rfl (by exact .inl HO.out) b o n cap _ rfl HR.out hn (by omega) (by simp) ?_; intro g5 cap5 w3 ho5 hgr5 hat5; rw [Nat.zero_add, E0.out] at ho5; have hc5 := own_get ho5 hi; have hcc := hc5.1; have hff := hc5.2; have hw3 := hgr5.size; have H5 := Lib.hid ho5; have HG5 := Lib.hid hgr5; clear ho5 hgr5 hat5 hc5)
    go_ret
    have hB3 : Below w.heap.size w w3 := (Below.refl _ _).grown HG5.out (Nat.le_refl _) (fun k e => by cases e)
    have hlg := (own_len H5.out).1
  · rw [A0.out]
    refine ⟨_, rfl, ?_, hB3.setCell (p := ⟨g5, i / 8, none⟩) hlg _⟩
    have := own_set H5.out hi (setB (f (i / 8)) (i % 8) false) rfl
    rw [W0.out] at this
    exact this
  · rw [A0.out, O0.out]
    refine ⟨_, rfl, ?_, (hB3.setCell (p := ⟨g5, i / 8, none⟩) hlg _).setCell (p := ⟨g5, i / 8, none⟩) hlg _⟩
    have h1 := own_set H5.out hi (setB (f (i / 8)) (i % 8) false) rfl
    have h2 := own_set h1 hi (setB (f (i / 8)) (i % 8) true) rfl
    have e3 : (fun k => if k = i / 8 then setB (f (i / 8)) (i % 8) true else if k = i / 8 then setB (f (i / 8)) (i % 8) false else f k) = withB f i true := by
      rw [← W0.out]; funext k; by_cases h : k = i / 8 <;> simp [h]
    rw [e3] at h2
    exact h2
end Go.Proofs.YtbeabehebenocaaGreatDoor
end

section
/- What the program's functions on the geometry answer, of a geometry that may be. -/
namespace Go.Proofs.YtbeabehebenocaaGreatDoor
open Go.RowKit

theorem check_ok (g : Geo) (hg : g.Ok) (w : World) : Calls Tryz.prog 64 #[.agg #[.int .i64 g.gr, .int .i64 g.ino, .int .i64 g.da]] w fun e w' => e = .returned (.int .i64 0) ∧ Below w.heap.size w w' := by
  obtain ⟨g1, g2, i1, i2, d1, d2⟩ := hg
  go_enter Tryz.func64, Tryz.ntmps64
  go_wp2
  go_ret
  exact ⟨rfl, (Below.refl _ _).alloc (Nat.le_refl _) _⟩

theorem span_c (g : Geo) (hg : g.Ok) (w : World) : Calls Tryz.prog 65 #[.agg #[.int .i64 g.gr, .int .i64 g.ino, .int .i64 g.da]] w fun e w' => e = .returned (.int .i64 g.span) ∧ Below w.heap.size w w' := by
  obtain ⟨g1, g2, i1, i2, d1, d2⟩ := hg
  go_enter Tryz.func65, Tryz.ntmps65
  go_wp2
  go_ret
  exact ⟨ret_int (by unfold Geo.span; omega), (Below.refl _ _).alloc (Nat.le_refl _) _⟩

theorem total_c (g : Geo) (hg : g.Ok) (w : World) : Calls Tryz.prog 33 #[.agg #[.int .i64 g.gr, .int .i64 g.ino, .int .i64 g.da]] w fun e w' => e = .returned (.int .i64 g.total) ∧ Below w.heap.size w w' := by
  have ht : (g.gr : Int) * (g.span : Int) ≤ 8040 := by
    have h := hg.total_le; unfold Geo.total at h
    exact mul_le_cast (c := 8040) (by omega)
  have ht0 : 0 ≤ (g.gr : Int) * (g.span : Int) := mul_nn _ _
  have he : ((g.total : Nat) : Int) = 1 + (g.gr : Int) * (g.span : Int) := by unfold Geo.total; simp
  have He := Lib.hid he; clear he
  go_enter Tryz.func33, Tryz.ntmps33
  go_wp2_with (go_at_call 64; refine (check_ok g hg _).mono ?_; rintro e w1 ⟨rfl, hb⟩; obtain ⟨hc, hf⟩ := bcell hb; have hz := hb.size; simp at hz)
  have hB1 : Below w.heap.size w w1 := ((Below.refl _ _).alloc (Nat.le_refl _) _).trans (hb.mono (by simp))
  clear hf
  go_region_held3 (fun w' => w'.cell? ⟨w.heap.size, 0, none⟩ = some (.int .i64 g.gr) ∧ w'.cell? ⟨w.heap.size, 1, none⟩ = some (.int .i64 g.ino) ∧ w'.cell? ⟨w.heap.size, 2, none⟩ = some (.int .i64 g.da) ∧ w.heap.size < w'.heap.size ∧ Below w.heap.size w w')
    (first | (go_split_ands; refine ⟨?_, ?_, ?_, ?_, hB1.drew⟩ <;> first | (go_simp; done) | (simp; omega)) | (go_split_ands; refine ⟨?_, ?_, ?_, ?_, Below.trans (by assumption) (hb2.mono (by (try simp); omega))⟩ <;> first | (rw [hb2.cell (p := ⟨_, _, none⟩) (by (try simp); omega)]; assumption) | (have := hb2.size; (try simp at this); (try simp); omega)))
    ((go_at_call 65; refine (span_c g hg _).mono ?_; rintro e w2 ⟨rfl, hb2⟩))
  rename_i hHeld
  go_wp2
  go_ret
  exact ⟨ret_int (by rw [He.out, wrap_in _ (by rw [wrap_in _ (by omega) (by omega)]; omega) (by rw [wrap_in _ (by omega) (by omega)]; omega), wrap_in _ (by omega) (by omega)]), hHeld.2.2.2.2⟩

theorem inodes_c (g : Geo) (hg : g.Ok) (w : World) : Calls Tryz.prog 40 #[.agg #[.int .i64 g.gr, .int .i64 g.ino, .int .i64 g.da]] w fun e w' => e = .returned (.int .i64 g.inodes) ∧ Below w.heap.size w w' := by
  have ht : (g.gr : Int) * (g.ino : Int) ≤ 32 := mul_le_cast (c := 32) (Nat.mul_le_mul hg.g2 hg.i2)
  have ht0 : 0 ≤ (g.gr : Int) * (g.ino : Int) := mul_nn _ _
  have he : ((g.inodes : Nat) : Int) = (g.gr : Int) * (g.ino : Int) * 16 := by unfold Geo.inodes; simp
  have He := Lib.hid he; clear he
  go_enter Tryz.func40, Tryz.ntmps40
  go_wp2_with (go_at_call 64; refine (check_ok g hg _).mono ?_; rintro e w1 ⟨rfl, hb⟩; obtain ⟨hc, hf⟩ := bcell hb)
  go_ret
  exact ⟨ret_int (by rw [He.out]), ((Below.refl _ _).alloc (Nat.le_refl _) _).trans (hb.mono (by simp))⟩

theorem head_c (g : Geo) (hg : g.Ok) (k : Nat) (hk : k < g.gr) (w : World) : Calls Tryz.prog 62 #[.agg #[.int .i64 g.gr, .int .i64 g.ino, .int .i64 g.da], .int .i64 k] w fun e w' => e = .returned (.tuple #[.int .i64 (g.head k), .bool true]) ∧ Below w.heap.size w w' := by
  have g2 := hg.g2
  have ht : (k : Int) * (g.span : Int) ≤ 8040 := mul_le_cast (c := 8040) (show k * g.span ≤ 8040 from Nat.mul_le_mul (show k ≤ 8 by omega) hg.span_le)
  have ht0 : 0 ≤ (k : Int) * (g.span : Int) := mul_nn _ _
  have he : ((g.head k : Nat) : Int) = 1 + (k : Int) * (g.span : Int) := by unfold Geo.head; simp
  have He := Lib.hid he; clear he
  go_enter Tryz.func62, Tryz.ntmps62
  go_wp2_with (go_at_call 64; refine (check_ok g hg _).mono ?_; rintro e w1 ⟨rfl, hb⟩; obtain ⟨hc, hf⟩ := bcell hb; have hz := hb.size; simp at hz)
  go_loop [6, 12] (fun _ i => ∃ j : Nat, j ≤ k ∧ i = .int .i64 j) (fun _ i => k + 1 - (intOf i).toNat)
  case atStart => exact ⟨0, Nat.zero_le _, rfl⟩
  case round =>
    obtain ⟨j, hj, rfl⟩ := hrel
    by_cases e : j = k
    · subst e
      go_wp2_with (go_at_call 65; refine (span_c g hg _).mono ?_; rintro e w2 ⟨rfl, hb2⟩)
      go_ret2
      exact ⟨ret_ib (by rw [He.out]) rfl, (((Below.refl _ _).alloc (Nat.le_refl _) _).trans (hb.mono (by simp))).trans (hb2.mono (by omega))⟩
    · have e2 : ((j : Int) == (k : Int)) = false := by simp; omega
      go_wp2
      go_round
      case rel => exact ⟨j + 1, by omega, by go_num⟩
      case measure => simp [intOf]; omega

theorem group_c (g : Geo) (hg : g.Ok) (i : Nat) (w : World) : Calls Tryz.prog 60 #[.agg #[.int .i64 g.gr, .int .i64 g.ino, .int .i64 g.da], .int .i64 i] w fun e w' => e = .returned (.tuple #[.int .i64 (g.iGr i), .int .i64 (g.iNo i), .bool (g.iOk i)]) ∧ Below w.heap.size w w' := by
  have i1 := hg.i1
  have i2 := hg.i2
  have hle := hg.inodes_le
  by_cases h0 : i < 1
  · have e1 : g.iOk i = false := by simp [Geo.iOk]; omega
    have hgr : g.iGr i = 0 := by simp [Geo.iGr, e1]
    have hno : g.iNo i = 0 := by simp [Geo.iNo, e1]
    have E1 := Lib.hid e1; have Egr := Lib.hid hgr; have Eno := Lib.hid hno; clear e1 hgr hno
    have h0' : decide ((i : Int) < 1) = true := by simp; omega
    go_enter Tryz.func60, Tryz.ntmps60
    go_wp2
    go_ret3
    exact ⟨ret_iib (by rw [Egr.out]; rfl) (by rw [Eno.out]; rfl) E1.out.symm, (Below.refl _ _).alloc (Nat.le_refl _) _⟩
  · have h0' : decide ((i : Int) < 1) = false := by simp; omega
    by_cases h1 : g.inodes < i
    · have e1 : g.iOk i = false := by simp [Geo.iOk]; omega
      have hgr : g.iGr i = 0 := by simp [Geo.iGr, e1]
      have hno : g.iNo i = 0 := by simp [Geo.iNo, e1]
      have E1 := Lib.hid e1; have Egr := Lib.hid hgr; have Eno := Lib.hid hno; clear e1 hgr hno
      have h1' : decide ((g.inodes : Int) < (i : Int)) = true := by simp; omega
      go_enter Tryz.func60, Tryz.ntmps60
      go_wp2_with (go_at_call 40; refine (inodes_c g hg _).mono ?_; rintro e w1 ⟨rfl, hb⟩; obtain ⟨hc, hf⟩ := bcell hb)
      go_ret3
      exact ⟨ret_iib (by rw [Egr.out]; rfl) (by rw [Eno.out]; rfl) E1.out.symm, ((Below.refl _ _).alloc (Nat.le_refl _) _).trans (hb.mono (by simp))⟩
    · have e1 : g.iOk i = true := Geo.iOk_iff.2 ⟨by omega, by omega⟩
      have hgr : g.iGr i = (i - 1) / (g.ino * 16) := by simp [Geo.iGr, e1]
      have hno : g.iNo i = (i - 1) % (g.ino * 16) := by simp [Geo.iNo, e1]
      have E1 := Lib.hid e1; have Egr := Lib.hid hgr; have Eno := Lib.hid hno; clear e1 hgr hno
      have h1' : decide ((g.inodes : Int) < (i : Int)) = false := by simp; omega
      have hw : IntKind.i64.wrap ((i : Int) - 1) = (i : Int) - 1 := wrap_in _ (by omega) (by omega)
      have hw0 : 0 ≤ (i : Int) - 1 := by omega
      go_enter Tryz.func60, Tryz.ntmps60
      go_wp2_with (go_at_call 40; refine (inodes_c g hg _).mono ?_; rintro e w1 ⟨rfl, hb⟩; obtain ⟨hc, hf⟩ := bcell hb)
      go_quiet (fail)
      go_wp2
      go_ret3
      exact ⟨ret_iib (by rw [Egr.out, Int.natCast_ediv, Int.natCast_mul, Int.natCast_sub (by omega)]; rfl) (by rw [Eno.out, Int.natCast_emod, Int.natCast_mul, Int.natCast_sub (by omega)]; rfl) E1.out.symm, bdrewN (((Below.refl _ _).alloc (Nat.le_refl _) _).trans (hb.mono (by simp))) _⟩

theorem iat_c (g : Geo) (hg : g.Ok) (i : Nat) (w : World) : Calls Tryz.prog 59 #[.agg #[.int .i64 g.gr, .int .i64 g.ino, .int .i64 g.da], .int .i64 i] w fun e w' => e = .returned (.tuple #[.int .i64 (g.iBlk i), .int .i64 (g.iOff i), .bool (g.iOk i)]) ∧ Below w.heap.size w w' := by
  cases e1 : g.iOk i with
  | false =>
    have hgr : g.iBlk i = 0 := by simp [Geo.iBlk, e1]
    have hno : g.iOff i = 0 := by simp [Geo.iOff, e1]
    have Egr := Lib.hid hgr; have Eno := Lib.hid hno; clear hgr hno
    have hcall := fun W => group_c g hg i W
    rw [e1] at hcall
    have HC := Lib.hid hcall; clear hcall e1
    go_enter Tryz.func59, Tryz.ntmps59
    go_wp2_with (go_at_call 60; refine (HC.out _).mono ?_; rintro e w1 ⟨rfl, hb⟩; obtain ⟨hc, hf⟩ := bcell hb)
    go_ret3
    exact ⟨ret_iib (by rw [Egr.out]; rfl) (by rw [Eno.out]; rfl) rfl, ((Below.refl _ _).alloc (Nat.le_refl _) _).trans (hb.mono (by simp))⟩
  | true =>
    have hgr : g.iBlk i = g.head (g.iGr i) + 1 + g.iNo i / 16 := by simp [Geo.iBlk, e1]
    have hno : g.iOff i = g.iNo i % 16 * 64 := by simp [Geo.iOff, e1]
    have hlt := Geo.iGr_lt e1
    have hn := Geo.iNo_lt (i := i) hg
    have hh := hg.head_lt hlt
    have htl := hg.total_le
    have i2 := hg.i2
    have Egr := Lib.hid hgr; have Eno := Lib.hid hno; clear hgr hno
    have hcall := fun W => group_c g hg i W
    rw [e1] at hcall
    have HC := Lib.hid hcall; clear hcall e1
    go_enter Tryz.func59, Tryz.ntmps59
    go_wp2_with (first | (go_at_call 60; refine (HC.out _).mono ?_; rintro e w1 ⟨rfl, hb⟩; obtain ⟨hc, hf⟩ := bcell hb) | (go_at_call 62; refine (head_c g hg _ hlt _).mono ?_; rintro e w2 ⟨rfl, hb2⟩))
    go_ret3
    exact ⟨ret_iib (by rw [Egr.out]; simp) (by rw [Eno.out]; simp) rfl, (((Below.refl _ _).alloc (Nat.le_refl _) _).trans (hb.mono (by simp))).trans (hb2.mono (by have := hb.size; simp at this; omega))⟩

theorem dNo_of {g : Geo} {p q r : Nat} (h1 : 1 ≤ p) (h2 : p < g.total) (hq : q = (p - 1) / g.span) (hr : r = (p - 1) % g.span) :
    (r < 1 + g.ino → g.dOk p = false ∧ g.dNo p = 0) ∧ (1 + g.ino ≤ r → g.dOk p = true ∧ g.dNo p = q * g.da + (r - 1 - g.ino)) := by
  subst hq hr
  constructor
  · intro h
    have e : g.dOk p = false := by simp [Geo.dOk]; omega
    exact ⟨e, by simp [Geo.dNo, e]⟩
  · intro h
    have e : g.dOk p = true := Geo.dOk_iff.2 ⟨h1, h2, h⟩
    exact ⟨e, by simp [Geo.dNo, e]⟩

set_option maxRecDepth 100000 in
set_option maxHeartbeats 400000 in
theorem dataOf_c (g : Geo) (hg : g.Ok) (p : Nat) (w : World) : Calls Tryz.prog 61 #[.agg #[.int .i64 g.gr, .int .i64 g.ino, .int .i64 g.da], .int .i64 p] w fun e w' => e = .returned (.tuple #[.int .i64 (g.dNo p), .bool (g.dOk p)]) ∧ Below w.heap.size w w' := by
  have d2 := hg.d2
  have i2 := hg.i2
  have htl := hg.total_le
  by_cases h0 : p < 1
  · have e1 : g.dOk p = false := by simp [Geo.dOk]; omega
    have hno : g.dNo p = 0 := by simp [Geo.dNo, e1]
    have E1 := Lib.hid e1; have Eno := Lib.hid hno; clear e1 hno
    have h0' : decide ((p : Int) < 1) = true := by simp; omega
    go_enter Tryz.func61, Tryz.ntmps61
    go_wp2
    go_ret2
    exact ⟨ret_ib (by rw [Eno.out]; rfl) E1.out.symm, (Below.refl _ _).alloc (Nat.le_refl _) _⟩
  · have h0' : decide ((p : Int) < 1) = false := by simp; omega
    by_cases h1 : g.total ≤ p
    · have e1 : g.dOk p = false := by simp [Geo.dOk]; omega
      have hno : g.dNo p = 0 := by simp [Geo.dNo, e1]
      have E1 := Lib.hid e1; have Eno := Lib.hid hno; clear e1 hno
      have h1' : decide ((g.total : Int) ≤ (p : Int)) = true := by simp; omega
      go_enter Tryz.func61, Tryz.ntmps61
      go_wp2_with (go_at_call 33; refine (total_c g hg _).mono ?_; rintro e w1 ⟨rfl, hb⟩; obtain ⟨hc, hf⟩ := bcell hb)
      go_ret2
      exact ⟨ret_ib (by rw [Eno.out]; rfl) E1.out.symm, ((Below.refl _ _).alloc (Nat.le_refl _) _).trans (hb.mono (by simp))⟩
    · have h1' : decide ((g.total : Int) ≤ (p : Int)) = false := by simp; omega
      have hsp := hg.span_pos
      have hsp2 := hg.span_le
      obtain ⟨p', hp'⟩ : ∃ p', p' = p - 1 := ⟨_, rfl⟩
      obtain ⟨q, hqe⟩ : ∃ q, q = p' / g.span := ⟨_, rfl⟩
      obtain ⟨r, hre⟩ : ∃ r, r = p' % g.span := ⟨_, rfl⟩
      obtain ⟨r1, hr1⟩ : ∃ r1 : Int, r1 = (r : Int) - 1 := ⟨_, rfl⟩
      obtain ⟨a, ha⟩ : ∃ a : Int, a = r1 - g.ino := ⟨_, rfl⟩
      have hfin := dNo_of (g := g) (p := p) (q := q) (r := r) (by omega) (by omega) (by rw [hqe, hp']) (by rw [hre, hp'])
      have hqb : q ≤ 8040 := by rw [hqe]; exact Nat.le_trans (Nat.div_le_self _ _) (by omega)
      have hrb : r < 1005 := by rw [hre]; exact Nat.lt_of_lt_of_le (Nat.mod_lt _ (by omega)) hsp2
      have w1e : IntKind.i64.wrap ((p : Int) - 1) = (p' : Int) := by rw [wrap_in _ (by omega) (by omega)]; omega
      have w2e := wrap_ediv p' g.span (by omega)
      rw [← hqe] at w2e
      have w3e : (p' : Int) % (g.span : Int) = (r : Int) := by rw [hre]; exact (Int.natCast_emod _ _).symm
      have w3t : (p' : Int).tmod (g.span : Int) = (r : Int) := by rw [hre]; exact (Int.ofNat_tmod _ _).symm
      have w4e : IntKind.i64.wrap ((r : Int) - 1) = r1 := by rw [wrap_in _ (by omega) (by omega), hr1]
      have w5e : IntKind.i64.wrap (r1 - (g.ino : Int)) = a := by rw [wrap_in _ (by omega) (by omega), ha]
      have hs0 : (g.span : Int) ≠ 0 := by omega
      have hs1 : g.span ≠ 0 := by omega
      have hpp : 0 ≤ (p' : Int) := by omega
      have Hfin := Lib.hid hfin
      have Hr1 := Lib.hid hr1; have Ha := Lib.hid ha
      clear hfin hqe hre hp' hr1 ha
      go_enter Tryz.func61, Tryz.ntmps61
      go_wp2_with (go_at_call 33; refine (total_c g hg _).mono ?_; rintro e w1 ⟨rfl, hb⟩; obtain ⟨hc, hf⟩ := bcell hb; have hz := hb.size; simp at hz)
      have hB1 : Below w.heap.size w w1 := ((Below.refl _ _).alloc (Nat.le_refl _) _).trans (hb.mono (by simp))
      clear hf
      go_region_held3 (fun w' => w'.cell? ⟨w.heap.size, 0, none⟩ = some (.int .i64 g.gr) ∧ w'.cell? ⟨w.heap.size, 1, none⟩ = some (.int .i64 g.ino) ∧ w'.cell? ⟨w.heap.size, 2, none⟩ = some (.int .i64 g.da) ∧ w.heap.size < w'.heap.size ∧ Below w.heap.size w w')
        (first | (go_split_ands; refine ⟨?_, ?_, ?_, ?_, hB1.drew⟩ <;> first | (go_simp; done) | (simp; omega)) | (go_split_ands; refine ⟨?_, ?_, ?_, ?_, Below.trans (by assumption) (hb2.mono (by (try simp); omega))⟩ <;> first | (rw [hb2.cell (p := ⟨_, _, none⟩) (by (try simp); omega)]; assumption) | (have := hb2.size; (try simp at this); (try simp); omega)))
        ((go_at_call 65; refine (span_c g hg _).mono ?_; rintro e w2 ⟨rfl, hb2⟩))
      rename_i hHeld
      obtain ⟨b0, b1, b2, _, hB⟩ := hHeld
      clear w1e w2e w3e w3t w4e w5e
      by_cases hneg : a < 0
      · have hr2 := Hr1.out; have ha2 := Ha.out
        obtain ⟨e1, e2⟩ := Hfin.out.1 (by omega)
        have E1 := Lib.hid e1; have E2 := Lib.hid e2; clear e1 e2 hr2 ha2
        go_wp2
        go_ret2
        exact ⟨ret_ib (by rw [E2.out]; rfl) E1.out.symm, hB⟩
      · have hr2 := Hr1.out; have ha2 := Ha.out
        obtain ⟨e1, e2⟩ := Hfin.out.2 (by omega)
        have hmul : (q : Int) * (g.da : Int) ≤ 8040000 := mul_le_cast (c := 8040000) (show q * g.da ≤ 8040000 from Nat.mul_le_mul hqb hg.d2)
        have hmul0 := mul_nn q g.da
        have hcast : ((q * g.da + (r - 1 - g.ino) : Nat) : Int) = (q : Int) * (g.da : Int) + a := by
          rw [Int.natCast_add, Int.natCast_mul]; omega
        rw [← e2] at hcast
        have E1 := Lib.hid e1; have E2 := Lib.hid hcast; clear e1 e2 hcast
        have hab : a ≤ 1005 := by omega
        clear hr2 ha2
        go_wp2
        go_ret2
        exact ⟨ret_ib E2.out.symm E1.out.symm, hB⟩
end Go.Proofs.YtbeabehebenocaaGreatDoor
end

section
/- What the references' functions on the geometry answer, of a geometry that may be. -/
namespace Go.Proofs.YtbeabehebenocaaGreatDoor
open Go.RowKit

theorem rcheck_ok (g : Geo) (hg : g.Ok) (w : World) : Calls Tryz.prog 45 #[.agg #[.int .i64 g.gr, .int .i64 g.ino, .int .i64 g.da]] w fun e w' => e = .returned (.bool true) ∧ Below w.heap.size w w' := by
  obtain ⟨g1, g2, i1, i2, d1, d2⟩ := hg
  go_enter Tryz.func45, Tryz.ntmps45
  go_wp2
  go_ret
  exact ⟨by simp; omega, (Below.refl _ _).alloc (Nat.le_refl _) _⟩

theorem rspan_c (g : Geo) (hg : g.Ok) (w : World) : Calls Tryz.prog 46 #[.agg #[.int .i64 g.gr, .int .i64 g.ino, .int .i64 g.da]] w fun e w' => e = .returned (.int .i64 g.span) ∧ Below w.heap.size w w' := by
  obtain ⟨g1, g2, i1, i2, d1, d2⟩ := hg
  go_enter Tryz.func46, Tryz.ntmps46
  go_wp2
  go_ret
  exact ⟨ret_int (by unfold Geo.span; omega), (Below.refl _ _).alloc (Nat.le_refl _) _⟩

theorem rinodes_c (g : Geo) (hg : g.Ok) (w : World) : Calls Tryz.prog 47 #[.agg #[.int .i64 g.gr, .int .i64 g.ino, .int .i64 g.da]] w fun e w' => e = .returned (.int .i64 g.inodes) ∧ Below w.heap.size w w' := by
  have ht : (g.gr : Int) * (g.ino : Int) ≤ 32 := mul_le_cast (c := 32) (Nat.mul_le_mul hg.g2 hg.i2)
  have ht0 : 0 ≤ (g.gr : Int) * (g.ino : Int) := mul_nn _ _
  have he : ((g.inodes : Nat) : Int) = (g.gr : Int) * (g.ino : Int) * 16 := by unfold Geo.inodes; simp
  have He := Lib.hid he; clear he
  go_enter Tryz.func47, Tryz.ntmps47
  go_wp2_with (go_at_call 45; refine (rcheck_ok g hg _).mono ?_; rintro e w1 ⟨rfl, hb⟩; obtain ⟨hc, hf⟩ := bcell hb)
  go_ret
  exact ⟨ret_int (by rw [He.out]), ((Below.refl _ _).alloc (Nat.le_refl _) _).trans (hb.mono (by simp))⟩

theorem rblocks_c (g : Geo) (hg : g.Ok) (w : World) : Calls Tryz.prog 20 #[.agg #[.int .i64 g.gr, .int .i64 g.ino, .int .i64 g.da]] w fun e w' => e = .returned (.int .i64 g.blocks) ∧ Below w.heap.size w w' := by
  have ht : (g.gr : Int) * (g.da : Int) ≤ 8000 := mul_le_cast (c := 8000) hg.blocks_le
  have ht0 : 0 ≤ (g.gr : Int) * (g.da : Int) := mul_nn _ _
  have he : ((g.blocks : Nat) : Int) = (g.gr : Int) * (g.da : Int) := by unfold Geo.blocks; simp
  have He := Lib.hid he; clear he
  go_enter Tryz.func20, Tryz.ntmps20
  go_wp2_with (go_at_call 45; refine (rcheck_ok g hg _).mono ?_; rintro e w1 ⟨rfl, hb⟩; obtain ⟨hc, hf⟩ := bcell hb)
  go_ret
  exact ⟨ret_int (by rw [He.out]), ((Below.refl _ _).alloc (Nat.le_refl _) _).trans (hb.mono (by simp))⟩

theorem rhead_c (g : Geo) (hg : g.Ok) (k : Nat) (hk : k < g.gr) (w : World) : Calls Tryz.prog 21 #[.agg #[.int .i64 g.gr, .int .i64 g.ino, .int .i64 g.da], .int .i64 k] w fun e w' => e = .returned (.tuple #[.int .i64 (g.head k), .bool true]) ∧ Below w.heap.size w w' := by
  have g2 := hg.g2
  have ht : (k : Int) * (g.span : Int) ≤ 8040 := mul_le_cast (c := 8040) (show k * g.span ≤ 8040 from Nat.mul_le_mul (show k ≤ 8 by omega) hg.span_le)
  have ht0 : 0 ≤ (k : Int) * (g.span : Int) := mul_nn _ _
  have he : ((g.head k : Nat) : Int) = 1 + (k : Int) * (g.span : Int) := by unfold Geo.head; simp
  have He := Lib.hid he; clear he
  have k2 : decide ((g.gr : Int) ≤ (k : Int)) = false := by simp; omega
  go_enter Tryz.func21, Tryz.ntmps21
  go_wp2_with (first | (go_at_call 45; refine (rcheck_ok g hg _).mono ?_; rintro e w1 ⟨rfl, hb⟩; obtain ⟨hc, hf⟩ := bcell hb; have hz := hb.size; simp at hz) | (go_at_call 46; refine (rspan_c g hg _).mono ?_; rintro e w2 ⟨rfl, hb2⟩))
  go_ret2
  exact ⟨ret_ib (by rw [He.out]) rfl, (((Below.refl _ _).alloc (Nat.le_refl _) _).trans (hb.mono (by simp))).trans (hb2.mono (by omega))⟩

theorem rgroup_c (g : Geo) (hg : g.Ok) (i : Nat) (w : World) : Calls Tryz.prog 22 #[.agg #[.int .i64 g.gr, .int .i64 g.ino, .int .i64 g.da], .int .i64 i] w fun e w' => e = .returned (.tuple #[.int .i64 (g.iGr i), .int .i64 (g.iNo i), .bool (g.iOk i)]) ∧ Below w.heap.size w w' := by
  have i1 := hg.i1
  have i2 := hg.i2
  have hle := hg.inodes_le
  by_cases h0 : i < 1
  · have e1 : g.iOk i = false := by simp [Geo.iOk]; omega
    have hgr : g.iGr i = 0 := by simp [Geo.iGr, e1]
    have hno : g.iNo i = 0 := by simp [Geo.iNo, e1]
    have E1 := Lib.hid e1; have Egr := Lib.hid hgr; have Eno := Lib.hid hno; clear e1 hgr hno
    have h0' : decide ((i : Int) < 1) = true := by simp; omega
    go_enter Tryz.func22, Tryz.ntmps22
    go_wp2
    go_ret3
    exact ⟨ret_iib (by rw [Egr.out]; rfl) (by rw [Eno.out]; rfl) E1.out.symm, (Below.refl _ _).alloc (Nat.le_refl _) _⟩
  · have h0' : decide ((i : Int) < 1) = false := by simp; omega
    by_cases h1 : g.inodes < i
    · have e1 : g.iOk i = false := by simp [Geo.iOk]; omega
      have hgr : g.iGr i = 0 := by simp [Geo.iGr, e1]
      have hno : g.iNo i = 0 := by simp [Geo.iNo, e1]
      have E1 := Lib.hid e1; have Egr := Lib.hid hgr; have Eno := Lib.hid hno; clear e1 hgr hno
      have h1' : decide ((g.inodes : Int) < (i : Int)) = true := by simp; omega
      go_enter Tryz.func22, Tryz.ntmps22
      go_wp2_with (go_at_call 47; refine (rinodes_c g hg _).mono ?_; rintro e w1 ⟨rfl, hb⟩; obtain ⟨hc, hf⟩ := bcell hb)
      go_ret3
      exact ⟨ret_iib (by rw [Egr.out]; rfl) (by rw [Eno.out]; rfl) E1.out.symm, ((Below.refl _ _).alloc (Nat.le_refl _) _).trans (hb.mono (by simp))⟩
    · have e1 : g.iOk i = true := Geo.iOk_iff.2 ⟨by omega, by omega⟩
      have hgr : g.iGr i = (i - 1) / (g.ino * 16) := by simp [Geo.iGr, e1]
      have hno : g.iNo i = (i - 1) % (g.ino * 16) := by simp [Geo.iNo, e1]
      have E1 := Lib.hid e1; have Egr := Lib.hid hgr; have Eno := Lib.hid hno; clear e1 hgr hno
      have h1' : decide ((g.inodes : Int) < (i : Int)) = false := by simp; omega
      have hw : IntKind.i64.wrap ((i : Int) - 1) = (i : Int) - 1 := wrap_in _ (by omega) (by omega)
      have hw0 : 0 ≤ (i : Int) - 1 := by omega
      go_enter Tryz.func22, Tryz.ntmps22
      go_wp2_with (go_at_call 47; refine (rinodes_c g hg _).mono ?_; rintro e w1 ⟨rfl, hb⟩; obtain ⟨hc, hf⟩ := bcell hb)
      go_quiet (fail)
      go_wp2
      go_ret3
      exact ⟨ret_iib (by rw [Egr.out, Nat.mul_comm g.ino 16, Int.natCast_ediv, Int.natCast_mul, Int.natCast_sub (by omega)]; rfl) (by rw [Eno.out, Nat.mul_comm g.ino 16, Int.natCast_emod, Int.natCast_mul, Int.natCast_sub (by omega)]; rfl) E1.out.symm, bdrewN (((Below.refl _ _).alloc (Nat.le_refl _) _).trans (hb.mono (by simp))) _⟩

theorem riat_c (g : Geo) (hg : g.Ok) (i : Nat) (w : World) : Calls Tryz.prog 10 #[.agg #[.int .i64 g.gr, .int .i64 g.ino, .int .i64 g.da], .int .i64 i] w fun e w' => e = .returned (.tuple #[.int .i64 (g.iBlk i), .int .i64 (g.iOff i), .bool (g.iOk i)]) ∧ Below w.heap.size w w' := by
  cases e1 : g.iOk i with
  | false =>
    have hgr : g.iBlk i = 0 := by simp [Geo.iBlk, e1]
    have hno : g.iOff i = 0 := by simp [Geo.iOff, e1]
    have Egr := Lib.hid hgr; have Eno := Lib.hid hno; clear hgr hno
    have hcall := fun W => rgroup_c g hg i W
    rw [e1] at hcall
    have HC := Lib.hid hcall; clear hcall e1
    go_enter Tryz.func10, Tryz.ntmps10
    go_wp2_with (go_at_call 22; refine (HC.out _).mono ?_; rintro e w1 ⟨rfl, hb⟩; obtain ⟨hc, hf⟩ := bcell hb)
    go_ret3
    exact ⟨ret_iib (by rw [Egr.out]; rfl) (by rw [Eno.out]; rfl) rfl, ((Below.refl _ _).alloc (Nat.le_refl _) _).trans (hb.mono (by simp))⟩
  | true =>
    have hgr : g.iBlk i = g.head (g.iGr i) + 1 + g.iNo i / 16 := by simp [Geo.iBlk, e1]
    have hno : g.iOff i = g.iNo i % 16 * 64 := by simp [Geo.iOff, e1]
    have hlt := Geo.iGr_lt e1
    have hn := Geo.iNo_lt (i := i) hg
    have hh := hg.head_lt hlt
    have htl := hg.total_le
    have i2 := hg.i2
    have Egr := Lib.hid hgr; have Eno := Lib.hid hno; clear hgr hno
    have hcall := fun W => rgroup_c g hg i W
    rw [e1] at hcall
    have HC := Lib.hid hcall; clear hcall e1
    go_enter Tryz.func10, Tryz.ntmps10
    go_wp2_with (first | (go_at_call 22; refine (HC.out _).mono ?_; rintro e w1 ⟨rfl, hb⟩; obtain ⟨hc, hf⟩ := bcell hb) | (go_at_call 21; refine (rhead_c g hg _ hlt _).mono ?_; rintro e w2 ⟨rfl, hb2⟩))
    go_ret3
    exact ⟨ret_iib (by rw [Egr.out]; simp) (by rw [Eno.out]; simp) rfl, (((Below.refl _ _).alloc (Nat.le_refl _) _).trans (hb.mono (by simp))).trans (hb2.mono (by have := hb.size; simp at this; omega))⟩

set_option maxRecDepth 100000 in
set_option maxHeartbeats 400000 in
/-- of a data block's number: the block -/
theorem rdata_c (g : Geo) (hg : g.Ok) (n : Nat) (hn : n < g.blocks) (w : World) : Calls Tryz.prog 9 #[.agg #[.int .i64 g.gr, .int .i64 g.ino, .int .i64 g.da], .int .i64 n] w fun e w' => e = .returned (.tuple #[.int .i64 (g.data n), .bool true]) ∧ Below w.heap.size w w' := by
  have d1 := hg.d1
  have d2 := hg.d2
  have i2 := hg.i2
  have hbl := hg.blocks_le
  obtain ⟨q, hqe⟩ : ∃ q, q = n / g.da := ⟨_, rfl⟩
  obtain ⟨r, hre⟩ : ∃ r, r = n % g.da := ⟨_, rfl⟩
  have hlt : q < g.gr := by rw [hqe]; exact Nat.div_lt_of_lt_mul (by rw [Nat.mul_comm]; exact hn)
  have hr : r < g.da := by rw [hre]; exact Nat.mod_lt _ (by omega)
  have hh := hg.head_lt hlt
  have htl := hg.total_le
  have hn2 : decide ((n : Int) < 0) = false := by simp
  have hn3 : decide ((g.blocks : Int) ≤ (n : Int)) = false := by simp; omega
  have hq := wrap_ediv n g.da (by omega)
  have hq2 : (n : Int) % (g.da : Int) = (r : Int) := by rw [hre]; exact (Int.natCast_emod _ _).symm
  rw [← hqe] at hq
  have hfin : g.data n = g.head q + 1 + g.ino + r := by rw [hqe, hre]; rfl
  have Hfin := Lib.hid hfin
  clear hfin hqe hre
  have hd0 : (g.da : Int) ≠ 0 := by omega
  have hd1 : g.da ≠ 0 := by omega
  go_enter Tryz.func9, Tryz.ntmps9
  go_wp2_with (go_at_call 20; refine (rblocks_c g hg _).mono ?_; rintro e w1 ⟨rfl, hb⟩; obtain ⟨hc, hf⟩ := bcell hb; have hz := hb.size; simp at hz)
  have hB1 : Below w.heap.size w w1 := ((Below.refl _ _).alloc (Nat.le_refl _) _).trans (hb.mono (by simp))
  clear hf
  go_region_held3 (fun w' => w'.cell? ⟨w.heap.size, 0, none⟩ = some (.int .i64 g.gr) ∧ w'.cell? ⟨w.heap.size, 1, none⟩ = some (.int .i64 g.ino) ∧ w'.cell? ⟨w.heap.size, 2, none⟩ = some (.int .i64 g.da) ∧ w.heap.size < w'.heap.size ∧ Below w.heap.size w w')
    (first | (go_split_ands; refine ⟨?_, ?_, ?_, ?_, hB1.drew⟩ <;> first | (go_simp; done) | (simp; omega)) | (go_split_ands; refine ⟨?_, ?_, ?_, ?_, Below.trans (by assumption) (hb2.mono (by (try simp); omega))⟩ <;> first | (rw [hb2.cell (p := ⟨_, _, none⟩) (by (try simp); omega)]; assumption) | (have := hb2.size; (try simp at this); (try simp); omega)))
    ((go_at_call 21; go_loud ((with_reducible refine (rhead_c g hg _ hlt _).mono ?_)); rintro e w2 ⟨rfl, hb2⟩))
  rename_i hHeld
  obtain ⟨b0, b1, b2, _, hB⟩ := hHeld
  go_wp2_with fail
  go_quiet (fail)
  go_wp2
  go_ret2
  exact ⟨ret_ib (by rw [Hfin.out]; simp) rfl, bdrewN hB _⟩

end Go.Proofs.YtbeabehebenocaaGreatDoor
end

section
/- The superblock: what the program's Pack and Read, and the references' PackSuper and ReadSuper, answer. -/
namespace Go.Proofs.YtbeabehebenocaaGreatDoor
open Go.RowKit

def Geo.okB (g : Geo) : Bool := decide (1 ≤ g.gr) && (decide (g.gr ≤ 8) && (decide (1 ≤ g.ino) && (decide (g.ino ≤ 4) && (decide (8 ≤ g.da) && decide (g.da ≤ 1000)))))
theorem Geo.okB_iff {g : Geo} : g.okB = true ↔ g.Ok := by
  simp only [Geo.okB, Bool.and_eq_true, decide_eq_true_eq]
  exact ⟨fun ⟨a, b, c, d, e, f⟩ => ⟨a, b, c, d, e, f⟩, fun ⟨a, b, c, d, e, f⟩ => ⟨a, b, c, d, e, f⟩⟩
theorem check_no (g : Geo) (hg : g.okB = false) (w : World) : Calls Tryz.prog 64 #[.agg #[.int .i64 g.gr, .int .i64 g.ino, .int .i64 g.da]] w fun e w' => e = .returned (.int .i64 1) ∧ Below w.heap.size w w' := by
  have hn : ¬ (1 ≤ g.gr ∧ g.gr ≤ 8 ∧ 1 ≤ g.ino ∧ g.ino ≤ 4 ∧ 8 ≤ g.da ∧ g.da ≤ 1000) := fun ⟨a, b, c, d, e, f⟩ => by
    rw [Geo.okB_iff.2 ⟨a, b, c, d, e, f⟩] at hg; cases hg
  clear hg
  have Hn := Lib.hid hn; clear hn
  go_enter Tryz.func64, Tryz.ntmps64
  go_wp2
  all_goals first
    | (go_ret; exact ⟨rfl, (Below.refl _ _).alloc (Nat.le_refl _) _⟩)
    | (exfalso; exact Hn.out (by omega))
def markF : Nat → Nat := fun k => ([76, 79, 67, 75, 71, 65, 84, 69] : List Nat).getD k 0
def Geo.fld (g : Geo) (k : Nat) : Nat := if k = 0 then g.gr else if k = 1 then g.ino else g.da
/-- the mark and the first k numbers -/
def superK (g : Geo) : Nat → Nat → Nat
  | 0 => markF
  | k + 1 => catF (8 + 4 * k) (superK g k) (byteN (g.fld k))
def sumF (f : Nat → Nat) : Nat → Nat
  | 0 => 0
  | k + 1 => sumF f k + f k
theorem sumF_le (f : Nat → Nat) (hf : ∀ k, f k < 256) : ∀ n, sumF f n ≤ 255 * n
  | 0 => by simp [sumF]
  | n + 1 => by have := sumF_le f hf n; have := hf n; simp only [sumF]; omega
/-- a superblock's bytes -/
def superF (g : Geo) : Nat → Nat := putF (fun _ => 0) 0 24 (catF 20 (superK g 3) (byteN (sumF (superK g 3) 20)))
theorem markF_lt (k : Nat) : markF k < 256 := by
  unfold markF
  by_cases h : k < 8
  · match k, h with
    | 0, _ | 1, _ | 2, _ | 3, _ | 4, _ | 5, _ | 6, _ | 7, _ => decide
  · rw [List.getD_eq_getElem?_getD, List.getElem?_eq_none (by simp; omega)]; decide
theorem superK_lt (g : Geo) : ∀ k j, superK g k j < 256
  | 0 => markF_lt
  | k + 1 => catF_lt (superK_lt g k) (byteN_lt _)
theorem superF_lt (g : Geo) : ∀ k, superF g k < 256 := putF_lt (fun _ => by decide) (catF_lt (superK_lt g 3) (byteN_lt _))

theorem mark_rd (w : World) : RdB (w.alloc (.cells #[.int .u8 76, .int .u8 79, .int .u8 67, .int .u8 75, .int .u8 71, .int .u8 65, .int .u8 84, .int .u8 69] 5 (8, 9))) w.heap.size 0 8 markF := fun k hk => by
  rw [Nat.zero_add, cell_of_row _ _ k _ _ _ (heap_alloc_new w _)]
  match k, hk with
  | 0, _ | 1, _ | 2, _ | 3, _ | 4, _ | 5, _ | 6, _ | 7, _ => rfl

set_option maxRecDepth 100000 in
set_option maxHeartbeats 1000000 in
theorem pack_ok (g : Geo) (hg : g.Ok) (w : World) : Calls Tryz.prog 67 #[.agg #[.int .i64 g.gr, .int .i64 g.ino, .int .i64 g.da]] w fun e w' => ∃ B, e = .returned (.tuple #[.slice (some ⟨B, 0, none⟩) 1024 1024, .int .i64 0]) ∧ w.heap.size ≤ B ∧ Blk 5 w' B (bytesL (superF g) 1024) ∧ Below w.heap.size w w' := by
  obtain ⟨i0, hi, hz0, hz1, hz2⟩ := info_parts info8
  obtain ⟨g1, g2, i1, i2, d1, d2⟩ := id hg
  have kc := fun (w : World) (C : Array Value) (n c : Nat) => Lib.run_convert_bytes_const (P := Tryz.prog) w 25 5 C n c Tryz.underlying25 Tryz.underlying5
  go_enter Tryz.func67, Tryz.ntmps67
  go_wp2_with (go_at_call 64; refine (check_ok g hg _).mono ?_; rintro e w1 ⟨rfl, hb⟩; obtain ⟨hc, hf⟩ := bcell hb; have hz : w.heap.size < w1.heap.size := by (have := hb.size; simp at this; omega))
  have hB1 : Below w.heap.size w w1 := ((Below.refl _ _).alloc (Nat.le_refl _) _).trans (hb.mono (by simp))
  have hm0 := Lib.hid (mark_rd w1)
  clear hc hf hb kc
  have hI : Hid (Blk 3 ((w1.alloc (.cells #[.int .u8 76, .int .u8 79, .int .u8 67, .int .u8 75, .int .u8 71, .int .u8 65, .int .u8 84, .int .u8 69] 5 (8, 9))).alloc (.cells #[.int .i64 g.gr, .int .i64 g.ino, .int .i64 g.da] 3)) (w1.heap.size + 1) [.int .i64 g.gr, .int .i64 g.ino, .int .i64 g.da]) := by
    have := Blk.newL (e := 3) (w := w1.alloc (.cells #[.int .u8 76, .int .u8 79, .int .u8 67, .int .u8 75, .int .u8 71, .int .u8 65, .int .u8 84, .int .u8 69] 5 (8, 9))) [.int .i64 g.gr, .int .i64 g.ino, .int .i64 g.da]
    rw [World.size_alloc] at this
    exact this
  go_loopw [5, 27] (fun v i wr => ∃ k : Nat, k ≤ 3 ∧ i = .int .i64 k ∧ Src wr w.heap.size 5 1 v (8 + 4 * k) (bytesL (superK g k) (8 + 4 * k)) ∧ (0 < k → wr.ownsRow w.heap.size 5 1 v (8 + 4 * k) (bytesL (superK g k) (8 + 4 * k))) ∧ Below w.heap.size w wr ∧ Blk 3 wr (w1.heap.size + 1) [.int .i64 g.gr, .int .i64 g.ino, .int .i64 g.da] ∧ v.ownBlock ≠ some (w1.heap.size + 1) ∧ (∀ q, v.ownBlock = some q → w.heap.size ≤ q)) (fun _ i _ => 3 - (intOf i).toNat)
  case atStart => exact ⟨0, by omega, rfl, src_of_rd ((hm0.out).below ((Below.refl _ _).alloc (Nat.le_refl _) _)) (by omega), fun h => by omega, ((hB1.alloc (by omega) _).alloc (by simp; omega) _), hI.out, by simp [Value.ownBlock], by simp [Value.ownBlock]; omega⟩
  case round =>
    obtain ⟨k, hk, rfl, hown, hown2, hB, hblk, hne, hge⟩ := hrel
    by_cases hlt : k < 3
    · have hc := hblk.cell k
      have hfk : ([.int .i64 g.gr, .int .i64 g.ino, .int .i64 g.da] : List Value)[k]? = some (.int .i64 (g.fld k)) := by
        match k, hlt with
        | 0, _ | 1, _ | 2, _ => rfl
      rw [hfk] at hc
      have hbl := hblk.lt
      have HO := Lib.hid hown; have HN := Lib.hid hne; have HG := Lib.hid hge
      clear hown hown2 hfk hne hge
      go_wp2_with (first
        | (go_at_call 85; refine (number_c (g.fld k) 4 wr (by omega)).mono ?_; rintro e w2 ⟨v4, rfl, ho4, hb4⟩; obtain ⟨g4, cap4, rfl, hg4, _, _, hr4⟩ := own_rd ho4 (by omega))
        | (at_builtin; refine app_bytes rfl _ _ 25 rfl w.heap.size 5 i0 Tryz.underlying25 hi hz0 hz1 hz2 _ _ (superK g k) rfl (by exact HO.out.below hb4) g4 0 4 cap4 _ rfl hr4 (by omega) (by omega) (by have := hb4.size; have := hB.size; omega) ?_; intro g5 cap5 w3 ho5 hgr5 hat5))
      go_roundw
      case rel =>
        have h4 := hb4.size
        have hne5 : g5 ≠ w1.heap.size + 1 := by
          rcases hat5 with h | h
          · intro e; exact HN.out (h.trans (congrArg some e))
          · omega
        have hge5 : w.heap.size ≤ g5 := by
          rcases hat5 with h | h
          · exact HG.out _ h
          · have := hB.size; omega
        refine ⟨k + 1, by omega, by go_num, .inl ho5, fun _ => ho5, (hB.trans (hb4.mono hB.size)).grown hgr5 (by have := hB.size; omega) (fun q e => HG.out q e), ?_, by simp [Value.ownBlock, hne5], by simp [Value.ownBlock]; exact hge5⟩
        exact (hblk.mods (Mods.of_below hb4) (by omega)).mods (Mods.grown (Mods.refl (fun q => q ≠ w1.heap.size + 1) _) hgr5 fun q e _ e2 => HN.out (e.trans (congrArg some e2))) (by simp)
      case measure => simp [intOf]; omega
    · obtain rfl : k = 3 := by omega
      have hown3 : wr.ownsRow w.heap.size 5 1 u5 20 (bytesL (superK g 3) 20) := hown2 (by omega)
      obtain ⟨g5, cap5, rfl, hg5, hc5, _, hr5⟩ := own_rd hown3 (by omega)
      have HO := Lib.hid hown3
      have HR := Lib.hid hr5
      have hsz := hB.size
      clear hown hown2 hown3 hr5 hne hge hblk
      have hsum := sumF_le (superK g 3) (superK_lt g 3)
      go_wp2
      go_loop [8, 38] (fun t i => ∃ j : Nat, j ≤ 20 ∧ i = .int .i64 j ∧ t = .int .i64 (sumF (superK g 3) j)) (fun _ i => 20 - (intOf i).toNat)
      case atStart => exact ⟨0, by omega, rfl, rfl⟩
      case round =>
        obtain ⟨j, hj, rfl, rfl⟩ := hrel
        have hsj := hsum j
        by_cases hlt2 : j < 20
        · have hcj := HR.out.z j hlt2
          have hlj := superK_lt g 3 j
          go_wp2
          go_round
          case rel => exact ⟨j + 1, by omega, by go_num, by simp [sumF]⟩
          case measure => simp [intOf]; omega
        · obtain rfl : j = 20 := by omega
          clear hsum
          go_wp2_with (first
            | (at_make; refine mk_one _ rfl _ _ 25 rfl 5 i0 (.int .u8 0) 1 Tryz.underlying25 hi hz0 hz1 hz2 rfl _ _ _ _ 1024 rfl rfl rfl rfl (by omega) (by unfold maxLen; omega) ?_; intro w2 hblk2 hgr2; rw [zeros_bytes] at hblk2; have hB2 := (Below.refl wr.heap.size wr).grown hgr2 (Nat.le_refl _) (fun k e => by cases e); have HB2 := Lib.hid hblk2; clear hblk2)
            | (go_at_call 85; refine (number_c (sumF (superK g 3) 20) 4 w2 (by omega)).mono ?_; rintro e w3 ⟨v4, rfl, ho4, hb4⟩; obtain ⟨g4, cap4, rfl, hg4, _, _, hr4⟩ := own_rd ho4 (by omega))
            | (at_builtin; refine app_bytes rfl _ _ 25 rfl w.heap.size 5 i0 Tryz.underlying25 hi hz0 hz1 hz2 _ 20 (superK g 3) rfl (by exact .inl (own_below (own_below HO.out hB2) hb4)) g4 0 4 cap4 _ rfl hr4 (by omega) (by omega) (by have := hb4.size; have := hB2.size; omega) ?_; intro g6 cap6 w4 ho6 hgr6 hat6)
            | (refine copy_blk rfl _ _ 25 25 rfl 5 Tryz.underlying25 (by kernel_rfl) wr.heap.size 0 1024 1024 g6 0 24 cap6 rfl rfl 1024 (fun _ => 0) (catF 20 (superK g 3) (byteN (sumF (superK g 3) 20))) 5 ?_ 24 rfl ?_ (by omega) ?_))
          have hg5l := (HO.out.lt g5 rfl).2
          have hs2 := hB2.size
          have hs3 := hb4.size
          · refine (HB2.out.below hb4 HB2.out.lt).mods (Mods.grown (s := fun k => k = g5) (Mods.refl _ _) hgr6 fun k e _ => (Option.some.inj e).symm) (by omega)
          · obtain ⟨_, _, hv, _, _, _, hr6⟩ := own_rd ho6 (by omega)
            cases hv
            exact hr6
          · have hg5l := (HO.out.lt g5 rfl)
            have hs2 := hB2.size
            have hs3 := hb4.size
            have hs6 := hgr6.size
            intro w5 hb5 hm5
            go_wp2
            go_ret2
            refine ⟨_, rfl, by omega, hb5, ?_⟩
            have hall := ((hB.trans (hB2.mono hsz)).trans (hb4.mono (by omega))).grown hgr6 (by omega) fun k e => by cases e; exact hg5l.1
            exact hall.trans (hm5.below (B := w.heap.size) (fun k e => by omega) (by omega))
end Go.Proofs.YtbeabehebenocaaGreatDoor
end

section
/- Bytes as texts, and their comparison. -/
namespace Go.Proofs.YtbeabehebenocaaGreatDoor
open Go.RowKit

def bytes8 (f : Nat → Nat) (n : Nat) : List UInt8 := (List.range n).map fun k => UInt8.ofNat (f k)
def strOf (f : Nat → Nat) (n : Nat) : ByteArray := ⟨(bytes8 f n).toArray⟩
theorem bytes8_length (f : Nat → Nat) (n : Nat) : (bytes8 f n).length = n := by simp [bytes8]
theorem strOf_size (f : Nat → Nat) (n : Nat) : (strOf f n).size = n := by simp [strOf, ByteArray.size, bytes8]
theorem conv_str {P : Program} (w : World) (src dst e : TypeId) (b o n cap : Nat) (f : Nat → Nat) (hf : ∀ k, f k < 256) (h : RdB w b o n f)
    (hs : P.underlying src = some (.slice e)) (he : P.underlying e = some (.int .u8)) (hd : P.underlying dst = some .string) :
    (convert src dst (.slice (some ⟨b, o, none⟩) n cap)).run P w = .ok (.string (strOf f n)) w := by
  have h2 := run_convert_bytes_back (P := P) w src dst e ⟨b, o, none⟩ cap (bytes8 f n) hs he hd
  have h3 := h2 fun j hj => ?_
  · rw [bytes8_length] at h3; exact h3
  have hj' : j < n := by rwa [bytes8_length] at hj
  have : (⟨b, o, none⟩ : Addr).add j = ⟨b, o + j, none⟩ := by cases j <;> simp [Addr.add]
  rw [this, h j hj']
  have hl : f j < 256 := hf j
  simp [bytes8, Nat.mod_eq_of_lt hl]
theorem bytes8_inj {f g : Nat → Nat} (hf : ∀ k, f k < 256) (hg : ∀ k, g k < 256) {n m : Nat} : bytes8 f n = bytes8 g m ↔ n = m ∧ ∀ k, k < n → f k = g k := by
  constructor
  · intro h
    have hl : n = m := by have := congrArg List.length h; simpa [bytes8_length] using this
    subst hl
    refine ⟨rfl, fun k hk => ?_⟩
    have h2 : (bytes8 f n)[k]? = (bytes8 g n)[k]? := by rw [h]
    simp [bytes8, hk] at h2
    have h3 := congrArg UInt8.toNat h2
    simp at h3
    rwa [Nat.mod_eq_of_lt (hf k), Nat.mod_eq_of_lt (hg k)] at h3
  · rintro ⟨rfl, h⟩
    exact List.map_congr_left fun k hk => by rw [h k (by simpa using hk)]
theorem str_eq {f g : Nat → Nat} (hf : ∀ k, f k < 256) (hg : ∀ k, g k < 256) (n m : Nat) : ((strOf f n).toList == (strOf g m).toList) = decide (n = m ∧ ∀ k, k < n → f k = g k) := by
  rw [ByteArray.toList_eq, ByteArray.toList_eq]
  by_cases h : n = m ∧ ∀ k, k < n → f k = g k
  · rw [decide_eq_true h, beq_iff_eq]; exact (bytes8_inj hf hg).2 h
  · rw [decide_eq_false h, beq_eq_false_iff_ne]; exact fun e => h ((bytes8_inj hf hg).1 e)

def eqB (f g : Nat → Nat) (n : Nat) : Bool := decide (∀ k, k < n → f k = g k)
theorem beq_c (b1 o1 c1 b2 o2 c2 n : Nat) (f g : Nat → Nat) (hf : ∀ k, f k < 256) (hg : ∀ k, g k < 256) (w : World) (h1 : RdB w b1 o1 n f) (h2 : RdB w b2 o2 n g) :
    Calls Tryz.prog 34 #[.slice (some ⟨b1, o1, none⟩) n c1, .slice (some ⟨b2, o2, none⟩) n c2] w fun e w' => e = .returned (.bool (eqB f g n)) ∧ w = w' := by
  have k1 := conv_str (P := Tryz.prog) w 25 9 5 b1 o1 n c1 f hf h1 Tryz.underlying25 Tryz.underlying5 Tryz.underlying9
  have k2 := conv_str (P := Tryz.prog) w 25 9 5 b2 o2 n c2 g hg h2 Tryz.underlying25 Tryz.underlying5 Tryz.underlying9
  go_enter Tryz.func34, Tryz.ntmps34
  go_wp2
  go_ret
  exact ⟨by rw [show eqB f g n = ((strOf f n).toList == (strOf g n).toList) by rw [str_eq hf hg]; simp [eqB]]; rfl, rfl⟩
end Go.Proofs.YtbeabehebenocaaGreatDoor
end

section
/- strings.IndexByte, by the shelf's contract (laid by the kit's tool). -/
namespace Go.Proofs.YtbeabehebenocaaGreatDoor
open Go.Shelf
def lays137_ren : Go.Shelf.Ren := ⟨fun | 137 => 109 | 217 => 115 | 266 => 118 | n => n, fun | 9 => 9 | 5 => 5 | 3 => 3 | n => n, fun | n => n⟩
theorem lays137 : Go.Proofs.Lays.n137 Tryz.prog lays137_ren := {
  mixed := by kernel_rfl
  f137 := Tryz.func109.trans (congrArg some (by kernel_rfl))
  f217 := Tryz.func115.trans (congrArg some (by kernel_rfl))
  f266 := Tryz.func118.trans (congrArg some (by kernel_rfl))
  t3 := Tryz.underlying3
  a3 := Tryz.isAgg3
  z3 := Tryz.sizeOf3
  v3 := Tryz.zeroValue3
  t5 := Tryz.underlying5
  a5 := Tryz.isAgg5
  z5 := Tryz.sizeOf5
  v5 := Tryz.zeroValue5
  t9 := Tryz.underlying9
  a9 := Tryz.isAgg9
  z9 := Tryz.sizeOf9
  v9 := Tryz.zeroValue9 }
open Go.RowKit in
/-- strings.IndexByte: "IndexByte returns the index of the first instance of c in s, or -1 if c is not present in s.": IT RETURNS 'Lib.indexByte s c'; the world is as it was. (LAID: no walk: one application.) -/
theorem strings_IndexByte (s : ByteArray) (c : Int) (w : World) :
    Calls Tryz.prog 109 #[.string s, .int .u8 c] w fun e w' => e = .returned (.int .i64 (Lib.indexByte s.data.toList c.toNat.toUInt8)) ∧ w' = w := Any.strings_IndexByte lays137 s c w
end Go.Proofs.YtbeabehebenocaaGreatDoor
end

section
/- Names of entries. -/
namespace Go.Proofs.YtbeabehebenocaaGreatDoor
open Go.RowKit

/-- may an entry have a name? -/
def nameOk (s : ByteArray) : Bool := decide (0 < s.size) && (decide (s.size ≤ 27) && (decide (Lib.indexByte s.data.toList 0 < 0) && decide (Lib.indexByte s.data.toList 47 < 0)))
theorem ix_ge : ∀ (l : List UInt8) (c : UInt8), -1 ≤ Lib.indexByte l c
  | [], _ => by simp [Lib.indexByte]
  | b :: l, c => by
    have := ix_ge l c
    simp only [Lib.indexByte]
    split
    · omega
    · split <;> omega
theorem ix_neg : ∀ (l : List UInt8) (c : UInt8), Lib.indexByte l c < 0 ↔ ∀ b ∈ l, b ≠ c
  | [], _ => by simp [Lib.indexByte]
  | b :: l, c => by
    have ih := ix_neg l c
    have hg := ix_ge l c
    simp only [Lib.indexByte, List.mem_cons, forall_eq_or_imp]
    by_cases hb : b = c
    · subst hb; simp
    · have : (b == c) = false := by simp [hb]
      rw [this, ← ih]
      by_cases hm : Lib.indexByte l c = -1
      · simp [hm, hb]
      · have : (Lib.indexByte l c == -1) = false := by simp [hm]
        simp only [this, Bool.false_eq_true, if_false]
        constructor
        · intro h; exact absurd h (by omega)
        · rintro ⟨_, h⟩; omega
theorem dlen (s : ByteArray) : s.data.toList.length = s.size := by rw [Array.length_toList]; rfl
theorem empty_iff (s : ByteArray) : s.toList.isEmpty = decide (s.size = 0) := by
  rw [ByteArray.toList_eq]
  have hl := dlen s
  cases h : s.data.toList with
  | nil => rw [h] at hl; simp only [List.length_nil] at hl; rw [decide_eq_true hl.symm]; rfl
  | cons a l => rw [h] at hl; simp only [List.length_cons] at hl; rw [decide_eq_false (by omega)]; rfl

theorem name_c (s : ByteArray) (hs : s.size ≤ 1000000) (w : World) : Calls Tryz.prog 100 #[.string s] w fun e w' => e = .returned (.bool (nameOk s)) ∧ w = w' := by
  have he := empty_iff s
  by_cases h0 : s.size = 0
  · have hn : nameOk s = false := by simp [nameOk, h0]
    have Hn := Lib.hid hn; clear hn
    rw [decide_eq_true h0] at he
    go_enter Tryz.func100, Tryz.ntmps100
    go_wp2
    go_ret
    exact ⟨by rw [Hn.out]; rfl, rfl⟩
  · rw [decide_eq_false h0] at he
    by_cases h1 : s.size ≤ 27
    · have t1 : decide ((s.size : Int) ≤ 27) = true := by simp; omega
      have hn0 : nameOk s = (decide (Lib.indexByte s.data.toList 0 < 0) && decide (Lib.indexByte s.data.toList 47 < 0)) := by
        have : (0 : Nat) < s.size := by omega
        simp [nameOk, h1, this]
      by_cases h2 : Lib.indexByte s.data.toList 0 < 0
      · have t2 : decide (Lib.indexByte s.data.toList 0 < 0) = true := by simp [h2]
        rw [t2, Bool.true_and] at hn0
        have Hn := Lib.hid hn0; clear hn0
        go_enter Tryz.func100, Tryz.ntmps100
        go_wp2_with (go_at_call 109; refine (strings_IndexByte s _ _).mono ?_; rintro e w2 ⟨rfl, rfl⟩)
        go_ret
        exact ⟨by rw [Hn.out]; rfl, rfl⟩
      · have t2 : decide (Lib.indexByte s.data.toList 0 < 0) = false := by simp [h2]
        rw [t2, Bool.false_and] at hn0
        have Hn := Lib.hid hn0; clear hn0
        go_enter Tryz.func100, Tryz.ntmps100
        go_wp2_with (go_at_call 109; refine (strings_IndexByte s _ _).mono ?_; rintro e w2 ⟨rfl, rfl⟩)
        go_ret
        exact ⟨by rw [Hn.out]; rfl, rfl⟩
    · have t1 : decide ((s.size : Int) ≤ 27) = false := by simp; omega
      have hn : nameOk s = false := by simp [nameOk, h1]
      have Hn := Lib.hid hn; clear hn
      go_enter Tryz.func100, Tryz.ntmps100
      go_wp2
      go_ret
      exact ⟨by rw [Hn.out]; rfl, rfl⟩

/-- a byte of a text as a number -/
def chr (s : ByteArray) (k : Nat) : Nat := (s.data.toList.getD k 0).toNat
theorem rname_c (s : ByteArray) (hs : s.size ≤ 1000000) (w : World) : Calls Tryz.prog 26 #[.string s] w fun e w' => e = .returned (.bool (nameOk s)) ∧ w = w' := by
  have hl := dlen s
  go_enter Tryz.func26, Tryz.ntmps26
  go_wp2
  go_loop [3] (fun i => ∃ k : Nat, k ≤ s.size ∧ i = .int .i64 k ∧ ∀ j, j < k → s.data.toList[j]? ≠ some 0 ∧ s.data.toList[j]? ≠ some 47) (fun i => s.size - (intOf i).toNat)
  case atStart => exact ⟨0, Nat.zero_le _, rfl, fun j hj => by omega⟩
  case round =>
    obtain ⟨k, hk, rfl, hno⟩ := hrel
    by_cases hlt : k < s.size
    · have HN := Lib.hid hno; clear hno
      have hget : s.data.toList[k]? = some s[k] := by rw [List.getElem?_eq_getElem (by omega)]; rfl
      by_cases hbad : s[k] = 0 ∨ s[k] = 47
      · have hn : nameOk s = false := by
          have hmem : s[k] ∈ s.data.toList := List.mem_of_getElem? hget
          rcases hbad with h | h
          · have : ¬ Lib.indexByte s.data.toList 0 < 0 := fun h2 => (ix_neg _ _).1 h2 _ hmem h
            simp [nameOk, this]
          · have : ¬ Lib.indexByte s.data.toList 47 < 0 := fun h2 => (ix_neg _ _).1 h2 _ hmem h
            simp [nameOk, this]
        have Hn := Lib.hid hn; have HG := Lib.hid hget; clear hn hget
        rcases hbad with h | h
        · have t1 : (((s[k].toNat : Nat) : Int) == 0) = true := by rw [h]; rfl
          clear h
          go_wp2
          go_ret
          exact ⟨by rw [Hn.out]; rfl, rfl⟩
        · have t1 : (((s[k].toNat : Nat) : Int) == 0) = false := by rw [h]; rfl
          have t2 : (((s[k].toNat : Nat) : Int) == 47) = true := by rw [h]; rfl
          clear h
          go_wp2
          go_ret
          exact ⟨by rw [Hn.out]; rfl, rfl⟩
      · have t1 : (((s[k].toNat : Nat) : Int) == 0) = false := by
          rw [beq_eq_false_iff_ne]; intro e; apply hbad; left; apply UInt8.toNat_inj.1; show _ = 0; omega
        have t2 : (((s[k].toNat : Nat) : Int) == 47) = false := by
          rw [beq_eq_false_iff_ne]; intro e; apply hbad; right; apply UInt8.toNat_inj.1; show _ = 47; omega
        have HG := Lib.hid hget; have HB := Lib.hid hbad; clear hget hbad
        go_wp2
        go_round
        case rel =>
          refine ⟨k + 1, by omega, by go_num, fun j hj => ?_⟩
          by_cases e : j = k
          · subst e; rw [HG.out]
            exact ⟨fun e => HB.out (.inl (Option.some.inj e)), fun e => HB.out (.inr (Option.some.inj e))⟩
          · exact HN.out j (by omega)
        case measure => simp [intOf]; omega
    · obtain rfl : k = s.size := by omega
      have h0 : Lib.indexByte s.data.toList 0 < 0 := (ix_neg _ _).2 fun b hb e => by
        obtain ⟨j, hj, e2⟩ := List.getElem_of_mem hb
        exact (hno j (by omega)).1 (by rw [List.getElem?_eq_getElem hj, e2, e])
      have h1 : Lib.indexByte s.data.toList 47 < 0 := (ix_neg _ _).2 fun b hb e => by
        obtain ⟨j, hj, e2⟩ := List.getElem_of_mem hb
        exact (hno j (by omega)).2 (by rw [List.getElem?_eq_getElem hj, e2, e])
      have hn : nameOk s = (decide (0 < s.size) && decide (s.size ≤ 27)) := by simp [nameOk, h0, h1]
      have he := empty_iff s
      clear h0 h1 hno
      by_cases hz : s.size = 0
      · rw [decide_eq_true hz] at he
        rw [decide_eq_false (by omega), Bool.false_and] at hn
        have Hn := Lib.hid hn; clear hn
        go_wp2
        go_ret
        exact ⟨by rw [Hn.out]; rfl, rfl⟩
      · rw [decide_eq_false hz] at he
        have t1 : decide ((s.size : Int) ≤ 27) = decide (s.size ≤ 27) := by
          by_cases h : s.size ≤ 27
          · rw [decide_eq_true h]; simp; omega
          · rw [decide_eq_false h]; simp; omega
        rw [decide_eq_true (by omega), Bool.true_and, ← t1] at hn
        have Hn := Lib.hid hn; clear hn t1
        go_wp2
        go_ret
        exact ⟨by rw [Hn.out]; rfl, rfl⟩
end Go.Proofs.YtbeabehebenocaaGreatDoor
end

section
/- Entries as bytes, packed. -/
namespace Go.Proofs.YtbeabehebenocaaGreatDoor
open Go.RowKit
open Go.Lib (byteCells byteCells_length)

theorem chr_lt (s : ByteArray) (k : Nat) : chr s k < 256 := by
  unfold chr
  exact UInt8.toNat_lt _
theorem byteCells_chr (s : ByteArray) : byteCells s.data.toList = bytesL (chr s) s.size := by
  apply List.ext_getElem?
  intro k
  by_cases hk : k < s.size
  · rw [bytesL_get _ _ _ hk]
    have : k < s.data.toList.length := by rw [dlen]; exact hk
    simp [byteCells, chr, List.getElem?_eq_getElem this, List.getD_eq_getElem?_getD]
  · rw [List.getElem?_eq_none (by rw [byteCells_length, dlen]; omega), List.getElem?_eq_none (by rw [bytesL_length]; omega)]
/-- an entry's bytes -/
def entF (ino : Nat) (s : ByteArray) : Nat → Nat := putF (fun k => if k < 4 then byteN ino k else if k = 4 then s.size else 0) 5 s.size (chr s)
/-- may an entry be packed? -/
def entOk (ino : Nat) (s : ByteArray) : Bool := decide (ino = 0) && decide (s.size = 0) || (decide (ino ≠ 0) && nameOk s)
theorem entOk_size {ino : Nat} {s : ByteArray} (h : entOk ino s = true) : s.size ≤ 27 := by
  simp only [entOk, nameOk, Bool.or_eq_true, Bool.and_eq_true, decide_eq_true_eq] at h
  omega
theorem entF_lt {ino : Nat} {s : ByteArray} (h : s.size ≤ 27) : ∀ k, entF ino s k < 256 := putF_lt (fun k => by (repeat' split) <;> first | exact byteN_lt _ _ | omega) (chr_lt s)

theorem step_copy_str {P : Program} {ops : Array Oper} {o : Oper} {a : Act} {w : World} {K : Act → World → Prop} {Q : Exit → Act → World → Prop} {E : Prop}
    (hg : o.guard = none) (d x : Operand) (dT sT : TypeId) (hop : o.op = Op.call { callee := Callee.builtin Builtin.copy, args := #[d, x], argTypes := #[dT, sT] })
    (elem : TypeId) (hu : P.underlying dT = some (.slice elem)) (hsz : (P.info? elem).map (·.size) = some 1)
    (g off dLen dCap : Nat) (hd : a.eval d = .slice (some ⟨g, off, none⟩) dLen dCap) (s : ByteArray) (hx : a.eval x = .string s) (hle : s.size ≤ dLen)
    (n : Nat) (f : Nat → Nat) (t : TypeId) (hb : Blk t w g (bytesL f n)) (hfit : off + s.size ≤ n)
    (hK : ∀ w', Blk t w' g (bytesL (putF f off s.size (chr s)) n) → Mods (fun k => k = g) w w' → K (a.put o.dst (goInt s.size)) w') :
    if Region.wanted o (yielded ops a.tmps) = true then Oper.wp P o a w K Q else E := by
  have hw : Region.wanted o (yielded ops a.tmps) = true := by simp [Region.wanted, hg]
  rw [if_pos hw]
  have hrun := Lib.run_copy_row_string (P := P) w dT sT o.type elem g off dLen dCap s (bytesL f n).toArray t hu hsz hb hle (by simp [bytesL_length]; omega)
  unfold Oper.wp
  simp [execOp, hop, resolve, invoke, builtin, hd, hx, hrun, Result.andThen]
  refine hK _ ?_ ⟨rfl, rfl, rfl, by simp, fun k _ hk => setRow_other w g k _ hk⟩
  rw [← bytesL_put _ _ _ _ _ hfit, ← byteCells_chr]
  have h2 := setRow_heap w g (bytesL f n).toArray (List.take off (bytesL f n) ++ (byteCells s.data.toList ++ List.drop (off + s.size) (bytesL f n))).toArray t (0, 0) hb
  have hl : (byteCells s.data.toList).length = s.size := by rw [byteCells_length, dlen]
  unfold Blk
  simp [splice, hl] at h2 ⊢
  exact h2

theorem ent_zero (s : ByteArray) (h : s.size = 0) : ∀ k, entF 0 s k = 0 := fun k => by
  have hb : byteN 0 k = 0 := by simp [byteN]
  simp [entF, putF, h, hb]
  intro h1 h2; omega
set_option maxRecDepth 100000 in
set_option maxHeartbeats 1000000 in
theorem epack_c (ino : Nat) (s : ByteArray) (hi : ino < 4294967296) (hs : s.size ≤ 1000000) (w : World) :
    Calls Tryz.prog 79 #[.agg #[.int .i64 ino, .string s]] w fun e w' => Below w.heap.size w w' ∧
      (entOk ino s = true → ∃ B, e = .returned (.tuple #[.slice (some ⟨B, 0, none⟩) 32 32, .int .i64 0]) ∧ w.heap.size ≤ B ∧ Blk 5 w' B (bytesL (entF ino s) 32)) ∧
      (entOk ino s = false → e = .returned (.tuple #[.slice none 0 0, .int .i64 1])) := by
  obtain ⟨i0, hi0, hz0, hz1, hz2⟩ := info_parts info8
  have he := empty_iff s
  have hshift : (ino : Int) / 2 ^ 32 = 0 := by omega
  have hshift2 : (ino : Int) / 4294967296 = 0 := by omega
  have hshift3 : ((ino : Int) / 2 ^ 32 != 0) = false := by rw [hshift]; rfl
  have hshift4 : ((ino : Int) / 4294967296 != 0) = false := by rw [hshift2]; rfl
  by_cases h0 : ino = 0
  · subst h0
    by_cases hz : s.size = 0
    · rw [decide_eq_true hz] at he
      have ho : entOk 0 s = true := by simp [entOk, hz]
      have Ho := Lib.hid ho; have Hz := Lib.hid hz; clear ho hz
      go_enter Tryz.func79, Tryz.ntmps79
      go_wp2_with (at_make; refine mk_one _ rfl _ _ 25 rfl 5 i0 (.int .u8 0) 1 Tryz.underlying25 hi0 hz0 hz1 hz2 rfl _ _ _ _ 32 rfl rfl rfl rfl (by omega) (by unfold maxLen; omega) ?_; intro w1 hblk hgr; rw [zeros_bytes, World.size_alloc] at hblk; have HB := Lib.hid hblk; clear hblk; have hB1 := (Below.refl _ _).grown hgr (Nat.le_refl _) (fun k e => by cases e); obtain ⟨hc, hf⟩ := bcell hB1; have hB := ((Below.refl w.heap.size w).alloc (Nat.le_refl _) _).trans (hB1.mono (by simp)))
      go_ret2
      exact ⟨hB, fun _ => ⟨_, rfl, by omega, by rw [bytesL_congr (g := fun _ => 0) (fun k _ => ent_zero s Hz.out k)]; exact HB.out⟩, fun h => by rw [Ho.out] at h; cases h⟩
    · rw [decide_eq_false hz] at he
      have ho : entOk 0 s = false := by simp [entOk, hz]
      have Ho := Lib.hid ho; clear ho
      go_enter Tryz.func79, Tryz.ntmps79
      go_wp2_with (at_make; refine mk_one _ rfl _ _ 25 rfl 5 i0 (.int .u8 0) 1 Tryz.underlying25 hi0 hz0 hz1 hz2 rfl _ _ _ _ 32 rfl rfl rfl rfl (by omega) (by unfold maxLen; omega) ?_; intro w1 hblk hgr; rw [zeros_bytes, World.size_alloc] at hblk; have HB := Lib.hid hblk; clear hblk; have hB1 := (Below.refl _ _).grown hgr (Nat.le_refl _) (fun k e => by cases e); obtain ⟨hc, hf⟩ := bcell hB1; have hB := ((Below.refl w.heap.size w).alloc (Nat.le_refl _) _).trans (hB1.mono (by simp)))
      go_ret2
      exact ⟨hB, fun h => by (rw [Ho.out] at h; cases h), fun _ => rfl⟩
  · have t0 : (((ino : Nat) : Int) == 0) = false := by rw [beq_eq_false_iff_ne]; omega
    have t1 : decide (((ino : Nat) : Int) ≤ 0) = false := by simp; omega
    have t2 : (((0 : Int)) != 0) = false := rfl
    have ho : entOk ino s = nameOk s := by simp [entOk, h0]
    cases hn : nameOk s with
    | false =>
      have NC : ∀ W, Calls Tryz.prog 100 #[.string s] W fun e w' => e = .returned (.bool false) ∧ W = w' := fun W => by have := name_c s hs W; rwa [hn] at this
      rw [hn] at ho
      have Ho := Lib.hid ho; have HN := Lib.hid NC; clear ho hn he NC
      go_enter Tryz.func79, Tryz.ntmps79
      go_wp2_with (first | (go_at_call 100; refine (HN.out _).mono ?_; rintro e w2 ⟨rfl, rfl⟩) | (at_make; refine mk_one _ rfl _ _ 25 rfl 5 i0 (.int .u8 0) 1 Tryz.underlying25 hi0 hz0 hz1 hz2 rfl _ _ _ _ 32 rfl rfl rfl rfl (by omega) (by unfold maxLen; omega) ?_; intro w1 hblk hgr; rw [zeros_bytes, World.size_alloc] at hblk; have HB := Lib.hid hblk; clear hblk; have hB1 := (Below.refl _ _).grown hgr (Nat.le_refl _) (fun k e => by cases e); obtain ⟨hc, hf⟩ := bcell hB1; have hB := ((Below.refl w.heap.size w).alloc (Nat.le_refl _) _).trans (hB1.mono (by simp))))
      go_ret2
      exact ⟨hB, fun h => by (rw [Ho.out] at h; cases h), fun _ => rfl⟩
    | true =>
      have NC : ∀ W, Calls Tryz.prog 100 #[.string s] W fun e w' => e = .returned (.bool true) ∧ W = w' := fun W => by have := name_c s hs W; rwa [hn] at this
      rw [hn] at ho
      have hs27 := entOk_size ho
      have hs0 : 0 < s.size := by simp only [nameOk, Bool.and_eq_true, decide_eq_true_eq] at hn; omega
      have Ho := Lib.hid ho; have HN := Lib.hid NC; clear ho hn he NC
      go_enter Tryz.func79, Tryz.ntmps79
      go_wp2_with (first | (go_at_call 100; refine (HN.out _).mono ?_; rintro e w2 ⟨rfl, rfl⟩) | (at_make; refine mk_one _ rfl _ _ 25 rfl 5 i0 (.int .u8 0) 1 Tryz.underlying25 hi0 hz0 hz1 hz2 rfl _ _ _ _ 32 rfl rfl rfl rfl (by omega) (by unfold maxLen; omega) ?_; intro w1 hblk hgr; rw [zeros_bytes, World.size_alloc] at hblk; have HB := Lib.hid hblk; clear hblk; have hB1 := (Below.refl _ _).grown hgr (Nat.le_refl _) (fun k e => by cases e); obtain ⟨hc, hf⟩ := bcell hB1; have hB := ((Below.refl w.heap.size w).alloc (Nat.le_refl _) _).trans (hB1.mono (by simp))))
      have hsz1 := hB1.size
      rw [World.size_alloc] at hsz1
      go_loopw [31] (fun i wr => ∃ k : Nat, k ≤ 4 ∧ i = .int .i64 k ∧ Blk 5 wr (w.heap.size + 1) (bytesL (fun j => if j < k then byteN ino j else 0) 32) ∧ Below w.heap.size w wr ∧ wr.cell? ⟨w.heap.size, 0, none⟩ = some (.int .i64 ino) ∧ wr.cell? ⟨w.heap.size, 1, none⟩ = some (.string s)) (fun i _ => 4 - (intOf i).toNat)
      case atStart => exact ⟨0, by omega, rfl, by simpa using HB.out, hB, by rw [hc _ _ (by simp)]; simp, by rw [hc _ _ (by simp)]; simp⟩
      case round =>
        obtain ⟨k, hk, rfl, hblk, hBr, c0, c1⟩ := hrel
        by_cases hlt : k < 4
        · have hck := hblk.cell k
          rw [bytesL_get _ _ _ (by omega)] at hck
          have hfk := hblk.frozen k
          go_wp2
          go_roundw
          case rel =>
            refine ⟨k + 1, by omega, by go_num, ?_, hBr.setCell (p := ⟨w.heap.size + 1, k, none⟩) (by simp) _, ?_, ?_⟩
            · have h2 := hblk.set k (.int .u8 ((byteN ino k : Nat) : Int))
              rw [bytesL_set _ _ _ _ (by omega)] at h2
              rw [← byte_eq] at h2
              rw [show bytesL (fun j => if j < k + 1 then byteN ino j else 0) 32 = bytesL (fun j => if j = k then byteN ino k else if j < k then byteN ino j else 0) 32 from bytesL_congr fun j _ => by
                by_cases e : j = k
                · subst e; simp
                · by_cases e2 : j < k
                  · have : j < k + 1 := by omega
                    simp [e, e2, this]
                  · have : ¬ j < k + 1 := by omega
                    simp [e, e2, this]]
              exact h2
            · rw [World.cell?_setCell_other _ _ _ _ (by simp)]; exact c0
            · rw [World.cell?_setCell_other _ _ _ _ (by simp)]; exact c1
          case measure => simp [intOf]; omega
        · obtain rfl : k = 4 := by omega
          have hck := hblk.cell 4
          rw [bytesL_get _ _ _ (by omega)] at hck
          have hfk := hblk.frozen 4
          have hb4 : Hid (Blk 5 (wr.setCell ⟨w.heap.size + 1, 4, none⟩ (.int .u8 (s.size : Int))) (w.heap.size + 1) (bytesL (fun j => if j = 4 then s.size else if j < 4 then byteN ino j else 0) 32)) := by
            have h2 := hblk.set 4 (.int .u8 (s.size : Int))
            rwa [bytesL_set _ _ _ _ (by omega)] at h2
          go_wp2
          go_region_law (refine step_copy_str rfl _ _ 25 9 rfl 5 Tryz.underlying25 (by kernel_rfl) (w.heap.size + 1) 5 27 27 rfl s rfl (by omega) 32 (fun j => if j = 4 then s.size else if j < 4 then byteN ino j else 0) 5 (by exact hb4.out.drew) (by omega) ?_; intro w5 hb5 hm5)
          go_wp2
          go_ret2
          refine ⟨?_, fun _ => ⟨_, rfl, by omega, ?_⟩, fun h => by (rw [Ho.out] at h; cases h)⟩
          · exact ((hBr.setCell (p := ⟨w.heap.size + 1, 4, none⟩) (by simp) _).drew).trans (hm5.below (B := w.heap.size) (fun k e => by omega) (by have := hBr.size; simp; omega))
          · rw [show bytesL (entF ino s) 32 = bytesL (putF (fun j => if j = 4 then s.size else if j < 4 then byteN ino j else 0) 5 s.size (chr s)) 32 from bytesL_congr fun j _ => by
              unfold entF putF
              by_cases e : 5 ≤ j ∧ j < 5 + s.size
              · rw [if_pos e, if_pos e]
              · rw [if_neg e, if_neg e]
                by_cases e2 : j = 4
                · simp [e2]
                · by_cases e3 : j < 4 <;> simp [e2, e3]]
            exact hb5
end Go.Proofs.YtbeabehebenocaaGreatDoor
end
