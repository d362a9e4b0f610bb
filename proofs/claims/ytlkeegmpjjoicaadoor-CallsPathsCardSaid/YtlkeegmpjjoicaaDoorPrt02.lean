/- Part of the road to ClPrintCard: ClRead1, ClFields, ClMap, ClWords, ClPrintL, ClRow0, ClPrint. -/
import Derived.Lib.AtoiErrMem
import Derived.Lib.OthersKept
import Derived.Deep.RegionWith
import Derived.Deep.RegionHeld3
import Derived.Maps.OwnIn
import Derived.Maps.Ext
import Derived.Sort.Grow
import Derived.Test.YtlkeegmpjjoicaaDoorRows
import Derived.WalkKit
import Derived.ProofKit
import Derived.OpenShut
import Derived.Below
import Derived.ChangeSame
import Derived.LaidLaws
import Derived.Lib.LaidTab
import Derived.Lib.SmallJoins
import Derived.WideKeyArgs
import Derived.Carry
import Derived.Shelf.Vars
import Derived.JoinedOf
import Derived.Stop.LaidErr
import Derived.JoinedAt
import Derived.SizedLaws
import Derived.Deep.DeepCutAuto
import Derived.Tactics2
import Derived.Test.YtlkeegmpjjoicaaDoorPrt01
set_option linter.all false
set_option linter.unusedSimpArgs false
set_option linter.unusedVariables false
set_option linter.unusedSectionVars false
section
/- A field read: number, bytes, read. -/
namespace Go.Proofs.YtlkeegmpjjoicaaDoor
open Go.RowKit

theorem itoa_len (n : Int) (h0 : -9223372036854775808 ≤ n) (h1 : n ≤ 9223372036854775807) : (Lib.itoa n).length ≤ 21 := Lib.itoa_length_le n h0 h1
theorem SlB.mods {w w' : World} {v : Value} {l : List UInt8} {s : Nat → Prop} (h : SlB w v l) (hm : Mods s w w') (hn : ∀ g, v.ownBlock = some g → ¬ s g) : SlB w' v l := by
  obtain ⟨a, cap, rfl, h⟩ := h
  refine ⟨a, cap, rfl, h.imp id ?_⟩
  rintro ⟨b, o, rfl, h2⟩
  exact ⟨b, o, rfl, fun j x hj => by
    have h1 := h2 j x hj
    rw [hm.cell (lt_of_cell h1) (hn b rfl)]; exact h1⟩
theorem below_drewN {B : Nat} {w w2 : World} (h : Below B w w2) (n : Nat) : Below B w (w2.drewN n) := ⟨h.os, h.tape, h.output, h.size, h.block⟩
theorem atoi_below {w w2 : World} {e : TypeId} (h : w2 = w ∨ ∃ t, w2 = Lib.bytesWorld w e t) : Below w.heap.size w w2 := by
  rcases h with rfl | ⟨t, rfl⟩
  · exact Below.refl _ _
  · exact Lib.bytesWorld_below _ _ _
theorem number_c (n : Int) (h0 : -9223372036854775808 ≤ n) (h1 : n ≤ 9223372036854775807) (s : ByteArray) (hs : s.data.toList = Lib.itoa n) (w : World) :
    Calls Tryd.prog 37 #[.string s] w fun e w' => e = .returned (.tuple #[.int .i64 n, .bool true]) ∧ Below w.heap.size w w' := by
  have hat : Lib.atoiAll s.data.toList = .ok n := by rw [hs]; exact atoi_itoa n h0 h1
  have hsz : s.size ≤ 21 := by rw [← sz, hs]; exact itoa_len n h0 h1
  have HA := Lib.hid hat
  clear hat hs
  go_enter Tryd.func37, Tryd.ntmps37
  go_wp2_with (go_at_call 45; refine (Tryd.strconv_Atoi_ok s (by omega) n HA.out _).mono ?_; rintro e w2 ⟨rfl, hw⟩; have HB := Lib.hid (atoi_below hw); clear hw)
  go_quiet (fail)
  go_wp2
  go_ret2
  exact ⟨rfl, below_drewN HB.out _⟩
theorem bytes_c (l : List UInt8) (hl : l.length ≤ 100000) (s : ByteArray) (hs : s.data.toList = datL l) (w : World) :
    Calls Tryd.prog 39 #[.string s] w fun e w' => ∃ v, e = .returned (.tuple #[v, .bool true]) ∧ SlB w' v l ∧ (∀ b, v.ownBlock = some b → w.heap.size ≤ b) ∧ Below w.heap.size w w' := by
  by_cases h0 : l = []
  · subst h0
    have he : (s.toList == [45]) = true := by rw [ByteArray.toList_eq, hs]; rfl
    have hs2 : s.toList = [45] := by rw [ByteArray.toList_eq, hs]; rfl
    clear hs
    go_enter Tryd.func39, Tryd.ntmps39
    go_wp2
    go_ret2
    exact ⟨_, rfl, ⟨none, 0, rfl, .inl ⟨rfl, rfl⟩⟩, (fun b h => by cases h), Below.refl _ _⟩
  · have hd : datL l = hexL l := if_neg h0
    rw [hd] at hs
    have hp : 0 < l.length := List.length_pos_iff.2 h0
    have hne : hexL l ≠ [45] := fun e => by have := congrArg List.length e; rw [hexL_length] at this; simp at this; omega
    have he : (s.toList == [45]) = false := by rw [ByteArray.toList_eq, hs, beq_eq_false_iff_ne]; exact hne
    have hs3 : ¬ s.toList = [45] := by rw [ByteArray.toList_eq, hs]; exact hne
    have HS := Lib.hid hs
    clear hs hd hne h0
    go_enter Tryd.func39, Tryd.ntmps39
    go_wp2_with (go_at_call 44; refine (unhexed_c l (by omega) s HS.out _).mono ?_; rintro e w2 ⟨v, rfl, ho, hb⟩; have HO := Lib.hid ho; have HB := Lib.hid hb; clear ho hb)
    go_ret2
    exact ⟨_, rfl, SlB.of_own HO.out, (fun b h => (HO.out.lt b h).1), HB.out⟩

set_option maxHeartbeats 1000000 in
theorem read_str (xs : List Value) (t : TypeId) (l : List UInt8) (hl : l.length ≤ 100000) (s : ByteArray) (hs : s.data.toList = shL l) (b o : Nat) (ho : o < xs.length) (w : World) (h : Blk t w b xs) :
    Calls Tryd.prog 34 #[.string s, .func (.func 35) #[] #[], .pointer (some ⟨b, o, none⟩)] w fun e w' => e = .returned (.bool true) ∧ Blk t w' b (xs.set o (.string ⟨l.toArray⟩)) ∧ Mods (fun k => k = b) w w' := by
  have H := Lib.hid h; have HS := Lib.hid hs
  have hlt := h.lt
  clear h hs
  go_enter Tryd.func34, Tryd.ntmps34
  go_wp2_with (go_at_call 35; refine (text_c l hl s HS.out _).mono ?_; rintro e w2 ⟨rfl, hb⟩; have HB := Lib.hid hb; have H2 := Lib.hid (H.out.below hb hlt); have hc := H2.out.cell o; rw [List.getElem?_eq_getElem ho] at hc; have hf := H2.out.frozen o; clear hb)
  go_ret
  exact ⟨rfl, H2.out.set _ _, (Mods.setCell (s := fun k => k = b) ((Mods.of_below HB.out).mono (fun i hi h => by omega)) ⟨b, o, none⟩ (fun _ => rfl) _)⟩

set_option maxHeartbeats 1000000 in
theorem read_int (xs : List Value) (t : TypeId) (n : Int) (h0 : -9223372036854775808 ≤ n) (h1 : n ≤ 9223372036854775807) (s : ByteArray) (hs : s.data.toList = Lib.itoa n) (b o : Nat) (ho : o < xs.length) (w : World) (h : Blk t w b xs) :
    Calls Tryd.prog 36 #[.string s, .func (.func 37) #[] #[], .pointer (some ⟨b, o, none⟩)] w fun e w' => e = .returned (.bool true) ∧ Blk t w' b (xs.set o (.int .i64 n)) ∧ Mods (fun k => k = b) w w' := by
  have H := Lib.hid h; have HS := Lib.hid hs
  have hlt := h.lt
  clear h hs
  go_enter Tryd.func36, Tryd.ntmps36
  go_wp2_with (go_at_call 37; refine (number_c n h0 h1 s HS.out _).mono ?_; rintro e w2 ⟨rfl, hb⟩; have HB := Lib.hid hb; have H2 := Lib.hid (H.out.below hb hlt); have hc := H2.out.cell o; rw [List.getElem?_eq_getElem ho] at hc; have hf := H2.out.frozen o; clear hb)
  go_ret
  exact ⟨rfl, H2.out.set _ _, (Mods.setCell (s := fun k => k = b) ((Mods.of_below HB.out).mono (fun i hi h => by omega)) ⟨b, o, none⟩ (fun _ => rfl) _)⟩
set_option maxHeartbeats 1000000 in
theorem read_bytes (xs : List Value) (t : TypeId) (l : List UInt8) (hl : l.length ≤ 100000) (s : ByteArray) (hs : s.data.toList = datL l) (b o : Nat) (ho : o < xs.length) (w : World) (h : Blk t w b xs) :
    Calls Tryd.prog 38 #[.string s, .func (.func 39) #[] #[], .pointer (some ⟨b, o, none⟩)] w fun e w' => e = .returned (.bool true) ∧ ∃ v, SlB w' v l ∧ v.ownBlock ≠ some b ∧ Blk t w' b (xs.set o v) ∧ Mods (fun k => k = b) w w' := by
  have H := Lib.hid h; have HS := Lib.hid hs
  have hlt := h.lt
  clear h hs
  go_enter Tryd.func38, Tryd.ntmps38
  go_wp2_with (go_at_call 39; refine (bytes_c l hl s HS.out _).mono ?_; rintro e w2 ⟨v, rfl, hv, hvb, hb⟩; have HB := Lib.hid hb; have HV := Lib.hid hv; have HN := Lib.hid hvb; obtain ⟨va, vc, rfl, -⟩ := hv; have H2 := Lib.hid (H.out.below hb hlt); have hc := H2.out.cell o; rw [List.getElem?_eq_getElem ho] at hc; have hf := H2.out.frozen o; clear hb hvb)
  go_ret
  have hne : (Value.slice va l.length vc).ownBlock ≠ some b := fun e => by have := HN.out b e; omega
  exact ⟨rfl, _, HV.out.mods ((Mods.refl (fun k => k = b) _).setCell ⟨b, o, none⟩ (fun _ => rfl) _) (fun g e h => hne (by rw [e, h])), hne, H2.out.set _ _, (Mods.setCell (s := fun k => k = b) ((Mods.of_below HB.out).mono (fun i hi h => by omega)) ⟨b, o, none⟩ (fun _ => rfl) _)⟩
end Go.Proofs.YtlkeegmpjjoicaaDoor
end

section
/- The fields of a call, read. -/
namespace Go.Proofs.YtlkeegmpjjoicaaDoor
open Go.RowKit

def RdS (w : World) (b o : Nat) (P : List ByteArray) : Prop := ∀ j x, P[j]? = some x → w.cell? ⟨b, o + j, none⟩ = some (.string x)
theorem RdS.mods {w w' : World} {b o : Nat} {P : List ByteArray} {s : Nat → Prop} (h : RdS w b o P) (hm : Mods s w w') (hn : ¬ s b) : RdS w' b o P := fun j x hj => by
  have h1 := h j x hj
  rw [hm.cell (lt_of_cell h1) hn]; exact h1
def callL (c : CV) (v : Value) : List Value := [.int .i64 c.kind, .string c.path, .string c.to, .int .i64 c.off, .int .i64 c.n, v]
/-- block b holds a call -/
structure IsCall (w : World) (b : Nat) (c : CV) : Prop where
  ex : ∃ v, Blk 24 w b (callL c v) ∧ SlB w v c.dat ∧ v.ownBlock ≠ some b
theorem IsCall.lt {w : World} {b : Nat} {c : CV} (h : IsCall w b c) : b < w.heap.size := by obtain ⟨v, h, _⟩ := h.ex; exact h.lt
theorem IsCall.mods {w w' : World} {b : Nat} {c : CV} {s : Nat → Prop} (h : IsCall w b c) (hm : Mods s w w') (hn : ∀ k, k < w.heap.size → ¬ s k) : IsCall w' b c := by
  obtain ⟨v, h1, h2, h3⟩ := h.ex
  refine ⟨v, h1.mods hm (hn b h1.lt), h2.mods (hm.mono (t := fun k => s k ∧ k < w.heap.size) fun i hi hs => ⟨hs, hi⟩) (fun g _ hs => hn g hs.2 hs.1), h3⟩
structure Sized (c : CV) : Prop where
  p : c.path.size ≤ 100000
  t : c.to.size ≤ 100000
  o0 : -9223372036854775808 ≤ c.off
  o1 : c.off ≤ 9223372036854775807
  n0 : -9223372036854775808 ≤ c.n
  n1 : c.n ≤ 9223372036854775807
  d : c.dat.length ≤ 100000
def letter (f : UInt8) : Prop := f = 112 ∨ f = 113 ∨ f = 111 ∨ f = 110 ∨ f = 100

theorem iterPos_of {w : World} {k p : Nat} {s : ByteArray} (h : w.heap[k]? = some (.stringIter s p)) : w.iterPos k = p := by simp [World.iterPos, h]
theorem mods_undrew {s : Nat → Prop} {a b : World} (h : Mods s a.drew b) : Mods s a b := ⟨h.os, h.tape, h.output, h.size, h.block⟩
theorem mk_toList (s : ByteArray) : (⟨s.data.toList.toArray⟩ : ByteArray) = s := by cases s; rfl
theorem piece_at {P : List ByteArray} {K : ByteArray} {g : UInt8 → List UInt8} (hP : P.map (·.data.toList) = K.data.toList.map g) {p : Nat} (h : p < K.size) : ∃ x, P[p]? = some x ∧ x.data.toList = g K[p] := by
  have hk : K.data.toList[p]? = some K[p] := by rw [List.getElem?_eq_getElem (by rw [sz]; exact h)]; rfl
  have h1 : (P.map (·.data.toList))[p]? = some (g K[p]) := by rw [hP, List.getElem?_map, hk]; rfl
  rw [List.getElem?_map, Option.map_eq_some_iff] at h1
  exact h1
theorem fold_succ {K : ByteArray} {c o0 : CV} {p : Nat} (h : p < K.size) : (K.data.toList.take (p + 1)).foldl (fun o f => setF o c f) o0 = setF ((K.data.toList.take p).foldl (fun o f => setF o c f) o0) c K[p] := by
  have hk : K.data.toList[p]? = some K[p] := by rw [List.getElem?_eq_getElem (by rw [sz]; exact h)]; rfl
  rw [take_snoc' _ _ _ hk, List.foldl_append]; rfl
theorem IsCall.setp {w w2 : World} {b : Nat} {o c : CV} {v : Value} (hs : SlB w v o.dat) (hn : v.ownBlock ≠ some b) (h : Blk 24 w2 b ((callL o v).set 1 (.string ⟨c.path.data.toList.toArray⟩))) (hm : Mods (fun k => k = b) w w2) : IsCall w2 b (setF o c 112) :=
  ⟨v, by rw [mk_toList] at h; exact h, hs.mods hm (fun g e1 e2 => hn (by rw [e1, e2])), hn⟩
theorem IsCall.sett {w w2 : World} {b : Nat} {o c : CV} {v : Value} (hs : SlB w v o.dat) (hn : v.ownBlock ≠ some b) (h : Blk 24 w2 b ((callL o v).set 2 (.string ⟨c.to.data.toList.toArray⟩))) (hm : Mods (fun k => k = b) w w2) : IsCall w2 b (setF o c 113) :=
  ⟨v, by rw [mk_toList] at h; exact h, hs.mods hm (fun g e1 e2 => hn (by rw [e1, e2])), hn⟩
theorem IsCall.seto {w w2 : World} {b : Nat} {o c : CV} {v : Value} (hs : SlB w v o.dat) (hn : v.ownBlock ≠ some b) (h : Blk 24 w2 b ((callL o v).set 3 (.int .i64 c.off))) (hm : Mods (fun k => k = b) w w2) : IsCall w2 b (setF o c 111) :=
  ⟨v, h, hs.mods hm (fun g e1 e2 => hn (by rw [e1, e2])), hn⟩
theorem IsCall.setn {w w2 : World} {b : Nat} {o c : CV} {v : Value} (hs : SlB w v o.dat) (hn : v.ownBlock ≠ some b) (h : Blk 24 w2 b ((callL o v).set 4 (.int .i64 c.n))) (hm : Mods (fun k => k = b) w w2) : IsCall w2 b (setF o c 110) :=
  ⟨v, h, hs.mods hm (fun g e1 e2 => hn (by rw [e1, e2])), hn⟩
theorem IsCall.setd {w2 : World} {b : Nat} {o c : CV} {v v2 : Value} (hs : SlB w2 v2 c.dat) (hn : v2.ownBlock ≠ some b) (h : Blk 24 w2 b ((callL o v).set 5 v2)) : IsCall w2 b (setF o c 100) :=
  ⟨v2, h, hs, hn⟩
theorem stepW {wr W : World} {B b k : Nat} {K : ByteArray} {p : Nat} (hW : W = wr.iterAt B K (p + 1)) (hit : wr.heap[B]? = some (.stringIter K p)) : W.heap[B]? = some (.stringIter K (p + 1)) ∧ Mods (fun k => k = B) wr W ∧ W.heap.size = wr.heap.size := by
  subst hW
  exact ⟨Lib.iterAt_heap _ _ _ _ _ hit, ⟨rfl, rfl, rfl, by rw [Lib.iterAt_size]; exact Nat.le_refl _, fun k _ hn => Lib.iterAt_other _ _ _ _ _ hn⟩, Lib.iterAt_size _ _ _ _⟩
theorem IsCall.mods1 {w w' : World} {b B : Nat} {c : CV} (h : IsCall w b c) (hm : Mods (fun k => k = B) w w') (hB : b ≠ B) (hBc : ∀ t fr cs, w.heap[B]? ≠ some (.cells cs t fr)) : IsCall w' b c := by
  obtain ⟨v, h1, h2, h3⟩ := h.ex
  refine ⟨v, h1.mods hm hB, ?_, h3⟩
  obtain ⟨a, cap, rfl, h⟩ := h2
  refine ⟨a, cap, rfl, h.imp id ?_⟩
  rintro ⟨g, o, rfl, h2⟩
  exact ⟨g, o, rfl, fun j x hj => by
    have h1 := h2 j x hj
    rw [hm.cell (lt_of_cell h1) ?_]; exact h1
    intro e
    subst e
    unfold World.cell? at h1
    cases ho : w.heap[g]? with
    | none => simp [ho] at h1
    | some ob =>
      cases ob <;> simp [ho] at h1
      exact hBc _ _ _ ho⟩
set_option maxRecDepth 100000 in
set_option maxHeartbeats 2000000 in
theorem fields_c (c : CV) (hc : Sized c) (K : ByteArray) (hK : ∀ f ∈ K.data.toList, letter f) (hK3 : K.size ≤ 3) (P : List ByteArray) (hP : P.map (·.data.toList) = K.data.toList.map (fieldL c))
    (b lb lo lcap : Nat) (o0 : CV) (w : World) (hcall : IsCall w b o0) (hl : RdS w lb lo P) (hlb : lb ≠ b) (hlb2 : lb < w.heap.size) :
    Calls Tryd.prog 25 #[.pointer (some ⟨b, 0, none⟩), .string K, .slice (some ⟨lb, lo, none⟩) P.length lcap] w fun e w' => e = .returned (.bool true) ∧ IsCall w' b (K.data.toList.foldl (fun o f => setF o c f) o0) ∧ Mods (fun k => k = b) w w' := by
  have hpl : P.length = K.size := by have := congrArg List.length hP; simpa [sz] using this
  obtain ⟨n, hn⟩ : ∃ n, n = K.size := ⟨_, rfl⟩
  rw [hpl, ← hn]
  have HN := Lib.hid hn; have HL := Lib.hid hl; have HC := Lib.hid hcall; have HP := Lib.hid hP; have HK := Lib.hid hK
  have hbl := hcall.lt
  have t0 : ((n : Int) != (K.size : Int)) = false := by rw [hn]; simp
  rw [← hn] at hK3
  clear hpl hn hl hcall hP hK
  go_enter Tryd.func25, Tryd.ntmps25
  go_wp2
  go_loopw [7, 8, 9] (fun v7 _ _ wr => ∃ p : Nat, p ≤ n ∧ v7 = .bool true ∧ Hid (wr.heap[w.heap.size]? = some (.stringIter K p)) ∧ Hid (IsCall wr b ((K.data.toList.take p).foldl (fun o f => setF o c f) o0)) ∧ Hid (Mods (fun k => k = b) w wr)) (fun _ _ _ wr => n - wr.iterPos w.heap.size)
  case atStart =>
    have hm : Mods (fun k => k = b) w (w.iter K 0) := (Mods.refl _ w).alloc _
    have hm0 : Mods (fun _ => False) w (w.iter K 0) := (Mods.refl _ w).alloc _
    exact ⟨0, Nat.zero_le _, rfl, Lib.hid (World.iter_heap w K 0), Lib.hid (HC.out.mods hm0 (fun _ _ h => h)), Lib.hid hm⟩
  case round =>
    obtain ⟨p, hp, rfl, HI, HC2, HM⟩ := hrel
    by_cases hlt : p < n
    · have hpk : p < K.size := by rw [← HN.out]; exact hlt
      have hlet := HK.out K[p] (by rw [Array.mem_toList_iff]; exact Array.getElem_mem hpk)
      obtain ⟨W, hW⟩ : ∃ W, W = wr.iterAt w.heap.size K (p + 1) := ⟨_, rfl⟩
      have hnx := Lib.run_next_ascii_at (P := Tryd.prog) wr w.heap.size K p 0 HI.out hpk (by rcases hlet with h | h | h | h | h <;> rw [h] <;> decide)
      obtain ⟨hit2, hmW, hsW⟩ := stepW (b := b) (k := b) hW HI.out
      obtain ⟨x, hx, hxl⟩ := piece_at HP.out hpk
      have hCW := HC2.out.mods1 hmW (by omega) (fun t fr cs e => by rw [HI.out] at e; cases e)
      have hbz := HM.out.size
      obtain ⟨v, hv1, hv2, hv3⟩ := hCW.ex
      have hcell := ((HL.out.mods HM.out hlb).mods hmW (by omega)) p x hx
      have hfs := fold_succ (c := c) (o0 := o0) hpk
      obtain ⟨o, ho⟩ : ∃ o, o = (K.data.toList.take p).foldl (fun o f => setF o c f) o0 := ⟨_, rfl⟩
      rw [← ho] at hv1 hv2 hfs
      have HFS := Lib.hid hfs; have HIT := Lib.hid hit2; have HMW := Lib.hid hmW; have HV1 := Lib.hid hv1; have HV2 := Lib.hid hv2; have HV3 := Lib.hid hv3; have HXL := Lib.hid hxl; have HSW := Lib.hid hsW
      have hlbW : lb < W.heap.size := by have := HM.out.size; omega
      have hBW : w.heap.size < W.heap.size := by have := (Array.getElem?_eq_some_iff.1 hit2).1; omega
      have kp : (p : Int) < (n : Int) := by omega
      have kp0 : (0 : Int) ≤ (p : Int) := by omega
      clear hfs hit2 hmW hv1 hv2 hv3 hx ho hxl hCW hsW HC2
      rcases hlet with h | h | h | h | h
      · rw [h, ← hW] at hnx
        have HH := Lib.hid h
        have HXL2 := Lib.hid (HXL.out.trans (by rw [h]; rfl : fieldL c K[p] = shL c.path.data.toList))
        clear h hW
        go_wp2
        clear hnx
        refine wp_region_held_drew (S := (fun w' => w'.cell? ⟨lb, lo + p, none⟩ = some (.string x))) (by kernel_rfl) hcell (fun hHeld => ?_)
        refine wpAnyH_take (i := 0) (oi := ⟨_, _, _, _, _, _⟩) (v := ?_) rfl (by kernel_rfl) (by kernel_rfl) (by kernel_rfl) (fun _ _ _ h => h) (Or.inl ⟨by kernel_rfl, ?_⟩) (by assumption) ?_
        rotate_left
        · (intro w hSw; (try dsimp only at hSw); go_simp; first | done | with_reducible rfl)
        simp only [Act.put, List.setIfInBounds_toArray, List.set_cons_zero, List.set_cons_succ]
        refine wpAnyH_take (i := 1) (oi := ⟨_, _, _, _, _, _⟩) (v := ?_) rfl (by kernel_rfl) (by kernel_rfl) (by kernel_rfl) (fun _ _ _ h => h) (Or.inl ⟨by kernel_rfl, ?_⟩) (by assumption) ?_
        rotate_left
        · (intro w hSw; (try dsimp only at hSw); go_simp; first | done | with_reducible rfl)
        simp only [Act.put, List.setIfInBounds_toArray, List.set_cons_zero, List.set_cons_succ]
        refine wpAnyH_take (i := 2) (oi := ⟨_, _, _, _, _, _⟩) (v := ?_) rfl (by kernel_rfl) (by kernel_rfl) (by kernel_rfl) (fun _ _ _ h => h) (Or.inl ⟨by kernel_rfl, ?_⟩) (by assumption) ?_
        rotate_left
        · (intro w hSw; (try dsimp only at hSw); go_simp; first | done | with_reducible rfl)
        simp only [Act.put, List.setIfInBounds_toArray, List.set_cons_zero, List.set_cons_succ]
        refine wpAnyH_take (i := 3) (oi := ⟨_, _, _, _, _, _⟩) (v := ?_) rfl (by kernel_rfl) (by kernel_rfl) (by kernel_rfl) (fun _ _ _ h => h) (Or.inl ⟨by kernel_rfl, ?_⟩) (by assumption) ?_
        rotate_left
        · (intro w hSw; (try dsimp only at hSw); go_simp; first | done | with_reducible rfl)
        simp only [Act.put, List.setIfInBounds_toArray, List.set_cons_zero, List.set_cons_succ]
        refine wpAnyH_take (i := 4) (oi := ⟨_, _, _, _, _, _⟩) (v := ?_) rfl (by kernel_rfl) (by kernel_rfl) (by kernel_rfl) (fun _ _ _ h => h) (Or.inl ⟨by kernel_rfl, ?_⟩) (by assumption) ?_
        rotate_left
        · (intro w hSw; (try dsimp only at hSw); go_simp; first | done | with_reducible rfl)
        simp only [Act.put, List.setIfInBounds_toArray, List.set_cons_zero, List.set_cons_succ]
        refine wpAnyH_take (i := 5) (oi := ⟨_, _, _, _, _, _⟩) (v := ?_) rfl (by kernel_rfl) (by kernel_rfl) (by kernel_rfl) (fun _ _ _ h => h) (Or.inl ⟨by kernel_rfl, ?_⟩) (by assumption) ?_
        rotate_left
        · (intro w hSw; (try dsimp only at hSw); go_simp; first | done | with_reducible rfl)
        simp only [Act.put, List.setIfInBounds_toArray, List.set_cons_zero, List.set_cons_succ]
        refine wpAnyH_take (i := 6) (oi := ⟨_, _, _, _, _, _⟩) (v := ?_) rfl (by kernel_rfl) (by kernel_rfl) (by kernel_rfl) (fun _ _ _ h => h) (Or.inl ⟨by kernel_rfl, ?_⟩) (by assumption) ?_
        rotate_left
        · (intro w hSw; (try dsimp only at hSw); go_simp; first | done | with_reducible rfl)
        simp only [Act.put, List.setIfInBounds_toArray, List.set_cons_zero, List.set_cons_succ]
        refine wpAnyH_take (i := 7) (oi := ⟨_, _, _, _, _, _⟩) (v := ?_) rfl (by kernel_rfl) (by kernel_rfl) (by kernel_rfl) (fun _ _ _ h => h) (Or.inl ⟨by kernel_rfl, ?_⟩) (by assumption) ?_
        rotate_left
        · (intro w hSw; (try dsimp only at hSw); go_simp; first | done | with_reducible rfl)
        simp only [Act.put, List.setIfInBounds_toArray, List.set_cons_zero, List.set_cons_succ]
        refine wpAnyH_take (i := 8) (oi := ⟨_, _, _, _, _, _⟩) (v := ?_) rfl (by kernel_rfl) (by kernel_rfl) (by kernel_rfl) (fun _ _ _ h => h) (Or.inl ⟨by kernel_rfl, ?_⟩) (by assumption) ?_
        rotate_left
        · (intro w hSw; (try dsimp only at hSw); go_simp; first | done | with_reducible rfl)
        simp only [Act.put, List.setIfInBounds_toArray, List.set_cons_zero, List.set_cons_succ]
        refine wpAnyH_ready (rs := [9]) (by kernel_rfl) (by simp) ?_
        refine AllReadyH.cons rfl (fun K hK => ?_) AllReadyH.nil
        go_simp
        ((go_at_call 34; refine (read_str (callL o v) 24 c.path.data.toList (by rw [sz]; exact hc.p) x HXL2.out b 1 (by simp [callL]) _ (by exact HV1.out)).mono ?_; rintro e w2 ⟨rfl, hb2, hm2⟩; have HC3 := Lib.hid (IsCall.setp (w := World.drew W) HV2.out HV3.out hb2 hm2); have HM2 := Lib.hid (mods_undrew hm2); clear hb2 hm2))
        refine hK.out _ _ ?_ (fun hHeld => ?_)
        · exact (HM2.out.cell hlbW hlb).trans hHeld
        clear hK K
        refine wpAnyH_take (i := 10) (oi := ⟨_, _, _, _, _, _⟩) (v := ?_) rfl (by kernel_rfl) (by kernel_rfl) (by kernel_rfl) (fun _ _ _ h => h) (Or.inl ⟨by kernel_rfl, ?_⟩) (by assumption) ?_
        rotate_left
        · (intro w hSw; (try dsimp only at hSw); go_simp; first | done | with_reducible rfl)
        simp only [Act.put, List.setIfInBounds_toArray, List.set_cons_zero, List.set_cons_succ]
        refine wpAnyH_take (i := 11) (oi := ⟨_, _, _, _, _, _⟩) (v := ?_) rfl (by kernel_rfl) (by kernel_rfl) (by kernel_rfl) (fun _ _ _ h => h) (Or.inl ⟨by kernel_rfl, ?_⟩) (by assumption) ?_
        rotate_left
        · (intro w hSw; (try dsimp only at hSw); go_simp; first | done | with_reducible rfl)
        simp only [Act.put, List.setIfInBounds_toArray, List.set_cons_zero, List.set_cons_succ]
        refine wpAnyH_done (by kernel_rfl) ?_ _
        have HI2 := Lib.hid ((HM2.out.block _ hBW (by omega)).trans HIT.out)
        go_wp2
        go_roundw
        case rel => exact ⟨p + 1, by omega, rfl, HI2, by rw [HFS.out, HH.out]; exact HC3, Lib.hid (HM.out.trans (Mods.trans (s := fun k => k = b ∨ k = w.heap.size) (HMW.out.mono (fun i _ h => .inr h)) HM2.out (fun i _ h => .inl h)) (fun i hi h => by omega))⟩
        case measure => rw [iterPos_of HI2.out, iterPos_of HI.out]; omega
      · rw [h, ← hW] at hnx
        have HH := Lib.hid h
        have HXL2 := Lib.hid (HXL.out.trans (by rw [h]; rfl : fieldL c K[p] = shL c.to.data.toList))
        clear h hW
        go_wp2
        clear hnx
        refine wp_region_held_drew (S := (fun w' => w'.cell? ⟨lb, lo + p, none⟩ = some (.string x))) (by kernel_rfl) hcell (fun hHeld => ?_)
        refine wpAnyH_take (i := 0) (oi := ⟨_, _, _, _, _, _⟩) (v := ?_) rfl (by kernel_rfl) (by kernel_rfl) (by kernel_rfl) (fun _ _ _ h => h) (Or.inl ⟨by kernel_rfl, ?_⟩) (by assumption) ?_
        rotate_left
        · (intro w hSw; (try dsimp only at hSw); go_simp; first | done | with_reducible rfl)
        simp only [Act.put, List.setIfInBounds_toArray, List.set_cons_zero, List.set_cons_succ]
        refine wpAnyH_take (i := 1) (oi := ⟨_, _, _, _, _, _⟩) (v := ?_) rfl (by kernel_rfl) (by kernel_rfl) (by kernel_rfl) (fun _ _ _ h => h) (Or.inl ⟨by kernel_rfl, ?_⟩) (by assumption) ?_
        rotate_left
        · (intro w hSw; (try dsimp only at hSw); go_simp; first | done | with_reducible rfl)
        simp only [Act.put, List.setIfInBounds_toArray, List.set_cons_zero, List.set_cons_succ]
        refine wpAnyH_take (i := 2) (oi := ⟨_, _, _, _, _, _⟩) (v := ?_) rfl (by kernel_rfl) (by kernel_rfl) (by kernel_rfl) (fun _ _ _ h => h) (Or.inl ⟨by kernel_rfl, ?_⟩) (by assumption) ?_
        rotate_left
        · (intro w hSw; (try dsimp only at hSw); go_simp; first | done | with_reducible rfl)
        simp only [Act.put, List.setIfInBounds_toArray, List.set_cons_zero, List.set_cons_succ]
        refine wpAnyH_take (i := 3) (oi := ⟨_, _, _, _, _, _⟩) (v := ?_) rfl (by kernel_rfl) (by kernel_rfl) (by kernel_rfl) (fun _ _ _ h => h) (Or.inl ⟨by kernel_rfl, ?_⟩) (by assumption) ?_
        rotate_left
        · (intro w hSw; (try dsimp only at hSw); go_simp; first | done | with_reducible rfl)
        simp only [Act.put, List.setIfInBounds_toArray, List.set_cons_zero, List.set_cons_succ]
        refine wpAnyH_take (i := 4) (oi := ⟨_, _, _, _, _, _⟩) (v := ?_) rfl (by kernel_rfl) (by kernel_rfl) (by kernel_rfl) (fun _ _ _ h => h) (Or.inl ⟨by kernel_rfl, ?_⟩) (by assumption) ?_
        rotate_left
        · (intro w hSw; (try dsimp only at hSw); go_simp; first | done | with_reducible rfl)
        simp only [Act.put, List.setIfInBounds_toArray, List.set_cons_zero, List.set_cons_succ]
        refine wpAnyH_take (i := 5) (oi := ⟨_, _, _, _, _, _⟩) (v := ?_) rfl (by kernel_rfl) (by kernel_rfl) (by kernel_rfl) (fun _ _ _ h => h) (Or.inl ⟨by kernel_rfl, ?_⟩) (by assumption) ?_
        rotate_left
        · (intro w hSw; (try dsimp only at hSw); go_simp; first | done | with_reducible rfl)
        simp only [Act.put, List.setIfInBounds_toArray, List.set_cons_zero, List.set_cons_succ]
        refine wpAnyH_take (i := 6) (oi := ⟨_, _, _, _, _, _⟩) (v := ?_) rfl (by kernel_rfl) (by kernel_rfl) (by kernel_rfl) (fun _ _ _ h => h) (Or.inl ⟨by kernel_rfl, ?_⟩) (by assumption) ?_
        rotate_left
        · (intro w hSw; (try dsimp only at hSw); go_simp; first | done | with_reducible rfl)
        simp only [Act.put, List.setIfInBounds_toArray, List.set_cons_zero, List.set_cons_succ]
        refine wpAnyH_take (i := 7) (oi := ⟨_, _, _, _, _, _⟩) (v := ?_) rfl (by kernel_rfl) (by kernel_rfl) (by kernel_rfl) (fun _ _ _ h => h) (Or.inl ⟨by kernel_rfl, ?_⟩) (by assumption) ?_
        rotate_left
        · (intro w hSw; (try dsimp only at hSw); go_simp; first | done | with_reducible rfl)
        simp only [Act.put, List.setIfInBounds_toArray, List.set_cons_zero, List.set_cons_succ]
        refine wpAnyH_take (i := 8) (oi := ⟨_, _, _, _, _, _⟩) (v := ?_) rfl (by kernel_rfl) (by kernel_rfl) (by kernel_rfl) (fun _ _ _ h => h) (Or.inl ⟨by kernel_rfl, ?_⟩) (by assumption) ?_
        rotate_left
        · (intro w hSw; (try dsimp only at hSw); go_simp; first | done | with_reducible rfl)
        simp only [Act.put, List.setIfInBounds_toArray, List.set_cons_zero, List.set_cons_succ]
        refine wpAnyH_ready (rs := [9]) (by kernel_rfl) (by simp) ?_
        refine AllReadyH.cons rfl (fun K hK => ?_) AllReadyH.nil
        go_simp
        ((go_at_call 34; refine (read_str (callL o v) 24 c.to.data.toList (by rw [sz]; exact hc.t) x HXL2.out b 2 (by simp [callL]) _ (by exact HV1.out)).mono ?_; rintro e w2 ⟨rfl, hb2, hm2⟩; have HC3 := Lib.hid (IsCall.sett (w := World.drew W) HV2.out HV3.out hb2 hm2); have HM2 := Lib.hid (mods_undrew hm2); clear hb2 hm2))
        refine hK.out _ _ ?_ (fun hHeld => ?_)
        · exact (HM2.out.cell hlbW hlb).trans hHeld
        clear hK K
        refine wpAnyH_take (i := 10) (oi := ⟨_, _, _, _, _, _⟩) (v := ?_) rfl (by kernel_rfl) (by kernel_rfl) (by kernel_rfl) (fun _ _ _ h => h) (Or.inl ⟨by kernel_rfl, ?_⟩) (by assumption) ?_
        rotate_left
        · (intro w hSw; (try dsimp only at hSw); go_simp; first | done | with_reducible rfl)
        simp only [Act.put, List.setIfInBounds_toArray, List.set_cons_zero, List.set_cons_succ]
        refine wpAnyH_take (i := 11) (oi := ⟨_, _, _, _, _, _⟩) (v := ?_) rfl (by kernel_rfl) (by kernel_rfl) (by kernel_rfl) (fun _ _ _ h => h) (Or.inl ⟨by kernel_rfl, ?_⟩) (by assumption) ?_
        rotate_left
        · (intro w hSw; (try dsimp only at hSw); go_simp; first | done | with_reducible rfl)
        simp only [Act.put, List.setIfInBounds_toArray, List.set_cons_zero, List.set_cons_succ]
        refine wpAnyH_done (by kernel_rfl) ?_ _
        have HI2 := Lib.hid ((HM2.out.block _ hBW (by omega)).trans HIT.out)
        go_wp2
        go_roundw
        case rel => exact ⟨p + 1, by omega, rfl, HI2, by rw [HFS.out, HH.out]; exact HC3, Lib.hid (HM.out.trans (Mods.trans (s := fun k => k = b ∨ k = w.heap.size) (HMW.out.mono (fun i _ h => .inr h)) HM2.out (fun i _ h => .inl h)) (fun i hi h => by omega))⟩
        case measure => rw [iterPos_of HI2.out, iterPos_of HI.out]; omega
      · rw [h, ← hW] at hnx
        have HH := Lib.hid h
        have HXL2 := Lib.hid (HXL.out.trans (by rw [h]; rfl : fieldL c K[p] = Lib.itoa c.off))
        clear h hW
        go_wp2
        clear hnx
        refine wp_region_held_drew (S := (fun w' => w'.cell? ⟨lb, lo + p, none⟩ = some (.string x))) (by kernel_rfl) hcell (fun hHeld => ?_)
        refine wpAnyH_take (i := 0) (oi := ⟨_, _, _, _, _, _⟩) (v := ?_) rfl (by kernel_rfl) (by kernel_rfl) (by kernel_rfl) (fun _ _ _ h => h) (Or.inl ⟨by kernel_rfl, ?_⟩) (by assumption) ?_
        rotate_left
        · (intro w hSw; (try dsimp only at hSw); go_simp; first | done | with_reducible rfl)
        simp only [Act.put, List.setIfInBounds_toArray, List.set_cons_zero, List.set_cons_succ]
        refine wpAnyH_take (i := 1) (oi := ⟨_, _, _, _, _, _⟩) (v := ?_) rfl (by kernel_rfl) (by kernel_rfl) (by kernel_rfl) (fun _ _ _ h => h) (Or.inl ⟨by kernel_rfl, ?_⟩) (by assumption) ?_
        rotate_left
        · (intro w hSw; (try dsimp only at hSw); go_simp; first | done | with_reducible rfl)
        simp only [Act.put, List.setIfInBounds_toArray, List.set_cons_zero, List.set_cons_succ]
        refine wpAnyH_take (i := 2) (oi := ⟨_, _, _, _, _, _⟩) (v := ?_) rfl (by kernel_rfl) (by kernel_rfl) (by kernel_rfl) (fun _ _ _ h => h) (Or.inl ⟨by kernel_rfl, ?_⟩) (by assumption) ?_
        rotate_left
        · (intro w hSw; (try dsimp only at hSw); go_simp; first | done | with_reducible rfl)
        simp only [Act.put, List.setIfInBounds_toArray, List.set_cons_zero, List.set_cons_succ]
        refine wpAnyH_take (i := 3) (oi := ⟨_, _, _, _, _, _⟩) (v := ?_) rfl (by kernel_rfl) (by kernel_rfl) (by kernel_rfl) (fun _ _ _ h => h) (Or.inl ⟨by kernel_rfl, ?_⟩) (by assumption) ?_
        rotate_left
        · (intro w hSw; (try dsimp only at hSw); go_simp; first | done | with_reducible rfl)
        simp only [Act.put, List.setIfInBounds_toArray, List.set_cons_zero, List.set_cons_succ]
        refine wpAnyH_take (i := 4) (oi := ⟨_, _, _, _, _, _⟩) (v := ?_) rfl (by kernel_rfl) (by kernel_rfl) (by kernel_rfl) (fun _ _ _ h => h) (Or.inl ⟨by kernel_rfl, ?_⟩) (by assumption) ?_
        rotate_left
        · (intro w hSw; (try dsimp only at hSw); go_simp; first | done | with_reducible rfl)
        simp only [Act.put, List.setIfInBounds_toArray, List.set_cons_zero, List.set_cons_succ]
        refine wpAnyH_take (i := 5) (oi := ⟨_, _, _, _, _, _⟩) (v := ?_) rfl (by kernel_rfl) (by kernel_rfl) (by kernel_rfl) (fun _ _ _ h => h) (Or.inl ⟨by kernel_rfl, ?_⟩) (by assumption) ?_
        rotate_left
        · (intro w hSw; (try dsimp only at hSw); go_simp; first | done | with_reducible rfl)
        simp only [Act.put, List.setIfInBounds_toArray, List.set_cons_zero, List.set_cons_succ]
        refine wpAnyH_take (i := 6) (oi := ⟨_, _, _, _, _, _⟩) (v := ?_) rfl (by kernel_rfl) (by kernel_rfl) (by kernel_rfl) (fun _ _ _ h => h) (Or.inl ⟨by kernel_rfl, ?_⟩) (by assumption) ?_
        rotate_left
        · (intro w hSw; (try dsimp only at hSw); go_simp; first | done | with_reducible rfl)
        simp only [Act.put, List.setIfInBounds_toArray, List.set_cons_zero, List.set_cons_succ]
        refine wpAnyH_take (i := 7) (oi := ⟨_, _, _, _, _, _⟩) (v := ?_) rfl (by kernel_rfl) (by kernel_rfl) (by kernel_rfl) (fun _ _ _ h => h) (Or.inl ⟨by kernel_rfl, ?_⟩) (by assumption) ?_
        rotate_left
        · (intro w hSw; (try dsimp only at hSw); go_simp; first | done | with_reducible rfl)
        simp only [Act.put, List.setIfInBounds_toArray, List.set_cons_zero, List.set_cons_succ]
        refine wpAnyH_take (i := 8) (oi := ⟨_, _, _, _, _, _⟩) (v := ?_) rfl (by kernel_rfl) (by kernel_rfl) (by kernel_rfl) (fun _ _ _ h => h) (Or.inl ⟨by kernel_rfl, ?_⟩) (by assumption) ?_
        rotate_left
        · (intro w hSw; (try dsimp only at hSw); go_simp; first | done | with_reducible rfl)
        simp only [Act.put, List.setIfInBounds_toArray, List.set_cons_zero, List.set_cons_succ]
        refine wpAnyH_ready (rs := [9]) (by kernel_rfl) (by simp) ?_
        refine AllReadyH.cons rfl (fun K hK => ?_) AllReadyH.nil
        go_simp
        ((go_at_call 36; refine (read_int (callL o v) 24 c.off hc.o0 hc.o1 x HXL2.out b 3 (by simp [callL]) _ (by exact HV1.out)).mono ?_; rintro e w2 ⟨rfl, hb2, hm2⟩; have HC3 := Lib.hid (IsCall.seto (w := World.drew W) HV2.out HV3.out hb2 hm2); have HM2 := Lib.hid (mods_undrew hm2); clear hb2 hm2))
        refine hK.out _ _ ?_ (fun hHeld => ?_)
        · exact (HM2.out.cell hlbW hlb).trans hHeld
        clear hK K
        refine wpAnyH_take (i := 10) (oi := ⟨_, _, _, _, _, _⟩) (v := ?_) rfl (by kernel_rfl) (by kernel_rfl) (by kernel_rfl) (fun _ _ _ h => h) (Or.inl ⟨by kernel_rfl, ?_⟩) (by assumption) ?_
        rotate_left
        · (intro w hSw; (try dsimp only at hSw); go_simp; first | done | with_reducible rfl)
        simp only [Act.put, List.setIfInBounds_toArray, List.set_cons_zero, List.set_cons_succ]
        refine wpAnyH_take (i := 11) (oi := ⟨_, _, _, _, _, _⟩) (v := ?_) rfl (by kernel_rfl) (by kernel_rfl) (by kernel_rfl) (fun _ _ _ h => h) (Or.inl ⟨by kernel_rfl, ?_⟩) (by assumption) ?_
        rotate_left
        · (intro w hSw; (try dsimp only at hSw); go_simp; first | done | with_reducible rfl)
        simp only [Act.put, List.setIfInBounds_toArray, List.set_cons_zero, List.set_cons_succ]
        refine wpAnyH_done (by kernel_rfl) ?_ _
        have HI2 := Lib.hid ((HM2.out.block _ hBW (by omega)).trans HIT.out)
        go_wp2
        go_roundw
        case rel => exact ⟨p + 1, by omega, rfl, HI2, by rw [HFS.out, HH.out]; exact HC3, Lib.hid (HM.out.trans (Mods.trans (s := fun k => k = b ∨ k = w.heap.size) (HMW.out.mono (fun i _ h => .inr h)) HM2.out (fun i _ h => .inl h)) (fun i hi h => by omega))⟩
        case measure => rw [iterPos_of HI2.out, iterPos_of HI.out]; omega
      · rw [h, ← hW] at hnx
        have HH := Lib.hid h
        have HXL2 := Lib.hid (HXL.out.trans (by rw [h]; rfl : fieldL c K[p] = Lib.itoa c.n))
        clear h hW
        go_wp2
        clear hnx
        refine wp_region_held_drew (S := (fun w' => w'.cell? ⟨lb, lo + p, none⟩ = some (.string x))) (by kernel_rfl) hcell (fun hHeld => ?_)
        refine wpAnyH_take (i := 0) (oi := ⟨_, _, _, _, _, _⟩) (v := ?_) rfl (by kernel_rfl) (by kernel_rfl) (by kernel_rfl) (fun _ _ _ h => h) (Or.inl ⟨by kernel_rfl, ?_⟩) (by assumption) ?_
        rotate_left
        · (intro w hSw; (try dsimp only at hSw); go_simp; first | done | with_reducible rfl)
        simp only [Act.put, List.setIfInBounds_toArray, List.set_cons_zero, List.set_cons_succ]
        refine wpAnyH_take (i := 1) (oi := ⟨_, _, _, _, _, _⟩) (v := ?_) rfl (by kernel_rfl) (by kernel_rfl) (by kernel_rfl) (fun _ _ _ h => h) (Or.inl ⟨by kernel_rfl, ?_⟩) (by assumption) ?_
        rotate_left
        · (intro w hSw; (try dsimp only at hSw); go_simp; first | done | with_reducible rfl)
        simp only [Act.put, List.setIfInBounds_toArray, List.set_cons_zero, List.set_cons_succ]
        refine wpAnyH_take (i := 2) (oi := ⟨_, _, _, _, _, _⟩) (v := ?_) rfl (by kernel_rfl) (by kernel_rfl) (by kernel_rfl) (fun _ _ _ h => h) (Or.inl ⟨by kernel_rfl, ?_⟩) (by assumption) ?_
        rotate_left
        · (intro w hSw; (try dsimp only at hSw); go_simp; first | done | with_reducible rfl)
        simp only [Act.put, List.setIfInBounds_toArray, List.set_cons_zero, List.set_cons_succ]
        refine wpAnyH_take (i := 3) (oi := ⟨_, _, _, _, _, _⟩) (v := ?_) rfl (by kernel_rfl) (by kernel_rfl) (by kernel_rfl) (fun _ _ _ h => h) (Or.inl ⟨by kernel_rfl, ?_⟩) (by assumption) ?_
        rotate_left
        · (intro w hSw; (try dsimp only at hSw); go_simp; first | done | with_reducible rfl)
        simp only [Act.put, List.setIfInBounds_toArray, List.set_cons_zero, List.set_cons_succ]
        refine wpAnyH_take (i := 4) (oi := ⟨_, _, _, _, _, _⟩) (v := ?_) rfl (by kernel_rfl) (by kernel_rfl) (by kernel_rfl) (fun _ _ _ h => h) (Or.inl ⟨by kernel_rfl, ?_⟩) (by assumption) ?_
        rotate_left
        · (intro w hSw; (try dsimp only at hSw); go_simp; first | done | with_reducible rfl)
        simp only [Act.put, List.setIfInBounds_toArray, List.set_cons_zero, List.set_cons_succ]
        refine wpAnyH_take (i := 5) (oi := ⟨_, _, _, _, _, _⟩) (v := ?_) rfl (by kernel_rfl) (by kernel_rfl) (by kernel_rfl) (fun _ _ _ h => h) (Or.inl ⟨by kernel_rfl, ?_⟩) (by assumption) ?_
        rotate_left
        · (intro w hSw; (try dsimp only at hSw); go_simp; first | done | with_reducible rfl)
        simp only [Act.put, List.setIfInBounds_toArray, List.set_cons_zero, List.set_cons_succ]
        refine wpAnyH_take (i := 6) (oi := ⟨_, _, _, _, _, _⟩) (v := ?_) rfl (by kernel_rfl) (by kernel_rfl) (by kernel_rfl) (fun _ _ _ h => h) (Or.inl ⟨by kernel_rfl, ?_⟩) (by assumption) ?_
        rotate_left
        · (intro w hSw; (try dsimp only at hSw); go_simp; first | done | with_reducible rfl)
        simp only [Act.put, List.setIfInBounds_toArray, List.set_cons_zero, List.set_cons_succ]
        refine wpAnyH_take (i := 7) (oi := ⟨_, _, _, _, _, _⟩) (v := ?_) rfl (by kernel_rfl) (by kernel_rfl) (by kernel_rfl) (fun _ _ _ h => h) (Or.inl ⟨by kernel_rfl, ?_⟩) (by assumption) ?_
        rotate_left
        · (intro w hSw; (try dsimp only at hSw); go_simp; first | done | with_reducible rfl)
        simp only [Act.put, List.setIfInBounds_toArray, List.set_cons_zero, List.set_cons_succ]
        refine wpAnyH_take (i := 8) (oi := ⟨_, _, _, _, _, _⟩) (v := ?_) rfl (by kernel_rfl) (by kernel_rfl) (by kernel_rfl) (fun _ _ _ h => h) (Or.inl ⟨by kernel_rfl, ?_⟩) (by assumption) ?_
        rotate_left
        · (intro w hSw; (try dsimp only at hSw); go_simp; first | done | with_reducible rfl)
        simp only [Act.put, List.setIfInBounds_toArray, List.set_cons_zero, List.set_cons_succ]
        refine wpAnyH_ready (rs := [9]) (by kernel_rfl) (by simp) ?_
        refine AllReadyH.cons rfl (fun K hK => ?_) AllReadyH.nil
        go_simp
        ((go_at_call 36; refine (read_int (callL o v) 24 c.n hc.n0 hc.n1 x HXL2.out b 4 (by simp [callL]) _ (by exact HV1.out)).mono ?_; rintro e w2 ⟨rfl, hb2, hm2⟩; have HC3 := Lib.hid (IsCall.setn (w := World.drew W) HV2.out HV3.out hb2 hm2); have HM2 := Lib.hid (mods_undrew hm2); clear hb2 hm2))
        refine hK.out _ _ ?_ (fun hHeld => ?_)
        · exact (HM2.out.cell hlbW hlb).trans hHeld
        clear hK K
        refine wpAnyH_take (i := 10) (oi := ⟨_, _, _, _, _, _⟩) (v := ?_) rfl (by kernel_rfl) (by kernel_rfl) (by kernel_rfl) (fun _ _ _ h => h) (Or.inl ⟨by kernel_rfl, ?_⟩) (by assumption) ?_
        rotate_left
        · (intro w hSw; (try dsimp only at hSw); go_simp; first | done | with_reducible rfl)
        simp only [Act.put, List.setIfInBounds_toArray, List.set_cons_zero, List.set_cons_succ]
        refine wpAnyH_take (i := 11) (oi := ⟨_, _, _, _, _, _⟩) (v := ?_) rfl (by kernel_rfl) (by kernel_rfl) (by kernel_rfl) (fun _ _ _ h => h) (Or.inl ⟨by kernel_rfl, ?_⟩) (by assumption) ?_
        rotate_left
        · (intro w hSw; (try dsimp only at hSw); go_simp; first | done | with_reducible rfl)
        simp only [Act.put, List.setIfInBounds_toArray, List.set_cons_zero, List.set_cons_succ]
        refine wpAnyH_done (by kernel_rfl) ?_ _
        have HI2 := Lib.hid ((HM2.out.block _ hBW (by omega)).trans HIT.out)
        go_wp2
        go_roundw
        case rel => exact ⟨p + 1, by omega, rfl, HI2, by rw [HFS.out, HH.out]; exact HC3, Lib.hid (HM.out.trans (Mods.trans (s := fun k => k = b ∨ k = w.heap.size) (HMW.out.mono (fun i _ h => .inr h)) HM2.out (fun i _ h => .inl h)) (fun i hi h => by omega))⟩
        case measure => rw [iterPos_of HI2.out, iterPos_of HI.out]; omega
      · rw [h, ← hW] at hnx
        have HH := Lib.hid h
        have HXL2 := Lib.hid (HXL.out.trans (by rw [h]; rfl : fieldL c K[p] = datL c.dat))
        clear h hW
        go_wp2
        clear hnx
        refine wp_region_held_drew (S := (fun w' => w'.cell? ⟨lb, lo + p, none⟩ = some (.string x))) (by kernel_rfl) hcell (fun hHeld => ?_)
        refine wpAnyH_take (i := 0) (oi := ⟨_, _, _, _, _, _⟩) (v := ?_) rfl (by kernel_rfl) (by kernel_rfl) (by kernel_rfl) (fun _ _ _ h => h) (Or.inl ⟨by kernel_rfl, ?_⟩) (by assumption) ?_
        rotate_left
        · (intro w hSw; (try dsimp only at hSw); go_simp; first | done | with_reducible rfl)
        simp only [Act.put, List.setIfInBounds_toArray, List.set_cons_zero, List.set_cons_succ]
        refine wpAnyH_take (i := 1) (oi := ⟨_, _, _, _, _, _⟩) (v := ?_) rfl (by kernel_rfl) (by kernel_rfl) (by kernel_rfl) (fun _ _ _ h => h) (Or.inl ⟨by kernel_rfl, ?_⟩) (by assumption) ?_
        rotate_left
        · (intro w hSw; (try dsimp only at hSw); go_simp; first | done | with_reducible rfl)
        simp only [Act.put, List.setIfInBounds_toArray, List.set_cons_zero, List.set_cons_succ]
        refine wpAnyH_take (i := 2) (oi := ⟨_, _, _, _, _, _⟩) (v := ?_) rfl (by kernel_rfl) (by kernel_rfl) (by kernel_rfl) (fun _ _ _ h => h) (Or.inl ⟨by kernel_rfl, ?_⟩) (by assumption) ?_
        rotate_left
        · (intro w hSw; (try dsimp only at hSw); go_simp; first | done | with_reducible rfl)
        simp only [Act.put, List.setIfInBounds_toArray, List.set_cons_zero, List.set_cons_succ]
        refine wpAnyH_take (i := 3) (oi := ⟨_, _, _, _, _, _⟩) (v := ?_) rfl (by kernel_rfl) (by kernel_rfl) (by kernel_rfl) (fun _ _ _ h => h) (Or.inl ⟨by kernel_rfl, ?_⟩) (by assumption) ?_
        rotate_left
        · (intro w hSw; (try dsimp only at hSw); go_simp; first | done | with_reducible rfl)
        simp only [Act.put, List.setIfInBounds_toArray, List.set_cons_zero, List.set_cons_succ]
        refine wpAnyH_take (i := 4) (oi := ⟨_, _, _, _, _, _⟩) (v := ?_) rfl (by kernel_rfl) (by kernel_rfl) (by kernel_rfl) (fun _ _ _ h => h) (Or.inl ⟨by kernel_rfl, ?_⟩) (by assumption) ?_
        rotate_left
        · (intro w hSw; (try dsimp only at hSw); go_simp; first | done | with_reducible rfl)
        simp only [Act.put, List.setIfInBounds_toArray, List.set_cons_zero, List.set_cons_succ]
        refine wpAnyH_take (i := 5) (oi := ⟨_, _, _, _, _, _⟩) (v := ?_) rfl (by kernel_rfl) (by kernel_rfl) (by kernel_rfl) (fun _ _ _ h => h) (Or.inl ⟨by kernel_rfl, ?_⟩) (by assumption) ?_
        rotate_left
        · (intro w hSw; (try dsimp only at hSw); go_simp; first | done | with_reducible rfl)
        simp only [Act.put, List.setIfInBounds_toArray, List.set_cons_zero, List.set_cons_succ]
        refine wpAnyH_take (i := 6) (oi := ⟨_, _, _, _, _, _⟩) (v := ?_) rfl (by kernel_rfl) (by kernel_rfl) (by kernel_rfl) (fun _ _ _ h => h) (Or.inl ⟨by kernel_rfl, ?_⟩) (by assumption) ?_
        rotate_left
        · (intro w hSw; (try dsimp only at hSw); go_simp; first | done | with_reducible rfl)
        simp only [Act.put, List.setIfInBounds_toArray, List.set_cons_zero, List.set_cons_succ]
        refine wpAnyH_take (i := 7) (oi := ⟨_, _, _, _, _, _⟩) (v := ?_) rfl (by kernel_rfl) (by kernel_rfl) (by kernel_rfl) (fun _ _ _ h => h) (Or.inl ⟨by kernel_rfl, ?_⟩) (by assumption) ?_
        rotate_left
        · (intro w hSw; (try dsimp only at hSw); go_simp; first | done | with_reducible rfl)
        simp only [Act.put, List.setIfInBounds_toArray, List.set_cons_zero, List.set_cons_succ]
        refine wpAnyH_take (i := 8) (oi := ⟨_, _, _, _, _, _⟩) (v := ?_) rfl (by kernel_rfl) (by kernel_rfl) (by kernel_rfl) (fun _ _ _ h => h) (Or.inl ⟨by kernel_rfl, ?_⟩) (by assumption) ?_
        rotate_left
        · (intro w hSw; (try dsimp only at hSw); go_simp; first | done | with_reducible rfl)
        simp only [Act.put, List.setIfInBounds_toArray, List.set_cons_zero, List.set_cons_succ]
        refine wpAnyH_ready (rs := [9]) (by kernel_rfl) (by simp) ?_
        refine AllReadyH.cons rfl (fun K hK => ?_) AllReadyH.nil
        go_simp
        ((go_at_call 38; refine (read_bytes (callL o v) 24 c.dat hc.d x HXL2.out b 5 (by simp [callL]) _ (by exact HV1.out)).mono ?_; rintro e w2 ⟨rfl, v2, hv2, hvn, hb2, hm2⟩; have HC3 := Lib.hid (IsCall.setd hv2 hvn hb2); have HM2 := Lib.hid (mods_undrew hm2); clear hv2 hvn hb2 hm2))
        refine hK.out _ _ ?_ (fun hHeld => ?_)
        · exact (HM2.out.cell hlbW hlb).trans hHeld
        clear hK K
        refine wpAnyH_take (i := 10) (oi := ⟨_, _, _, _, _, _⟩) (v := ?_) rfl (by kernel_rfl) (by kernel_rfl) (by kernel_rfl) (fun _ _ _ h => h) (Or.inl ⟨by kernel_rfl, ?_⟩) (by assumption) ?_
        rotate_left
        · (intro w hSw; (try dsimp only at hSw); go_simp; first | done | with_reducible rfl)
        simp only [Act.put, List.setIfInBounds_toArray, List.set_cons_zero, List.set_cons_succ]
        refine wpAnyH_take (i := 11) (oi := ⟨_, _, _, _, _, _⟩) (v := ?_) rfl (by kernel_rfl) (by kernel_rfl) (by kernel_rfl) (fun _ _ _ h => h) (Or.inl ⟨by kernel_rfl, ?_⟩) (by assumption) ?_
        rotate_left
        · (intro w hSw; (try dsimp only at hSw); go_simp; first | done | with_reducible rfl)
        simp only [Act.put, List.setIfInBounds_toArray, List.set_cons_zero, List.set_cons_succ]
        refine wpAnyH_done (by kernel_rfl) ?_ _
        have HI2 := Lib.hid ((HM2.out.block _ hBW (by omega)).trans HIT.out)
        go_wp2
        go_roundw
        case rel => exact ⟨p + 1, by omega, rfl, HI2, by rw [HFS.out, HH.out]; exact HC3, Lib.hid (HM.out.trans (Mods.trans (s := fun k => k = b ∨ k = w.heap.size) (HMW.out.mono (fun i _ h => .inr h)) HM2.out (fun i _ h => .inl h)) (fun i hi h => by omega))⟩
        case measure => rw [iterPos_of HI2.out, iterPos_of HI.out]; omega
    · obtain rfl : p = n := by omega
      have hnx := Lib.run_next_end_at (P := Tryd.prog) wr w.heap.size K p 0 HI.out (by rw [← HN.out]; omega)
      have hk2 : K.data.toList.take p = K.data.toList := by rw [HN.out, ← sz, List.take_length]
      have hC := HC2.out
      rw [hk2] at hC
      have HC5 := Lib.hid hC
      clear hk2 hC
      go_wp2
      go_ret
      exact ⟨rfl, HC5.out, HM.out⟩
end Go.Proofs.YtlkeegmpjjoicaaDoor
end

section
/- The map of words: what stands by each key, as a function. -/
namespace Go.Proofs.YtlkeegmpjjoicaaDoor
open Go.RowKit

abbrev DU := DataW Unit
/-- how keys are written -/
structure KeyWay {κ : Type} (mk : κ → Lit) (ok : κ → Prop) : Prop where
  inj : ∀ x y, ok x → ok y → mk x = mk y → x = y
  key : ∀ x, ok x → WideAt.IsKeyLit (mk x)
/-- block b is a map; by key x stands g x -/
def MapG {κ : Type} (kt : TypeId) (R : Value → Option (DU × List MemPlace)) (mk : κ → Lit) (ok : κ → Prop) (w : World) (b n : Nat) (g : κ → Option DU) : Prop :=
  ∃ D : DU, w.ownsMap Tryd.prog kt R b n D ∧ (∀ x, ok x → Maps.has D (mk x) = (g x).isSome ∧ ∀ z, D.atKey (mk x) z = (g x).getD z) ∧ ∀ kl, Maps.has D kl = true → ∃ x, ok x ∧ kl = mk x

section
variable {κ : Type} [DecidableEq κ] {kt : TypeId} {R : Value → Option (DU × List MemPlace)} {mk : κ → Lit} {ok : κ → Prop} {w : World} {b n : Nat} {g : κ → Option DU}
theorem MapG.mods {s : Nat → Prop} {w' : World} (h : MapG kt R mk ok w b n g) (hm : Mods s w w') (hs : ¬ s b) : MapG kt R mk ok w' b n g := by
  obtain ⟨D, h1, h2, h3⟩ := h
  have hlt := h1.lt
  obtain ⟨es, clock, hb, r⟩ := h1
  exact ⟨D, ⟨es, clock, (hm.block b hlt hs).trans hb, r⟩, h2, h3⟩
theorem MapG.lt (h : MapG kt R mk ok w b n g) : b < w.heap.size := by
  obtain ⟨D, h1, h2⟩ := h; exact h1.lt
theorem MapG.mono {n' : Nat} (h : MapG kt R mk ok w b n g) (hn : n ≤ n') : MapG kt R mk ok w b n' g := by
  obtain ⟨D, h1, h2⟩ := h; exact ⟨D, h1.mono hn, h2⟩
theorem MapG.below {C : Nat} {w' : World} (h : MapG kt R mk ok w b n g) (hm : Below C w w') (hs : b < C) : MapG kt R mk ok w' b n g := h.mods (Mods.of_below hm) (by omega)
theorem MapG.alloc (h : MapG kt R mk ok w b n g) (o : Obj) : MapG kt R mk ok (w.alloc o) b n g := h.mods ((Mods.refl (fun _ => False) w).alloc o) (fun e => e)
theorem MapG.grown {w' : World} {row : Option Nat} (h : MapG kt R mk ok w b n g) (hm : w.grownBy w' row) (hs : row ≠ some b) : MapG kt R mk ok w' b n g := by
  obtain ⟨D, h1, h2⟩ := h; exact ⟨D, h1.kept hm (fun e => hs e.symm), h2⟩
theorem MapG.made (w : World) : MapG kt R mk ok (w.alloc (.map #[] 0)) w.heap.size 0 (fun _ : κ => none) :=
  ⟨.map [], World.ownsMap_made _ _ _ _, fun x _ => ⟨rfl, fun z => rfl⟩, fun kl h => by cases h⟩
theorem MapG.put_D (KW : KeyWay mk ok) {w' : World} {m : Nat} {D : DU} {d : DU} {x : κ} (hx : ok x) (hI : Maps.IsMap D)
    (h2 : ∀ x, ok x → Maps.has D (mk x) = (g x).isSome ∧ ∀ z, D.atKey (mk x) z = (g x).getD z) (h3 : ∀ kl, Maps.has D kl = true → ∃ x, ok x ∧ kl = mk x)
    (h : w'.ownsMap Tryd.prog kt R b m (D.put (mk x) d)) : MapG kt R mk ok w' b m (fun y => if y = x then some d else g y) := by
  refine ⟨_, h, fun y hy => ?_, fun kl hk => ?_⟩
  · by_cases e : y = x
    · subst e
      simp only [if_true]
      exact ⟨Maps.has_put_same hI (KW.key _ hx) d, fun z => Maps.atKey_put_same hI (KW.key _ hx) d z⟩
    · have hne : mk y ≠ mk x := fun e2 => e (KW.inj _ _ hy hx e2)
      simp only [if_neg e]
      rw [Maps.has_put_other hne]
      exact ⟨(h2 y hy).1, fun z => by rw [Maps.atKey_put_other hne]; exact (h2 y hy).2 z⟩
  · by_cases e : kl = mk x
    · exact ⟨x, hx, e⟩
    · rw [Maps.has_put_other e] at hk
      exact h3 kl hk
theorem MapG.del_D (KW : KeyWay mk ok) {w' : World} {m : Nat} {D : DU} {x : κ} (hx : ok x)
    (h2 : ∀ x, ok x → Maps.has D (mk x) = (g x).isSome ∧ ∀ z, D.atKey (mk x) z = (g x).getD z) (h3 : ∀ kl, Maps.has D kl = true → ∃ x, ok x ∧ kl = mk x)
    (h : w'.ownsMap Tryd.prog kt R b m (D.del (mk x))) : MapG kt R mk ok w' b m (fun y => if y = x then none else g y) := by
  refine ⟨_, h, fun y hy => ?_, fun kl hk => ?_⟩
  · by_cases e : y = x
    · subst e
      simp only [if_true]
      exact ⟨Maps.has_del_same, fun z => Maps.atKey_del_same z⟩
    · have hne : mk y ≠ mk x := fun e2 => e (KW.inj _ _ hy hx e2)
      simp only [if_neg e]
      rw [Maps.has_del_other hne]
      exact ⟨(h2 y hy).1, fun z => by rw [Maps.atKey_del_other hne]; exact (h2 y hy).2 z⟩
  · by_cases e : kl = mk x
    · exact ⟨x, hx, e⟩
    · rw [Maps.has_del_other e] at hk
      exact h3 kl hk
theorem mods_turned {w' : World} (h : w.mapTurned w' b) : Mods (fun k => k = b) w w' :=
  ⟨h.grown.os, h.grown.tape, h.grown.output, h.grown.size, fun k hk hn => h.grown.block k hk fun e => hn (by cases e; rfl)⟩
theorem size_turned {w' : World} (h : w.mapTurned w' b) : w'.heap.size = w.heap.size := by
  obtain ⟨es, c, es', c', _, rfl⟩ := h
  simp [ChangeMaps.setBlock]

variable {rest : List Oper} {ops : Array Oper} {o : Oper} {a : Act} {Q : Exit → Act → World → Prop}

theorem mapg_store (KW : KeyWay mk ok) (hg : o.guard = none) (m x v : Operand) (t : TypeId) (hop : o.op = Op.mapUpdate t m x v) (e : TypeId) (K : Maps.Keyed Tryd.prog kt) (ht : Tryd.prog.underlying t = some (.map kt e))
    (hm : a.eval m = .map (some b)) (h : MapG kt R mk ok w b n g) (hn : n < maxLen) (key val : Value) (y : κ) (hy : ok y) (hx : a.eval x = key) (hv : a.eval v = val) (hkey : keyOf Tryd.prog kt key = some (mk y)) (d : DU) (ps : List MemPlace) (hval : R val = some (d, ps))
    (hK : ∀ w', MapG kt R mk ok w' b (n + 1) (fun z => if z = y then some d else g z) → Mods (fun k => k = b) w w' → w'.heap.size = w.heap.size → wpList Tryd.prog ops Q rest (a.put o.dst undef) w') : wpList Tryd.prog ops Q (o :: rest) a w := by
  obtain ⟨D, h1, h2, h3⟩ := h
  exact wpList_mapUpdate_in w hg m x v t hop kt e K ht R b n D hm h1 hn key val (mk y) hx hv hkey d ps hval fun w' r1 r2 => hK w' (MapG.put_D KW hy h1.isMap h2 h3 r1) (mods_turned r2) (size_turned r2)
theorem mapg_store_in {F : Fence} {nF : Nat} (KW : KeyWay mk ok) (hg : o.guard = none) (m x v : Operand) (t : TypeId) (hop : o.op = Op.mapUpdate t m x v) (e : TypeId) (K : Maps.Keyed Tryd.prog kt) (ht : Tryd.prog.underlying t = some (.map kt e))
    (hm : a.eval m = .map (some b)) (h : MapG kt R mk ok w b n g) (hn : n < maxLen) (key val : Value) (y : κ) (hy : ok y) (hx : a.eval x = key) (hv : a.eval v = val) (hkey : keyOf Tryd.prog kt key = some (mk y)) (d : DU) (ps : List MemPlace) (hval : R val = some (d, ps))
    (hK : ∀ w', MapG kt R mk ok w' b (n + 1) (fun z => if z = y then some d else g z) → Mods (fun k => k = b) w w' → w'.heap.size = w.heap.size → wpListIn F nF Tryd.prog ops Q rest (a.put o.dst undef) w') : wpListIn F nF Tryd.prog ops Q (o :: rest) a w := by
  obtain ⟨D, h1, h2, h3⟩ := h
  exact wpListIn_mapUpdate_in w hg m x v t hop kt e K ht R b n D hm h1 hn key val (mk y) hx hv hkey d ps hval fun w' r1 r2 => hK w' (MapG.put_D KW hy h1.isMap h2 h3 r1) (mods_turned r2) (size_turned r2)
theorem mapg_delete (KW : KeyWay mk ok) (hg : o.guard = none) (m x : Operand) (t : TypeId) (hop : o.op = Op.call { callee := Callee.builtin Builtin.delete, args := #[m, x], argTypes := #[t, kt] }) (e : TypeId) (K : Maps.Keyed Tryd.prog kt) (ht : Tryd.prog.underlying t = some (.map kt e))
    (hm : a.eval m = .map (some b)) (h : MapG kt R mk ok w b n g) (key : Value) (y : κ) (hy : ok y) (hx : a.eval x = key) (hkey : keyOf Tryd.prog kt key = some (mk y))
    (hK : ∀ w', MapG kt R mk ok w' b n (fun z => if z = y then none else g z) → Mods (fun k => k = b) w w' → w'.heap.size = w.heap.size → wpList Tryd.prog ops Q rest (a.put o.dst (.tuple #[])) w') : wpList Tryd.prog ops Q (o :: rest) a w := by
  obtain ⟨D, h1, h2, h3⟩ := h
  exact wpList_delete_own w hg m x t kt hop e K ht R b n D hm h1 key (mk y) hx hkey fun w' r1 r2 => hK w' (MapG.del_D KW hy h2 h3 r1) (mods_turned r2) (size_turned r2)
theorem mapg_look (hg : o.guard = none) (m x : Operand) (t : TypeId) (hop : o.op = Op.lookup t m x false) (e : TypeId) (K : Maps.Keyed Tryd.prog kt) (ht : Tryd.prog.underlying t = some (.map kt e)) {z : Value} (hz : (zeroValue e).run Tryd.prog w = .ok z w) (zd : DU) (zp : List MemPlace) (hzd : R z = some (zd, zp))
    (hm : a.eval m = .map (some b)) (h : MapG kt R mk ok w b n g) (key : Value) (y : κ) (hy : ok y) (hx : a.eval x = key) (hkey : keyOf Tryd.prog kt key = some (mk y))
    (u : Value) (hu : ∀ v ps, R v = some ((g y).getD zd, ps) → v = u) (hK : wpList Tryd.prog ops Q rest (a.put o.dst u) w) : wpList Tryd.prog ops Q (o :: rest) a w := by
  obtain ⟨D, h1, h2, h3⟩ := h
  refine wpList_plain hg fun K' hK' => ?_
  obtain ⟨v, ps, hrun, hv⟩ := h1.lookup K ht hz hzd hkey
  rw [(h2 y hy).2] at hv
  obtain rfl := hu v ps hv
  unfold Oper.wp
  simp [execOp, hop, hm, hx, hrun, Result.andThen]
  exact hK' _ _ hK
theorem mapg_look_in {F : Fence} {nF : Nat} (hg : o.guard = none) (m x : Operand) (t : TypeId) (hop : o.op = Op.lookup t m x false) (e : TypeId) (K : Maps.Keyed Tryd.prog kt) (ht : Tryd.prog.underlying t = some (.map kt e)) {z : Value} (hz : (zeroValue e).run Tryd.prog w = .ok z w) (zd : DU) (zp : List MemPlace) (hzd : R z = some (zd, zp))
    (hm : a.eval m = .map (some b)) (h : MapG kt R mk ok w b n g) (key : Value) (y : κ) (hy : ok y) (hx : a.eval x = key) (hkey : keyOf Tryd.prog kt key = some (mk y))
    (u : Value) (hu : ∀ v ps, R v = some ((g y).getD zd, ps) → v = u) (hK : wpListIn F nF Tryd.prog ops Q rest (a.put o.dst u) w) : wpListIn F nF Tryd.prog ops Q (o :: rest) a w := by
  obtain ⟨D, h1, h2, h3⟩ := h
  refine wpListIn_plain hg fun K' hK' => ?_
  obtain ⟨v, ps, hrun, hv⟩ := h1.lookup K ht hz hzd hkey
  rw [(h2 y hy).2] at hv
  obtain rfl := hu v ps hv
  unfold Oper.wpIn
  refine ⟨by simp [Oper.about, hop], ?_⟩
  rw [Oper.semAt_plain F _ _ (by rw [hop]; intro c hc'; cases hc')]
  simp [execOp, hop, hm, hx, hrun, Result.andThen]
  exact hK' _ _ hK
theorem mapg_look_ok (hg : o.guard = none) (m x : Operand) (t : TypeId) (hop : o.op = Op.lookup t m x true) (e : TypeId) (K : Maps.Keyed Tryd.prog kt) (ht : Tryd.prog.underlying t = some (.map kt e)) {z : Value} (hz : (zeroValue e).run Tryd.prog w = .ok z w) (zd : DU) (zp : List MemPlace) (hzd : R z = some (zd, zp))
    (hm : a.eval m = .map (some b)) (h : MapG kt R mk ok w b n g) (key : Value) (y : κ) (hy : ok y) (hx : a.eval x = key) (hkey : keyOf Tryd.prog kt key = some (mk y))
    (u : Value) (hu : ∀ v ps, R v = some ((g y).getD zd, ps) → v = u) (hK : wpList Tryd.prog ops Q rest (a.put o.dst (.tuple #[u, .bool (g y).isSome])) w) : wpList Tryd.prog ops Q (o :: rest) a w := by
  obtain ⟨D, h1, h2, h3⟩ := h
  refine wpList_lookup_own_ok w hg m x t hop kt e K ht R hz zd zp hzd b n D hm h1 key (mk y) hx hkey fun v ps hv => ?_
  rw [(h2 y hy).2] at hv
  obtain rfl := hu v ps hv
  rw [(h2 y hy).1]
  exact hK
end


section
variable {κ : Type} [DecidableEq κ] {kt : TypeId} {R : Value → Option (DU × List MemPlace)} {mk : κ → Lit} {ok : κ → Prop} {w : World} {b n : Nat} {g : κ → Option DU}
variable {rest : List Oper} {ops : Array Oper} {o : Oper} {a : Act} {Q : Exit → Act → World → Prop}
theorem mapg_insert (KW : KeyWay mk ok) (hg : o.guard = none) (m x v : Operand) (t : TypeId) (hop : o.op = Op.insert t m x v) (e : TypeId) (K : Maps.Keyed Tryd.prog kt) (ht : Tryd.prog.underlying t = some (.map kt e))
    (hm : a.eval m = .map (some b)) (h : MapG kt R mk ok w b n g) (hn : n < maxLen) (key val : Value) (y : κ) (hy : ok y) (hx : a.eval x = key) (hv : a.eval v = val) (hkey : keyOf Tryd.prog kt key = some (mk y)) (d : DU) (ps : List MemPlace) (hval : R val = some (d, ps))
    (hK : ∀ w', MapG kt R mk ok w' b (n + 1) (fun z => if z = y then some d else g z) → Mods (fun k => k = b) w w' → w'.heap.size = w.heap.size → wpList Tryd.prog ops Q rest (a.put o.dst undef) w') : wpList Tryd.prog ops Q (o :: rest) a w := by
  obtain ⟨D, h1, h2, h3⟩ := h
  refine wpList_plain hg fun K' hK' => ?_
  obtain ⟨w', hrun, r1, r2⟩ := h1.store K ht hn hkey hval
  unfold Oper.wp
  simp [execOp, hop, hm, hx, hv, hrun, Result.andThen]
  exact hK' _ _ (hK w' (MapG.put_D KW hy h1.isMap h2 h3 r1) (mods_turned r2) (size_turned r2))
end
def intK (x : Int) : Lit := .int .i64 x
def intOk (x : Int) : Prop := -9223372036854775808 ≤ x ∧ x ≤ 9223372036854775807
theorem intWay : KeyWay intK intOk := ⟨fun x y _ _ h => by simp [intK] at h; exact h, fun x _ => by simp [intK, WideAt.IsKeyLit]⟩
theorem intKeyed : Maps.Keyed Tryd.prog 3 := Maps.int_keyed Tryd.underlying3
theorem int_key {x : Int} (h : intOk x) : keyOf Tryd.prog 3 (.int .i64 x) = some (intK x) := by
  refine Go.Maps.keyOf_int_mk Tryd.underlying3 ?_
  unfold intOk at h
  have e : IntKind.i64.min = -9223372036854775808 := by decide
  have e2 : IntKind.i64.max = 9223372036854775807 := by decide
  simp [Lit.wf, e, e2]; omega
/-- two words as an element -/
def twoL : List Value → Option (DU × List MemPlace)
  | [.string a, .string b] => some (.agg [.lit (.string a.data.toList), .lit (.string b.data.toList)], [])
  | _ => none
def twoR : Value → Option (DU × List MemPlace)
  | .agg cs => twoL cs.toList
  | _ => none
def twoD (a b : ByteArray) : DU := .agg [.lit (.string a.data.toList), .lit (.string b.data.toList)]
theorem ba_inj {a b : ByteArray} (h : a.data.toList = b.data.toList) : a = b := by rw [← mk_toList a, h, mk_toList]
theorem twoR_inv {v : Value} {x : DU × List MemPlace} (h : twoR v = some x) : ∃ a b : ByteArray, v = .agg #[.string a, .string b] ∧ x = (twoD a b, []) := by
  cases v with
  | agg cs =>
    change twoL cs.toList = some x at h
    unfold twoL at h
    split at h
    · rename_i a b hl
      cases h
      refine ⟨a, b, ?_, rfl⟩
      rw [← Array.toList_inj.1 (show cs.toList = #[Value.string a, Value.string b].toList from hl)]
    · cases h
  | _ => cases h
theorem twoR_eq {v : Value} {ps : List MemPlace} {a b : ByteArray} (h : twoR v = some (twoD a b, ps)) : v = .agg #[.string a, .string b] := by
  obtain ⟨c, d, rfl, e⟩ := twoR_inv h
  have e1 := congrArg Prod.fst e
  simp only [twoD, DataW.agg.injEq, List.cons.injEq, DataW.lit.injEq, Lit.string.injEq, and_true] at e1
  rw [ba_inj e1.1, ba_inj e1.2]
/-- the words by their kinds -/
def wordsG (x : Int) : Option DU := if known x then some (twoD (wd x.toNat) (fd x.toNat)) else none
def WMap (w : World) (b : Nat) : Prop := MapG 3 twoR intK intOk w b 13 wordsG
end Go.Proofs.YtlkeegmpjjoicaaDoor
end

section
/- The words of the kinds, as a map. -/
namespace Go.Proofs.YtlkeegmpjjoicaaDoor
open Go.RowKit

theorem words_fin (g : Int → Option DU) (hg : g = fun x => if x = 13 then some (twoD (wd 13) (fd 13)) else if x = 12 then some (twoD (wd 12) (fd 12)) else if x = 11 then some (twoD (wd 11) (fd 11)) else if x = 10 then some (twoD (wd 10) (fd 10)) else if x = 9 then some (twoD (wd 9) (fd 9)) else if x = 8 then some (twoD (wd 8) (fd 8)) else if x = 7 then some (twoD (wd 7) (fd 7)) else if x = 6 then some (twoD (wd 6) (fd 6)) else if x = 5 then some (twoD (wd 5) (fd 5)) else if x = 4 then some (twoD (wd 4) (fd 4)) else if x = 3 then some (twoD (wd 3) (fd 3)) else if x = 2 then some (twoD (wd 2) (fd 2)) else if x = 1 then some (twoD (wd 1) (fd 1)) else none) : g = wordsG := by
  subst hg
  funext x
  unfold wordsG known
  by_cases h : 1 ≤ x ∧ x ≤ 13
  · have : x = 1 ∨ x = 2 ∨ x = 3 ∨ x = 4 ∨ x = 5 ∨ x = 6 ∨ x = 7 ∨ x = 8 ∨ x = 9 ∨ x = 10 ∨ x = 11 ∨ x = 12 ∨ x = 13 := by omega
    rcases this with rfl | rfl | rfl | rfl | rfl | rfl | rfl | rfl | rfl | rfl | rfl | rfl | rfl <;> rfl
  · rw [if_neg (by omega), if_neg (by omega), if_neg (by omega), if_neg (by omega), if_neg (by omega), if_neg (by omega), if_neg (by omega), if_neg (by omega), if_neg (by omega), if_neg (by omega), if_neg (by omega), if_neg (by omega), if_neg (by omega)]
    have : (decide (1 ≤ x) && decide (x ≤ 13)) = false := by simp; omega
    rw [this]; rfl

set_option maxRecDepth 100000 in
set_option maxHeartbeats 2000000 in
theorem words_c (w : World) : Calls Tryd.prog 16 #[] w fun e w' => ∃ b, e = .returned (.map (some b)) ∧ w.heap.size ≤ b ∧ WMap w' b ∧ Below w.heap.size w w' := by
  have hmm := @run_makeMap Tryd.prog
  go_enter Tryd.func16, Tryd.ntmps16
  have hG : MapG 3 twoR intK intOk (w.alloc (.map #[] 0)) w.heap.size 0 (fun _ : Int => none) := MapG.made w
  have hB : Below w.heap.size w (w.alloc (.map #[] 0)) := (Below.refl _ _).alloc (Nat.le_refl _) _
  have hs : w.heap.size < (w.alloc (.map #[] 0)).heap.size := by simp
  go_wp2_with (refine mapg_insert intWay rfl _ _ _ 44 rfl 42 intKeyed Tryd.underlying44 rfl (by assumption) (by unfold maxLen; omega) _ _ _ ?_ rfl rfl (int_key ?_) _ _ rfl ?_; (iterate 2 (unfold intOk; omega)); intro w' hG' hM' hS'; have hs' : w.heap.size < w'.heap.size := (by rw [hS']; assumption); have hB' : Below w.heap.size w w' := Below.trans (by assumption) (Mods.below hM' (fun k e => by omega) (by omega)); clear hM' hS')
  go_ret
  have hf := hG'
  refine ⟨_, rfl, Nat.le_refl _, ?_, hB'⟩
  unfold WMap
  have e := words_fin _ rfl
  rw [← e]
  exact hf
end Go.Proofs.YtlkeegmpjjoicaaDoor
end

section
/- What Print leans on. -/
namespace Go.Proofs.YtlkeegmpjjoicaaDoor
open Go.RowKit

/-- the table that Itoa reads, and a variable of the library's -/
structure Gl (w : World) : Prop where
  tab : Lib.TabIs Tryd.prog w "internal/strconv.uint64pow10" .u64 Lib.pow10Tab
  mx : ∃ m, w.cell? ⟨1, 0, none⟩ = some (.int .i64 m)
theorem Gl.below {w w' : World} (h : Gl w) (hb : Below w.heap.size w w') : Gl w' := by
  obtain ⟨h1, m, h2⟩ := h
  refine ⟨?_, m, by rw [hb.cell (p := ⟨1, 0, none⟩) (lt_of_cell h2)]; exact h2⟩
  unfold Lib.TabIs World.var? at h1 ⊢
  cases hg : Tryd.prog.globalNamed "internal/strconv.uint64pow10" with
  | none => rw [hg] at h1; exact h1
  | some g =>
    rw [hg] at h1
    simp only [Option.bind_some] at h1 ⊢
    cases ho : w.heap[g]? with
    | none => rw [ho] at h1; cases h1
    | some o =>
      have hl := (Array.getElem?_eq_some_iff.1 ho).1
      rw [hb.block g hl]; exact h1
theorem Gl.mods {w w' : World} {s : Nat → Prop} (h : Gl w) (hm : Mods s w w') (hs : ∀ k, k < w.heap.size → ¬ s k) : Gl w' :=
  h.below ⟨hm.os, hm.tape, hm.output, hm.size, fun k hk => hm.block k hk (hs k hk)⟩
theorem below_grow {w : World} {k : Nat} {os : Array Obj} : Below w.heap.size w (Sort.grow (w.drewN k) os) :=
  ⟨rfl, rfl, rfl, by simp [Sort.grow, World.drewN], fun i hi => by simp [Sort.grow, World.drewN, Array.getElem?_append, hi]⟩
theorem itoa_c (n : Int) (h0 : -9223372036854775808 ≤ n) (h1 : n ≤ 9223372036854775807) (w : World) (h : Gl w) :
    Calls Tryd.prog 18 #[.int .i64 n] w fun e w' => e = .returned (.string ⟨(Lib.itoa n).toArray⟩) ∧ Below w.heap.size w w' :=
  (Tryd.strconv_Itoa n h0 h1 w h.tab).mono fun e w' ⟨he, k, os, hw⟩ => ⟨he, by subst hw; exact below_grow⟩
/-- the look-up of a kind -/
theorem wmap_look {w : World} {b : Nat} (h : WMap w b) {k : Int} (hk : intOk k) : (Instr.lookup 44 (.map (some b)) (.int .i64 k) true).run Tryd.prog w = .ok (.tuple #[.agg #[.string (if known k then wd k.toNat else ⟨#[]⟩), .string (if known k then fd k.toNat else ⟨#[]⟩)], .bool (known k)]) w := by
  obtain ⟨D, h1, h2, h3⟩ := h
  obtain ⟨v, ps, hrun, hv⟩ := h1.look_ok intKeyed Tryd.underlying44 (z := .agg #[.string ⟨#[]⟩, .string ⟨#[]⟩]) (by kernel_rfl) (zd := twoD ⟨#[]⟩ ⟨#[]⟩) (zp := []) rfl (int_key hk)
  rw [hrun]
  have ha := (h2 k hk).2 (twoD ⟨#[]⟩ ⟨#[]⟩)
  have hh := (h2 k hk).1
  rw [ha] at hv
  rw [hh]
  unfold wordsG at hv ⊢
  cases hkn : known k with
  | true => rw [hkn] at hv; rw [twoR_eq hv]; rfl
  | false => rw [hkn] at hv; rw [twoR_eq hv]; rfl
theorem WMap.below {w w' : World} {b : Nat} (h : WMap w b) (hb : Below w.heap.size w w') : WMap w' b := MapG.below h hb (MapG.lt h)
def strs (P : List ByteArray) : List Value := P.map Value.string
def baL (l : List UInt8) : ByteArray := ⟨l.toArray⟩
theorem baL_toList (l : List UInt8) : (baL l).data.toList = l := by simp [baL]
/-- the words of a line as strings -/
def piecesB (c : CV) : List ByteArray := wd c.kind.toNat :: (fd c.kind.toNat).data.toList.map (fun f => baL (fieldL c f))
theorem piecesB_toList (c : CV) : (piecesB c).map (·.data.toList) = piecesL c := by
  simp only [piecesB, piecesL, List.map_cons, List.map_map]
  refine congrArg _ (List.map_congr_left ?_)
  intro f _
  exact baL_toList _
theorem fieldL_len (c : CV) (hc : Sized c) (f : UInt8) : (fieldL c f).length ≤ 300001 := by
  unfold fieldL
  split
  · have := (shL_length c.path.data.toList).2; rw [sz] at this; have := hc.p; omega
  · split
    · have := (shL_length c.to.data.toList).2; rw [sz] at this; have := hc.t; omega
    · split
      · have := itoa_len c.off hc.o0 hc.o1; omega
      · split
        · have := itoa_len c.n hc.n0 hc.n1; omega
        · have := (datL_length c.dat).2; have := hc.d; omega
theorem lens_le : ∀ (L : List (List UInt8)) (m : Nat), (∀ l ∈ L, l.length ≤ m) → Lib.lens L ≤ m * L.length
  | [], _, _ => by simp [Lib.lens]
  | a :: L, m, h => by
    have h1 := lens_le L m fun l hl => h l (.tail _ hl)
    have h2 := h a (.head _)
    simp only [Lib.lens, List.map_cons, List.sum_cons, List.length_cons] at h1 ⊢
    rw [Nat.mul_succ]; omega
theorem wd_len : ∀ k : Fin 14, (wd k.val).size ≤ 6 ∧ (fd k.val).size ≤ 3 := by decide +kernel
theorem join_len (c : CV) (hc : Sized c) (hk : known c.kind = true) : (Lib.join (piecesL c) [32]).length ≤ 2000000 := by
  simp only [known, Bool.and_eq_true, decide_eq_true_eq] at hk
  have hw := wd_len ⟨c.kind.toNat, by omega⟩
  simp only at hw
  unfold piecesL
  rw [Lib.join_length]
  have hl := lens_le ((wd c.kind.toNat).data.toList :: (fd c.kind.toNat).data.toList.map (fieldL c)) 300001 (fun l h => by
    rcases List.mem_cons.1 h with rfl | h
    · rw [sz]; omega
    · obtain ⟨f, _, rfl⟩ := List.mem_map.1 h
      exact fieldL_len c hc f)
  simp only [List.length_cons, List.length_map, List.length_nil, sz] at hl ⊢
  omega
theorem letter_fd (k : Int) (h : known k = true) : ∀ f ∈ (fd k.toNat).data.toList, letter f := by
  simp only [known, Bool.and_eq_true, decide_eq_true_eq] at h
  exact (fd_fin ⟨k.toNat, by omega⟩).2
end Go.Proofs.YtlkeegmpjjoicaaDoor
end

section
/- The row's end for a statement that answers true and leaves what was there alone; the tables; a call that came in, opened. -/
namespace Go.Proofs.YtlkeegmpjjoicaaDoor
open Go.ChangeShapes Go.WideShapes Go.ChangeAt Go.RowKit Go.Deep
set_option maxRecDepth 100000

theorem ownKnobNone : ownKnob Tryd.prog.godebug = none := by kernel_rfl
theorem cells8 : Tryd.prog.cellsOf 5 = 1 := by kernel_rfl
theorem laidOut : laidOutB Tryd.prog = true := by kernel_rfl
section
variable {H : Type} {enc : TypeId × Value → H} {P : Program}
/-- nothing that was there has changed, and the arguments read as they did: the post of a statement without variables -/
theorem still_post {f : Func} {s : ChangeSpec} {apart fresh handsOn again : Bool} {W W' : World} {args : Array Value} {v : Value} {ds gs : List (DataW H)} {pa : List MemPlace}
    (hW : DataW.Whole enc P f.params.toList s.vars apart W args.toList ds gs pa) (hb : Below W.heap.size W W')
    (hr : ∀ (b : Nat) (sp : Nat → Bool) (hd : Bool), DataW.TrodAll enc P W' b sp hd f.resultTypes.toList (v.resultList f.resultTypes.size) (s.fn H (ds ++ gs)).results [])
    (ha : ∀ sp : Nat → Bool, (∀ p ∈ pa, sp p.block = true) → DataW.TrodAll enc P W' 0 sp true f.params.toList args.toList (s.fn H (ds ++ gs)).args pa)
    (hv : ∀ sp : Nat → Bool, (∀ p ∈ pa, sp p.block = true) → DataW.TrodVars enc P W' sp s.vars (s.fn H (ds ++ gs)).vars [])
    (hk : ∀ (j : Nat) (t : TypeId) (r : Value), f.resultTypes[j]? = some t → (v.resultList f.resultTypes.size)[j]? = some r → Value.okWide P W' .any 0 t r) :
    s.post enc P f apart fresh handsOn again W args v W' := by
  have low : ∀ p ∈ pa, p.block < W.heap.size := fun p hp => hW.lt p hp
  have old : ∀ p ∈ pa, (fun b => decide (b < W.heap.size)) p.block = true := fun p hp => by simpa using low p hp
  refine ⟨ds, gs, pa, [], pa, [], hW, hr _ _ _, ha _ old, hv _ old, World.keptBut_mono (fun p hp => ⟨hp, .inr (.inl hp)⟩) (hb.frame (· ∈ pa)), fun _ => ?_⟩
  obtain ⟨_, _, _, _, _, hz, hn⟩ := hW
  refine ⟨hk, _, _, ([] ++ pa) ++ [], ⟨[] ++ pa, [], trodAll_append (ha _ (fun _ _ => rfl)) (hr _ _ _), hv _ (fun _ _ => rfl), rfl, fun b off hp => ?_, fun q => ?_⟩, fun p hp _ => ?_⟩
  · have hin : MemPlace.cell b off ∈ pa := by simpa using hp
    rw [hb.frozen (low _ hin)]
    exact hz b off hin
  · have := hn q
    simpa using this
  · simpa using hp
end
section
variable {H : Type} {enc : TypeId × Value → H}
/-- the builder with a condition on the world AND the shape of the package's variables -/
theorem returnsInHanded_of_change_and_shaped {a : Assume} {C : Checked} {os : Os} {f : FuncId} {fn : Func} {s : ChangeSpec} {conds : List PathCond} {apart fresh handsOn again : Bool} {X : World → Array Value → Prop}
    (hX : ∀ (w w' : World) (args : Array Value), w.heap = w'.heap → X w args → X w' args)
    (own : ownKnob C.prog.godebug = none) (started : os.Started) (noInit : C.prog.inits.idxOf? f = none) (hfn : C.prog.funcs[f]? = some fn)
    (witness : ∃ (w : World) (tape : Tape) (i : Input), w.os = os ∧ (w.forCall tape i).Shaped C.prog ∧ i.vars = [] ∧ Input.okWide C.prog (w.forCall tape i) .any w.heap.size f i ∧
      ((s.pre enc C.prog fn conds apart (w.forCall tape i).memory i.args ∧ X (w.forCall tape i).memory i.args) ∧ sizedMet enc C.prog fn (OpenSpec.ofChange s) apart (w.forCall tape i).memory i.args) ∧ a.holds C.prog (lone (Frame.enter C.prog f i.args .normal) [] (w.forCall tape i)))
    (contract : ∀ (W : World) (base : Nat) (args : Array Value) (ds gs : List (DataW H)) (before : List MemPlace),
      (∀ (j : Nat) t v, fn.params[j]? = some t → args[j]? = some v → Value.okWide C.prog W .any base t v) →
      DataW.Whole enc C.prog fn.params.toList s.vars apart W args.toList ds gs before →
      X W args → W.ShapedOpen C.prog →
      Calls C.prog f args W fun e W' => ∃ v, e = .returned v ∧ s.post enc C.prog fn apart fresh handsOn again W args v W') :
    ReturnsInHanded a C os f .any (fun w args => (s.pre enc C.prog fn conds apart w args ∧ X w args) ∧ sizedMet enc C.prog fn (OpenSpec.ofChange s) apart w args) (s.post enc C.prog fn apart fresh handsOn again) := by
  refine returnsInHanded_of_calls own started noInit witness ?_
  intro w tape i _ hsh _ hok hpre hholds
  obtain ⟨_, _, _, fn', hfn', _, _, _, _, hval⟩ := hok
  have e : fn' = fn := Option.some.inj (hfn'.symm.trans hfn)
  subst e
  obtain ⟨⟨⟨ds, gs, before, hw, hc⟩, hx⟩, hz⟩ := hpre
  have hw' := DataW.Whole.of_heap (w' := w.forCall tape i) (by rfl) hw
  refine (contract (w.forCall tape i) w.heap.size i.args ds gs before hval hw' (hX _ _ _ (by rfl) hx) hsh).mono fun e W' ⟨v, he, hp⟩ => ?_
  subst he
  exact ChangeSpec.post_blind hp
end

/-! ### the tables -/
theorem maxLen_some {w : World} (h : w.ShapedOpen Tryd.prog) : ∃ m, w.cell? ⟨1, 0, none⟩ = some (.int .i64 m) :=
  cell_of_shapedOpen_int (t := 3) (zero := #[.int .i64 0]) h (by decide +kernel) (by kernel_rfl) (by kernel_rfl) (by kernel_rfl) (by kernel_rfl) Tryd.underlying3
abbrev laidL : List (String × DataW Unit) := [("math/bits.deBruijn32tab", Rows.laid_math_bits_deBruijn32tab), ("math/bits.deBruijn64tab", Rows.laid_math_bits_deBruijn64tab), ("internal/strconv.uint64pow10", Rows.laid_internal_strconv_uint64pow10), ("strconv.ErrRange", Rows.laid_strconv_ErrRange), ("strconv.ErrSyntax", Rows.laid_strconv_ErrSyntax)]
theorem gl_of {w : World} (h : w.ShapedOpen Tryd.prog) (hL : laidMet Tryd.prog laidL w) : Gl w :=
  ⟨Lib.tabIs_of_head (g := 0) (t := 98) (e := 87) (n := 20) (rest := [("strconv.ErrRange", Rows.laid_strconv_ErrRange), ("strconv.ErrSyntax", Rows.laid_strconv_ErrSyntax)]) (by kernel_rfl) (by kernel_rfl) (by kernel_rfl) (by kernel_rfl) (by kernel_rfl) (by kernel_rfl) hL.tail.tail, maxLen_some h⟩

/-! ### one start that fits -/
abbrev synS : ByteArray := { data := #[105, 110, 118, 97, 108, 105, 100, 32, 115, 121, 110, 116, 97, 120] }
abbrev rngS : ByteArray := { data := #[118, 97, 108, 117, 101, 32, 111, 117, 116, 32, 111, 102, 32, 114, 97, 110, 103, 101] }
def cellsOfLaid : DataW Unit → Array Value
  | .agg ds => (ds.map fun | .lit (.int k z) => Value.int k z | _ => .nilFunc).toArray
  | _ => #[]
noncomputable def low : Nat := (World.holding Tryd.prog default ⟨#[], #[], []⟩).heap.size
noncomputable def laidWorld (os : Os) : World :=
  let w0 := World.holding Tryd.prog os ⟨#[.cells #[.string synS] 122, .cells #[.string rngS] 122], #[], []⟩
  let put := fun (h : Array Obj) (g : Nat) (cs : Array Value) => h.modify g fun
      | .cells _ t frozen => .cells cs t frozen
      | o => o
  { w0 with heap := put (put (put (put (put w0.heap 0 (cellsOfLaid Rows.laid_internal_strconv_uint64pow10)) 2 #[.iface 120 (.pointer (some ⟨low, 0, none⟩))]) 3 #[.iface 120 (.pointer (some ⟨low + 1, 0, none⟩))]) 4 (cellsOfLaid Rows.laid_math_bits_deBruijn32tab)) 5 (cellsOfLaid Rows.laid_math_bits_deBruijn64tab) }

/-! ### what came in -/
theorem u8s_spot {W : World} {base : Nat} {a : Addr} {l c : Nat} (h : Cell.okWide Tryd.prog W .any base 22 (.slice (some a) l c)) : a.spot = none := by
  simp only [Cell.okWide, Tryd.underlying22, Cell.ok] at h
  exact h.2.2.2.1
section
variable {H : Type} {enc : TypeId × Value → H}
theorem open_u8s {W : World} {base n : Nat} {v : Value} {y : DataW H × List MemPlace} (hok : Cell.okWide Tryd.prog W .any base 22 v) (h : DataW.trod enc Tryd.prog W 0 (fun _ => true) true n 22 [v] = some y) :
    ∃ (va : Option Addr) (l : List UInt8) (vc : Nat), v = .slice va l.length vc ∧ SlB W v l := by
  rcases open_ints Tryd.underlying22 Tryd.underlying5 cells8 h with ⟨hcs, _⟩ | ⟨a, len, cap, zs, hcs, _, hl, hm, hz, _, hcell, hwz⟩
  · simp only [List.cons.injEq, and_true] at hcs
    exact ⟨none, [], 0, hcs, none, 0, hcs, .inl ⟨rfl, rfl⟩⟩
  · simp only [List.cons.injEq, and_true] at hcs
    subst hcs
    have hsp := u8s_spot hok
    obtain ⟨ab, ao, spot⟩ := a
    simp only at hsp
    subst hsp
    simp only [if_true] at hz
    have hlen : ((zs.take len).map fun n => UInt8.ofNat n.toNat).length = len := by simp; omega
    refine ⟨some ⟨ab, ao, none⟩, (zs.take len).map fun n => UInt8.ofNat n.toNat, cap, by rw [hlen], some ⟨ab, ao, none⟩, cap, by rw [hlen], .inr ⟨ab, ao, rfl, fun j x hx => ?_⟩⟩
    have hj : j < len := by rw [← hlen]; exact (List.getElem?_eq_some_iff.1 hx).1
    have hc := hcell j (by omega)
    rw [Addr.add_lit] at hc
    rw [hc]
    have hb : 0 ≤ zs.getD j 0 ∧ zs.getD j 0 ≤ 255 := by rw [List.getD_eq_getElem?_getD]; exact range_u8 hwz j
    have e : zs[j]? = some (zs.getD j 0) := by rw [List.getD_eq_getElem?_getD]; simp [List.getElem?_eq_getElem (show j < zs.length by omega)]
    rw [List.getElem?_map, List.getElem?_take_of_lt hj, e] at hx
    simp only [Option.map_some, Option.some.injEq] at hx
    subst hx
    clear e hc
    generalize zs.getD j 0 = z at hb ⊢
    have h1 : (UInt8.ofNat z.toNat).toNat = z.toNat := by rw [UInt8.toNat_ofNat']; omega
    rw [h1, Int.toNat_of_nonneg hb.1]
theorem array6 {α : Type} {cs : Array α} (h : cs.size = 6) : ∃ c0 c1 c2 c3 c4 c5, cs = #[c0, c1, c2, c3, c4, c5] := by
  obtain ⟨l⟩ := cs
  match l, h with
  | [c0, c1, c2, c3, c4, c5], _ => exact ⟨c0, c1, c2, c3, c4, c5, rfl⟩
theorem trod_struct6 {P : Program} {w : World} {base : Nat} {spare : Nat → Bool} {held : Bool} {t : TypeId} {f0 f1 f2 f3 f4 f5 : Field} {fuel : Nat} {c0 c1 c2 c3 c4 c5 : Value} {x : DataW H × List MemPlace} (ht : P.underlying t = some (.struct #[f0, f1, f2, f3, f4, f5])) (hone : oneCellFields P #[f0, f1, f2, f3, f4, f5] = true) (h : DataW.trod enc P w base spare held fuel t [c0, c1, c2, c3, c4, c5] = some x) :
    ∃ y0 y1 y2 y3 y4 y5 n, DataW.trod enc P w base spare held n f0.type [c0] = some y0 ∧ DataW.trod enc P w base spare held n f1.type [c1] = some y1 ∧ DataW.trod enc P w base spare held n f2.type [c2] = some y2 ∧ DataW.trod enc P w base spare held n f3.type [c3] = some y3 ∧ DataW.trod enc P w base spare held n f4.type [c4] = some y4 ∧ DataW.trod enc P w base spare held n f5.type [c5] = some y5 := by
  obtain ⟨xs, n, _, rfl, hl, hlen, hf⟩ := DataW.trod_struct ht h
  obtain ⟨o0, k0⟩ := hone_of hone 0 f0 rfl
  obtain ⟨o1, k1⟩ := hone_of hone 1 f1 rfl
  obtain ⟨o2, k2⟩ := hone_of hone 2 f2 rfl
  obtain ⟨o3, k3⟩ := hone_of hone 3 f3 rfl
  obtain ⟨o4, k4⟩ := hone_of hone 4 f4 rfl
  obtain ⟨o5, k5⟩ := hone_of hone 5 f5 rfl
  match xs, hlen with
  | [y0, y1, y2, y3, y4, y5], _ => exact ⟨y0, y1, y2, y3, y4, y5, n, by simpa [o0, k0] using hf 0 f0 rfl, by simpa [o1, k1] using hf 1 f1 rfl, by simpa [o2, k2] using hf 2 f2 rfl, by simpa [o3, k3] using hf 3 f3 rfl, by simpa [o4, k4] using hf 4 f4 rfl, by simpa [o5, k5] using hf 5 f5 rfl⟩
theorem call_last {W : World} {base : Nat} {c0 c1 c2 c3 c4 c5 : Value} (h : Value.okWide Tryd.prog W .any base 24 (.agg #[c0, c1, c2, c3, c4, c5])) : Cell.okWide Tryd.prog W .any base 22 c5 := by
  simp only [Value.okWide, Tryd.underlying24] at h
  obtain ⟨cs, hcs, _, ts, hts, _, hall⟩ := h
  rw [show Tryd.prog.cellTypes Tryd.prog.depth 24 = some [3, 9, 9, 3, 3, 22] by kernel_rfl] at hts
  obtain rfl := Option.some.inj hts
  cases hcs
  obtain ⟨u, hu, hc⟩ := hall 5 c5 rfl
  obtain rfl : 22 = u := by simpa using hu
  exact hc
theorem lit_int {n : Int} (h : (Lit.int .i64 n).wf = true) : intOk n := by
  simp only [Lit.wf, Bool.and_eq_true, decide_eq_true_eq] at h
  exact h
theorem open_call {W : World} {base : Nat} {v : Value} {d : DataW H} {p : List MemPlace} (hok : Value.okWide Tryd.prog W .any base 24 v) (h : DataW.Trod enc Tryd.prog W 0 (fun _ => true) true 24 v d p) :
    ∃ (c : CV) (va : Option Addr) (vc : Nat), v = .agg #[.int .i64 c.kind, .string c.path, .string c.to, .int .i64 c.off, .int .i64 c.n, .slice va c.dat.length vc] ∧ intOk c.kind ∧ intOk c.off ∧ intOk c.n ∧ SlB W (.slice va c.dat.length vc) c.dat := by
  obtain ⟨cs, rfl, hsz⟩ := okWide_struct Tryd.underlying24 hok
  rw [show Tryd.prog.cellsOf 24 = 6 by kernel_rfl] at hsz
  obtain ⟨c0, c1, c2, c3, c4, c5, rfl⟩ := array6 hsz
  obtain ⟨fuel, hf⟩ := h
  obtain ⟨y0, y1, y2, y3, y4, y5, n, h0, h1, h2, h3, h4, h5⟩ := trod_struct6 Tryd.underlying24 (by kernel_rfl) (by simpa [Value.cells] using hf)
  obtain ⟨k, e0, -, w0⟩ := DataW.trod_int Tryd.underlying3 h0
  obtain ⟨s1, e1, -, -⟩ := DataW.trod_string Tryd.underlying9 h1
  obtain ⟨s2, e2, -, -⟩ := DataW.trod_string Tryd.underlying9 h2
  obtain ⟨o, e3, -, w3⟩ := DataW.trod_int Tryd.underlying3 h3
  obtain ⟨m, e4, -, w4⟩ := DataW.trod_int Tryd.underlying3 h4
  obtain ⟨va, l, vc, e5, hs⟩ := open_u8s (call_last hok) h5
  simp only [List.cons.injEq, and_true] at e0 e1 e2 e3 e4
  subst e0 e1 e2 e3 e4 e5
  exact ⟨⟨k, s1, s2, o, m, l⟩, va, vc, rfl, lit_int w0, lit_int w3, lit_int w4, hs⟩
/-- a slice of bytes that came in as an argument -/
theorem open_bytes {W : World} {base : Nat} {v : Value} {d : DataW H} {p : List MemPlace} (hok : Value.okWide Tryd.prog W .any base 22 v) (h : DataW.Trod enc Tryd.prog W 0 (fun _ => true) true 22 v d p) :
    ∃ (va : Option Addr) (l : List UInt8) (vc : Nat), v = .slice va l.length vc ∧ SlB W (.slice va l.length vc) l := by
  obtain ⟨a, n, c, rfl⟩ := okWide_slice Tryd.underlying22 hok
  obtain ⟨fuel, hf⟩ := h
  obtain ⟨va, l, vc, e, hs⟩ := open_u8s (by simpa only [Value.okWide, Tryd.underlying22] using hok) (by simpa [Value.cells] using hf)
  exact ⟨va, l, vc, e, e ▸ hs⟩
end
end Go.Proofs.YtlkeegmpjjoicaaDoor
end

section
/- A call's line: Print. -/
namespace Go.Proofs.YtlkeegmpjjoicaaDoor
open Go.RowKit

theorem anyH_mono {P : Program} {md : Region.Mode} {ops : Array Oper} {Q : Exit → Act → World → Prop} {S : World → Prop} (S' : World → Prop) (hS : ∀ w, S' w → S w) : ∀ (fuel : Nat) (listed : Array Bool) (a : Act) (w : World), wpAnyH P md ops Q S' fuel listed a w → wpAnyH P md ops Q S fuel listed a w
  | 0, _, _, _, h => h
  | fuel + 1, _, _, _, h => ⟨h.1, fun i hi => wpOp_mono (fun a' w' h' => ⟨hS w' h'.1, anyH_mono S' hS fuel _ a' w' h'.2⟩) (h.2 i hi)⟩
theorem below_undrew {B : Nat} {a b : World} (h : Below B a.drew b) : Below B a b := ⟨h.os, h.tape, h.output, h.size, h.block⟩
theorem infoS : (Tryd.prog.info? 9).map (fun i => (i.zero, i.size, i.bytes)) = some (some (.string ⟨#[]⟩), 1, 16) := by kernel_rfl
theorem known_ok {k : Int} : known k = true ∨ known k = false := by cases known k <;> simp

theorem own_not_iter {w : World} {base e n : Nat} {v : Value} {xs : List Value} {g p : Nat} {s : ByteArray} (h : w.ownsRow base e 1 v n xs) (hg : v.ownBlock = some g) (hi : w.heap[g]? = some (.stringIter s p)) : False := by
  obtain ⟨_, ⟨rfl, _⟩ | ⟨g2, cap, cur, rfl, _, h2, _⟩⟩ := h
  · cases hg
  · cases hg; rw [hi] at h2; cases h2
theorem below_grown2 {W1 W w2 w3 : World} {e n : Nat} {v : Value} {xs : List Value} (h1 : Below W1.heap.size W1 W) (h2 : Below W.heap.size W w2) (ho : w2.ownsRow W1.heap.size e 1 v n xs) (hg : w2.grownBy w3 v.ownBlock) : Below W1.heap.size W1 w3 :=
  (h1.trans (h2.mono h1.size)).grown hg (Nat.le_trans h1.size h2.size) fun k hk => (ho.lt k hk).1
theorem iter_grown {W w2 w3 : World} {base e n I p : Nat} {s : ByteArray} {v : Value} {xs : List Value} (hi : W.heap[I]? = some (.stringIter s p)) (h2 : Below W.heap.size W w2) (ho : w2.ownsRow base e 1 v n xs) (hg : w2.grownBy w3 v.ownBlock) : w3.heap[I]? = some (.stringIter s p) := by
  have hl := (Array.getElem?_eq_some_iff.1 hi).1
  have h3 := (h2.block I hl).trans hi
  rw [hg.block I (Nat.lt_of_lt_of_le hl h2.size) (fun e => own_not_iter ho e.symm h3)]; exact h3
theorem piece_step {w3 : World} {base e : Nat} {v : Value} {A B : ByteArray} {c : CV} {p : Nat} {f : UInt8} {l : List UInt8} (hf : B.data.toList[p]? = some f) (hl : fieldL c f = l)
    (h : w3.ownsRow base e 1 v (p + 1 + 1) (strs (A :: (B.data.toList.take p).map (fun f => baL (fieldL c f))) ++ [.string ⟨l.toArray⟩])) : w3.ownsRow base e 1 v (p + 1 + 1) (strs (A :: (B.data.toList.take (p + 1)).map (fun f => baL (fieldL c f)))) := by
  rw [take_snoc' _ _ _ hf]
  simpa [strs, baL, hl] using h
theorem own_strs {w : World} {base e n : Nat} {v : Value} {P : List ByteArray} (h : w.ownsRow base e 1 v n (strs P)) (hn : 0 < n) : ∃ g cap, v = .slice (some ⟨g, 0, none⟩) n cap ∧ base ≤ g ∧ n ≤ cap ∧ RdS w g 0 P := by
  obtain ⟨hl, ⟨_, h⟩ | ⟨g, cap, cur, rfl, hb, hg, hc, hm, hs, ht⟩⟩ := h
  · omega
  · refine ⟨g, cap, rfl, hb, hc, fun j x hx => ?_⟩
    rw [Nat.zero_add, cell_of_row w g j cur e (0, 0) hg]
    have h1 : (strs P)[j]? = some (.string x) := by simp [strs, hx]
    have hj : j < n * 1 := by rw [← hl]; exact (List.getElem?_eq_some_iff.1 h1).1
    rw [← ht, List.getElem?_take_of_lt hj] at h1
    simpa using h1
theorem join_c (c : CV) (g n cap : Nat) (hn : n = (piecesB c).length) (w : World) (h : RdS w g 0 (piecesB c)) (hg : g < w.heap.size) (hn3 : n ≤ 4) (hcap : n ≤ cap) (hj : (Lib.join (piecesL c) [32]).length ≤ 2000000) :
    Calls Tryd.prog 20 #[.slice (some ⟨g, 0, none⟩) n cap, .string ⟨#[32]⟩] w fun e w' => e = .returned (.string (baL (Lib.join (piecesL c) [32]))) ∧ Below w.heap.size w w' := by
  have hp := piecesB_toList c
  subst hn
  have := Tryd.strings_Join g 0 cap (piecesB c) ⟨#[32]⟩ w h hg (by omega) hcap (by rw [hp]; show (Lib.join (piecesL c) [32]).length ≤ _; omega)
  rw [hp] at this
  exact this
set_option maxRecDepth 100000 in
set_option maxHeartbeats 4000000 in
theorem print_c (c : CV) (hc : Sized c) (hkd : intOk c.kind) (v : Value) (w : World) (hG : Gl w) (hv : SlB w v c.dat) :
    Calls Tryd.prog 7 #[.agg #[.int .i64 c.kind, .string c.path, .string c.to, .int .i64 c.off, .int .i64 c.n, v]] w fun e w' => e = .returned (.string (baL (printL c))) ∧ Below w.heap.size w w' := by
  obtain ⟨A, hA⟩ : ∃ A, A = if known c.kind then wd c.kind.toNat else ⟨#[]⟩ := ⟨_, rfl⟩
  obtain ⟨B, hB⟩ : ∃ B, B = if known c.kind then fd c.kind.toNat else ⟨#[]⟩ := ⟨_, rfl⟩
  obtain ⟨okb, hok⟩ : ∃ okb, okb = known c.kind := ⟨_, rfl⟩
  have hlook : ∀ (W : World) (b : Nat), WMap W b → (Instr.lookup 44 (.map (some b)) (.int .i64 c.kind) true).run Tryd.prog W = .ok (.tuple #[.agg #[.string A, .string B], .bool okb]) W := fun W b h => by rw [wmap_look h hkd, hA, hB, hok]
  have HA := Lib.hid hA; have HB := Lib.hid hB; have HOK := Lib.hid hok; have HL := Lib.hid hlook; have HG := Lib.hid hG
  obtain ⟨va, vc, rfl, -⟩ := id hv
  have HV := Lib.hid hv
  clear hA hB hok hlook hG hv
  go_enter Tryd.func7, Tryd.ntmps7
  obtain ⟨W1, hW1⟩ : ∃ W1, W1 = w.alloc (.cells #[.int .i64 c.kind, .string c.path, .string c.to, .int .i64 c.off, .int .i64 c.n, .slice va c.dat.length vc] 24) := ⟨_, rfl⟩
  have hblk : Blk 24 W1 w.heap.size (callL c (.slice va c.dat.length vc)) := by rw [hW1]; exact Blk.new (e := 24) w (callL c (.slice va c.dat.length vc))
  have hb1 : Below w.heap.size w W1 := by rw [hW1]; exact (Below.refl _ _).alloc (Nat.le_refl _) _
  have hs1 : w.heap.size < W1.heap.size := hblk.lt
  go_upto_region 1 with fail
  rw [← hW1]
  have HW1 := Lib.hid hW1; have HBK := Lib.hid hblk; have HB1 := Lib.hid hb1
  clear hW1 hblk hb1
  go_cut [3, 4] (fun s3 s4 wx => ∃ X : Nat, s3 = .pointer (some ⟨X, 0, none⟩) ∧ s4 = .bool okb ∧ Hid (Blk 42 wx X [.string A, .string B]) ∧ Hid (Below W1.heap.size W1 wx) ∧ W1.heap.size ≤ X)
  case first =>
    have hk0 := HBK.out.cell 0
    simp only [callL, List.getElem?_cons_zero] at hk0
    refine wp_region_held_drew (S := (fun w' => w'.cell? ⟨w.heap.size, 0, none⟩ = some (.int .i64 c.kind))) (by kernel_rfl) hk0 (fun hHeld => ?_)
    refine wpAnyH_take (i := 1) (oi := ⟨_, _, _, _, _, _⟩) (v := ?_) rfl (by kernel_rfl) (by kernel_rfl) (by kernel_rfl) (fun _ _ _ h => h) (Or.inl ⟨by kernel_rfl, ?_⟩) (by assumption) ?_
    rotate_left
    · (intro w hSw; (try dsimp only at hSw); go_simp; first | done | with_reducible rfl)
    simp only [Act.put, List.setIfInBounds_toArray, List.set_cons_zero, List.set_cons_succ]
    refine wpAnyH_take (i := 2) (oi := ⟨_, _, _, _, _, _⟩) (v := ?_) rfl (by kernel_rfl) (by kernel_rfl) (by kernel_rfl) (fun _ _ _ h => h) (Or.inl ⟨by kernel_rfl, ?_⟩) (by assumption) ?_
    rotate_left
    · (intro w hSw; (try dsimp only at hSw); go_simp; first | done | with_reducible rfl)
    simp only [Act.put, List.setIfInBounds_toArray, List.set_cons_zero, List.set_cons_succ]
    refine wpAnyH_ready (rs := [0, 7]) (by kernel_rfl) (by simp) ?_
    refine AllReadyH.cons rfl (fun K hK => ?_) (AllReadyH.cons rfl (fun K hK => ?_) AllReadyH.nil)
    · go_simp
      ((go_at_call 16; refine (words_c _).mono ?_; rintro e w2 ⟨bm, rfl, hbs, hWM, hb2⟩))
      have hb3 : Below W1.heap.size W1 w2 := below_undrew hb2
      have hk2 := (hb3.cell (p := ⟨w.heap.size, 0, none⟩) hs1).trans hk0
      refine hK.out _ _ ?_ (fun hHeld => ?_)
      · exact hk2
      clear hK K
      refine anyH_mono (fun (w' : World) => w'.cell? ⟨w.heap.size, 0, none⟩ = some (.int .i64 c.kind) ∧ WMap w' bm ∧ True) (fun _ h => h.1) _ _ _ _ ?_
      have hH2 : (fun (w' : World) => w'.cell? ⟨w.heap.size, 0, none⟩ = some (.int .i64 c.kind) ∧ WMap w' bm ∧ True) w2 := ⟨hk2, hWM, trivial⟩
      refine wpAnyH_take (i := 3) (oi := ⟨_, _, _, _, _, _⟩) (v := ?_) rfl (by kernel_rfl) (by kernel_rfl) (by kernel_rfl) (fun _ _ _ h => h) (Or.inl ⟨by kernel_rfl, ?_⟩) (by assumption) ?_
      rotate_left
      · (intro w hSw; (try dsimp only at hSw); have hlk := HL.out w bm hSw.2.1; go_simp; first | done | with_reducible rfl)
      simp only [Act.put, List.setIfInBounds_toArray, List.set_cons_zero, List.set_cons_succ]
      refine wpAnyH_take (i := 4) (oi := ⟨_, _, _, _, _, _⟩) (v := ?_) rfl (by kernel_rfl) (by kernel_rfl) (by kernel_rfl) (fun _ _ _ h => h) (Or.inl ⟨by kernel_rfl, ?_⟩) (by assumption) ?_
      rotate_left
      · (intro w hSw; (try dsimp only at hSw); go_simp; first | done | with_reducible rfl)
      simp only [Act.put, List.setIfInBounds_toArray, List.set_cons_zero, List.set_cons_succ]
      refine wpAnyH_take (i := 5) (oi := ⟨_, _, _, _, _, _⟩) (v := ?_) rfl (by kernel_rfl) (by kernel_rfl) (by kernel_rfl) (fun _ _ _ h => h) (Or.inl ⟨by kernel_rfl, ?_⟩) (by assumption) ?_
      rotate_left
      · (intro w hSw; (try dsimp only at hSw); go_simp; first | done | with_reducible rfl)
      simp only [Act.put, List.setIfInBounds_toArray, List.set_cons_zero, List.set_cons_succ]
      refine wpAnyH_take (i := 6) (oi := ⟨_, _, _, _, _, _⟩) (v := ?_) rfl (by kernel_rfl) (by kernel_rfl) (by kernel_rfl) (fun _ _ _ h => h) (Or.inl ⟨by kernel_rfl, ?_⟩) (by assumption) ?_
      rotate_left
      · (intro w hSw; (try dsimp only at hSw); go_simp; first | done | with_reducible rfl)
      simp only [Act.put, List.setIfInBounds_toArray, List.set_cons_zero, List.set_cons_succ]
      refine wpAnyH_ready (rs := [7]) (by kernel_rfl) (by simp) ?_
      refine AllReadyH.cons rfl (fun K hK => ?_) AllReadyH.nil
      go_simp
      obtain ⟨w3, hw3⟩ : ∃ w3, w3 = w2.alloc (.cells #[.string ⟨#[]⟩, .string ⟨#[]⟩] 42) := ⟨_, rfl⟩
      have hX3 : Blk 42 w3 w2.heap.size [.string ⟨#[]⟩, .string ⟨#[]⟩] := by rw [hw3]; exact Blk.new w2 _
      have hb4 : Below W1.heap.size W1 w3 := by rw [hw3]; exact hb3.alloc hb3.size _
      have hW3 : WMap w3 bm := by rw [hw3]; exact hWM.below ((Below.refl _ _).alloc (Nat.le_refl _) _)
      rw [← hw3]
      refine hK.out _ _ ?_ (fun hHeld => ?_)
      · exact ⟨(hb4.cell (p := ⟨w.heap.size, 0, none⟩) hs1).trans hk0, hW3, trivial⟩
      clear hK K hw3
      have hXs : W1.heap.size ≤ w2.heap.size := hb3.size
      have hXb : ¬ bm = w2.heap.size := by have := MapG.lt hWM; omega
      refine wpAnyH_ready (rs := [8]) (by kernel_rfl) (by simp) ?_
      refine AllReadyH.cons rfl (fun K hK => ?_) AllReadyH.nil
      have c0 := hX3.cell 0; have c1 := hX3.cell 1; have f0 := hX3.frozen 0; have f1 := hX3.frozen 1
      simp only [List.getElem?_cons_zero, List.getElem?_cons_succ] at c0 c1
      go_simp
      have hX5 := (hX3.set 0 (.string A)).set 1 (.string B)
      have hb5 : Below W1.heap.size W1 ((w3.setCell ⟨w2.heap.size, 0, none⟩ (.string A)).setCell ⟨w2.heap.size, 1, none⟩ (.string B)) := (hb4.setCell (p := ⟨w2.heap.size, 0, none⟩) hXs _).setCell (p := ⟨w2.heap.size, 1, none⟩) hXs _
      refine hK.out _ _ ?_ (fun hHeld => ?_)
      · exact ⟨(hb5.cell (p := ⟨w.heap.size, 0, none⟩) hs1).trans hk0, hW3.mods (((Mods.refl (fun k => k = w2.heap.size) w3).setCell _ (fun _ => rfl) _).setCell _ (fun _ => rfl) _) hXb, trivial⟩
      clear hK K
      refine wpAnyH_take (i := 9) (oi := ⟨_, _, _, _, _, _⟩) (v := ?_) rfl (by kernel_rfl) (by kernel_rfl) (by kernel_rfl) (fun _ _ _ h => h) (Or.inl ⟨by kernel_rfl, ?_⟩) (by assumption) ?_
      rotate_left
      · (intro w hSw; (try dsimp only at hSw); go_simp; first | done | with_reducible rfl)
      simp only [Act.put, List.setIfInBounds_toArray, List.set_cons_zero, List.set_cons_succ]
      refine wpAnyH_done (by kernel_rfl) ?_ _
      have HX5 := Lib.hid hX5; have HB5 := Lib.hid hb5
      clear hX5 hb5 hX3 hb4
      go_wp2_with fail
      go_meet
      case rel => exact ⟨_, rfl, rfl, HX5, HB5, hXs⟩
    · go_simp
      obtain ⟨w2, hw2⟩ : ∃ w2, w2 = (W1.alloc (.cells #[.string ⟨#[]⟩, .string ⟨#[]⟩] 42)).drew := ⟨_, rfl⟩
      have hX2 : Blk 42 w2 W1.heap.size [.string ⟨#[]⟩, .string ⟨#[]⟩] := by rw [hw2]; exact (Blk.new W1 _).drew
      have hb2 : Below W1.heap.size W1 w2 := by rw [hw2]; exact ((Below.refl _ _).alloc (Nat.le_refl _) _).drew
      rw [← hw2]
      refine hK.out _ _ ?_ (fun hHeld => ?_)
      · exact (hb2.cell (p := ⟨w.heap.size, 0, none⟩) hs1).trans hk0
      clear hK K hw2
      refine wpAnyH_ready (rs := [0]) (by kernel_rfl) (by simp) ?_
      refine AllReadyH.cons rfl (fun K hK => ?_) AllReadyH.nil
      go_simp
      ((go_at_call 16; refine (words_c _).mono ?_; rintro e w3 ⟨bm, rfl, hbs, hWM, hb3⟩))
      have hX3 := hX2.below hb3 hX2.lt
      have hb4 : Below W1.heap.size W1 w3 := hb2.trans (hb3.mono hb2.size)
      have hW3 := hWM
      have hk2 := (hb4.cell (p := ⟨w.heap.size, 0, none⟩) hs1).trans hk0
      refine hK.out _ _ ?_ (fun hHeld => ?_)
      · exact hk2
      clear hK K
      refine anyH_mono (fun (w' : World) => w'.cell? ⟨w.heap.size, 0, none⟩ = some (.int .i64 c.kind) ∧ WMap w' bm ∧ True) (fun _ h => h.1) _ _ _ _ ?_
      have hH2 : (fun (w' : World) => w'.cell? ⟨w.heap.size, 0, none⟩ = some (.int .i64 c.kind) ∧ WMap w' bm ∧ True) w3 := ⟨hk2, hWM, trivial⟩
      refine wpAnyH_take (i := 3) (oi := ⟨_, _, _, _, _, _⟩) (v := ?_) rfl (by kernel_rfl) (by kernel_rfl) (by kernel_rfl) (fun _ _ _ h => h) (Or.inl ⟨by kernel_rfl, ?_⟩) (by assumption) ?_
      rotate_left
      · (intro w hSw; (try dsimp only at hSw); have hlk := HL.out w bm hSw.2.1; go_simp; first | done | with_reducible rfl)
      simp only [Act.put, List.setIfInBounds_toArray, List.set_cons_zero, List.set_cons_succ]
      refine wpAnyH_take (i := 4) (oi := ⟨_, _, _, _, _, _⟩) (v := ?_) rfl (by kernel_rfl) (by kernel_rfl) (by kernel_rfl) (fun _ _ _ h => h) (Or.inl ⟨by kernel_rfl, ?_⟩) (by assumption) ?_
      rotate_left
      · (intro w hSw; (try dsimp only at hSw); go_simp; first | done | with_reducible rfl)
      simp only [Act.put, List.setIfInBounds_toArray, List.set_cons_zero, List.set_cons_succ]
      refine wpAnyH_take (i := 5) (oi := ⟨_, _, _, _, _, _⟩) (v := ?_) rfl (by kernel_rfl) (by kernel_rfl) (by kernel_rfl) (fun _ _ _ h => h) (Or.inl ⟨by kernel_rfl, ?_⟩) (by assumption) ?_
      rotate_left
      · (intro w hSw; (try dsimp only at hSw); go_simp; first | done | with_reducible rfl)
      simp only [Act.put, List.setIfInBounds_toArray, List.set_cons_zero, List.set_cons_succ]
      refine wpAnyH_take (i := 6) (oi := ⟨_, _, _, _, _, _⟩) (v := ?_) rfl (by kernel_rfl) (by kernel_rfl) (by kernel_rfl) (fun _ _ _ h => h) (Or.inl ⟨by kernel_rfl, ?_⟩) (by assumption) ?_
      rotate_left
      · (intro w hSw; (try dsimp only at hSw); go_simp; first | done | with_reducible rfl)
      simp only [Act.put, List.setIfInBounds_toArray, List.set_cons_zero, List.set_cons_succ]
      have hXs : W1.heap.size ≤ W1.heap.size := Nat.le_refl _
      have hXb : ¬ bm = W1.heap.size := by have := hX2.lt; omega
      refine wpAnyH_ready (rs := [8]) (by kernel_rfl) (by simp) ?_
      refine AllReadyH.cons rfl (fun K hK => ?_) AllReadyH.nil
      have c0 := hX3.cell 0; have c1 := hX3.cell 1; have f0 := hX3.frozen 0; have f1 := hX3.frozen 1
      simp only [List.getElem?_cons_zero, List.getElem?_cons_succ] at c0 c1
      go_simp
      have hX5 := (hX3.set 0 (.string A)).set 1 (.string B)
      have hb5 : Below W1.heap.size W1 ((w3.setCell ⟨W1.heap.size, 0, none⟩ (.string A)).setCell ⟨W1.heap.size, 1, none⟩ (.string B)) := (hb4.setCell (p := ⟨W1.heap.size, 0, none⟩) hXs _).setCell (p := ⟨W1.heap.size, 1, none⟩) hXs _
      refine hK.out _ _ ?_ (fun hHeld => ?_)
      · exact ⟨(hb5.cell (p := ⟨w.heap.size, 0, none⟩) hs1).trans hk0, hW3.mods (((Mods.refl (fun k => k = W1.heap.size) w3).setCell _ (fun _ => rfl) _).setCell _ (fun _ => rfl) _) hXb, trivial⟩
      clear hK K
      refine wpAnyH_take (i := 9) (oi := ⟨_, _, _, _, _, _⟩) (v := ?_) rfl (by kernel_rfl) (by kernel_rfl) (by kernel_rfl) (fun _ _ _ h => h) (Or.inl ⟨by kernel_rfl, ?_⟩) (by assumption) ?_
      rotate_left
      · (intro w hSw; (try dsimp only at hSw); go_simp; first | done | with_reducible rfl)
      simp only [Act.put, List.setIfInBounds_toArray, List.set_cons_zero, List.set_cons_succ]
      refine wpAnyH_done (by kernel_rfl) ?_ _
      have HX5 := Lib.hid hX5; have HB5 := Lib.hid hb5
      clear hX5 hb5 hX3 hb4
      go_wp2_with fail
      go_meet
      case rel => exact ⟨_, rfl, rfl, HX5, HB5, hXs⟩
  case rest =>
    obtain ⟨X, rfl, rfl, HX, HBx, hX⟩ := hcut
    have hXl := HX.out.lt
    have x0 := HX.out.cell 0; have x1 := HX.out.cell 1
    simp only [List.getElem?_cons_zero, List.getElem?_cons_succ] at x0 x1
    rcases known_ok (k := c.kind) with hk | hk
    · obtain rfl : okb = true := HOK.out.trans hk
      have hA : A = wd c.kind.toNat := by rw [HA.out, hk]; rfl
      have hB : B = fd c.kind.toNat := by rw [HB.out, hk]; rfl
      have HA2 := Lib.hid hA; have HB2 := Lib.hid hB; have HK := Lib.hid hk
      obtain ⟨jS, hjS, hj0, hj1, hj2⟩ := info_parts infoS
      have hbw := HBx.out.size
      obtain ⟨n, hn⟩ : ∃ n, n = B.size := ⟨_, rfl⟩
      have hn3 : n ≤ 3 := by rw [hn, hB]; simp only [known, Bool.and_eq_true, decide_eq_true_eq] at hk; exact (wd_len ⟨c.kind.toNat, by omega⟩).2
      have HN := Lib.hid hn
      clear hA hB hk hn
      go_wp2
      go_loopw [5, 7] (fun v5 _ wr => ∃ p : Nat, p ≤ n ∧ Hid (wr.heap[wc.heap.size + 1]? = some (.stringIter B p)) ∧ Hid (wr.ownsRow W1.heap.size 9 1 v5 (p + 1) (strs (A :: (B.data.toList.take p).map (fun f => baL (fieldL c f))))) ∧ Hid (Below W1.heap.size W1 wr)) (fun _ _ wr => n - wr.iterPos (wc.heap.size + 1))
      case atStart =>
        obtain ⟨w5, hw5⟩ : ∃ w5, w5 = wc.alloc (.cells #[.string A] 9) := ⟨_, rfl⟩
        have hs5 : w5.heap.size = wc.heap.size + 1 := by rw [hw5]; simp
        have hb5 : Blk 9 w5 wc.heap.size [.string A] := by rw [hw5]; exact Blk.new wc _
        have ho5 := (Blk.own hb5 (base := W1.heap.size) (n := 1) (by omega) rfl (by decide)).alloc (.stringIter B 0)
        rw [← hw5]
        refine ⟨0, Nat.zero_le _, Lib.hid ?_, Lib.hid ho5, Lib.hid ?_⟩
        · have := World.iter_heap w5 B 0; rw [hs5] at this; exact this
        · have h9 := HBx.out.alloc hbw (.cells #[.string A] 9)
          rw [← hw5] at h9
          exact h9.alloc (by omega) _
      case round =>
        obtain ⟨p, hp, HI, HO, HW⟩ := hrel
        have hbr := HW.out.size
        have hIl := (Array.getElem?_eq_some_iff.1 HI.out).1
        by_cases hlt : p < n
        · have hpk : p < B.size := by rw [← HN.out]; exact hlt
          have hmem : B[p] ∈ B.data.toList := by rw [Array.mem_toList_iff]; exact Array.getElem_mem hpk
          have hlet := letter_fd c.kind HK.out B[p] (by rw [← HB2.out]; exact hmem)
          have hfk : B.data.toList[p]? = some B[p] := by rw [List.getElem?_eq_getElem (by rw [sz]; exact hpk)]; rfl
          obtain ⟨W, hW⟩ : ∃ W, W = wr.iterAt (wc.heap.size + 1) B (p + 1) := ⟨_, rfl⟩
          have hnx := Lib.run_next_ascii_at (P := Tryd.prog) wr (wc.heap.size + 1) B p 0 HI.out hpk (by rcases hlet with h | h | h | h | h <;> rw [h] <;> decide)
          obtain ⟨hit2, hmW, hsW⟩ := stepW (b := 0) (k := 0) hW HI.out
          have hbW : Below W1.heap.size W1 W := HW.out.trans (Mods.below hmW (fun k e => by omega) (by omega))
          have hoW := own_mods HO.out hmW (fun g e1 e2 => by subst e2; exact own_not_iter HO.out e1 HI.out)
          have hsw := hsW
          have q1 := (hbW.cell (p := ⟨w.heap.size, 1, none⟩) hs1).trans (HBK.out.cell 1)
          have q2 := (hbW.cell (p := ⟨w.heap.size, 2, none⟩) hs1).trans (HBK.out.cell 2)
          have q3 := (hbW.cell (p := ⟨w.heap.size, 3, none⟩) hs1).trans (HBK.out.cell 3)
          have q4 := (hbW.cell (p := ⟨w.heap.size, 4, none⟩) hs1).trans (HBK.out.cell 4)
          have q5 := (hbW.cell (p := ⟨w.heap.size, 5, none⟩) hs1).trans (HBK.out.cell 5)
          simp only [callL, List.getElem?_cons_zero, List.getElem?_cons_succ] at q1 q2 q3 q4 q5
          have hbwW : Below w.heap.size w W := HB1.out.trans (hbW.mono (Nat.le_of_lt hs1))
          have HGW := Lib.hid (HG.out.below hbwW); have HVW := Lib.hid (HV.out.below hbwW)
          have HIT := Lib.hid hit2; have HBW := Lib.hid hbW; have HOW := Lib.hid hoW; have HFK := Lib.hid hfk
          have hWs : W1.heap.size ≤ W.heap.size := hbW.size
          have hWi : wc.heap.size + 1 < W.heap.size := by rw [hsW]; exact hIl
          clear hit2 hmW hbW hoW hbwW hmem hfk hsw hsW
          rcases hlet with h | h | h | h | h
          · rw [h, ← hW] at hnx
            have HF := Lib.hid (show fieldL c B[p] = shL c.path.data.toList by rw [h]; rfl)
            clear h hW
            go_wp2_with (first
              | (go_at_call 17; refine (shown_c c.path (by have := hc.p; omega) _).mono ?_; rintro e w2 ⟨rfl, hb2⟩; have HB2b := Lib.hid hb2; have hs2 := hb2.size; have HO2 := Lib.hid (own_below HOW.out hb2); have hs22 : W1.heap.size ≤ w2.heap.size := (by omega); clear hb2)
              | (at_builtin; refine app_own [_] rfl _ _ 34 rfl W1.heap.size 9 jS (.string ⟨#[]⟩) 1 16 Tryd.underlying34 hjS hj0 hj1 hj2 rfl (by decide) _ (p + 1) _ rfl (by exact .inl HO2.out) rfl rfl (by simp [Value.oneCell']) (by unfold maxLen; omega) (by omega) hs22 ?_; intro g cap w3 ho3 hg3 ha3 hl3; have HO3 := Lib.hid ho3; have HB3 := Lib.hid (below_grown2 HBW.out HB2b.out HO2.out hg3); have HI3 := Lib.hid (iter_grown HIT.out HB2b.out HO2.out hg3); clear ho3 hg3 ha3))
            go_roundw
            case rel => exact ⟨p + 1, by omega, HI3, Lib.hid (piece_step HFK.out HF.out HO3.out), HB3⟩
            case measure => rw [iterPos_of HI3.out, iterPos_of HI.out]; omega
          · rw [h, ← hW] at hnx
            have HF := Lib.hid (show fieldL c B[p] = shL c.to.data.toList by rw [h]; rfl)
            clear h hW
            go_wp2_with (first
              | (go_at_call 17; refine (shown_c c.to (by have := hc.t; omega) _).mono ?_; rintro e w2 ⟨rfl, hb2⟩; have HB2b := Lib.hid hb2; have hs2 := hb2.size; have HO2 := Lib.hid (own_below HOW.out hb2); have hs22 : W1.heap.size ≤ w2.heap.size := (by omega); clear hb2)
              | (at_builtin; refine app_own [_] rfl _ _ 34 rfl W1.heap.size 9 jS (.string ⟨#[]⟩) 1 16 Tryd.underlying34 hjS hj0 hj1 hj2 rfl (by decide) _ (p + 1) _ rfl (by exact .inl HO2.out) rfl rfl (by simp [Value.oneCell']) (by unfold maxLen; omega) (by omega) hs22 ?_; intro g cap w3 ho3 hg3 ha3 hl3; have HO3 := Lib.hid ho3; have HB3 := Lib.hid (below_grown2 HBW.out HB2b.out HO2.out hg3); have HI3 := Lib.hid (iter_grown HIT.out HB2b.out HO2.out hg3); clear ho3 hg3 ha3))
            go_roundw
            case rel => exact ⟨p + 1, by omega, HI3, Lib.hid (piece_step HFK.out HF.out HO3.out), HB3⟩
            case measure => rw [iterPos_of HI3.out, iterPos_of HI.out]; omega
          · rw [h, ← hW] at hnx
            have HF := Lib.hid (show fieldL c B[p] = Lib.itoa c.off by rw [h]; rfl)
            clear h hW
            go_wp2_with (first
              | (go_at_call 18; refine (itoa_c c.off hc.o0 hc.o1 _ HGW.out).mono ?_; rintro e w2 ⟨rfl, hb2⟩; have HB2b := Lib.hid hb2; have hs2 := hb2.size; have HO2 := Lib.hid (own_below HOW.out hb2); have hs22 : W1.heap.size ≤ w2.heap.size := (by omega); clear hb2)
              | (at_builtin; refine app_own [_] rfl _ _ 34 rfl W1.heap.size 9 jS (.string ⟨#[]⟩) 1 16 Tryd.underlying34 hjS hj0 hj1 hj2 rfl (by decide) _ (p + 1) _ rfl (by exact .inl HO2.out) rfl rfl (by simp [Value.oneCell']) (by unfold maxLen; omega) (by omega) hs22 ?_; intro g cap w3 ho3 hg3 ha3 hl3; have HO3 := Lib.hid ho3; have HB3 := Lib.hid (below_grown2 HBW.out HB2b.out HO2.out hg3); have HI3 := Lib.hid (iter_grown HIT.out HB2b.out HO2.out hg3); clear ho3 hg3 ha3))
            go_roundw
            case rel => exact ⟨p + 1, by omega, HI3, Lib.hid (piece_step HFK.out HF.out HO3.out), HB3⟩
            case measure => rw [iterPos_of HI3.out, iterPos_of HI.out]; omega
          · rw [h, ← hW] at hnx
            have HF := Lib.hid (show fieldL c B[p] = Lib.itoa c.n by rw [h]; rfl)
            clear h hW
            go_wp2_with (first
              | (go_at_call 18; refine (itoa_c c.n hc.n0 hc.n1 _ HGW.out).mono ?_; rintro e w2 ⟨rfl, hb2⟩; have HB2b := Lib.hid hb2; have hs2 := hb2.size; have HO2 := Lib.hid (own_below HOW.out hb2); have hs22 : W1.heap.size ≤ w2.heap.size := (by omega); clear hb2)
              | (at_builtin; refine app_own [_] rfl _ _ 34 rfl W1.heap.size 9 jS (.string ⟨#[]⟩) 1 16 Tryd.underlying34 hjS hj0 hj1 hj2 rfl (by decide) _ (p + 1) _ rfl (by exact .inl HO2.out) rfl rfl (by simp [Value.oneCell']) (by unfold maxLen; omega) (by omega) hs22 ?_; intro g cap w3 ho3 hg3 ha3 hl3; have HO3 := Lib.hid ho3; have HB3 := Lib.hid (below_grown2 HBW.out HB2b.out HO2.out hg3); have HI3 := Lib.hid (iter_grown HIT.out HB2b.out HO2.out hg3); clear ho3 hg3 ha3))
            go_roundw
            case rel => exact ⟨p + 1, by omega, HI3, Lib.hid (piece_step HFK.out HF.out HO3.out), HB3⟩
            case measure => rw [iterPos_of HI3.out, iterPos_of HI.out]; omega
          · rw [h, ← hW] at hnx
            have HF := Lib.hid (show fieldL c B[p] = datL c.dat by rw [h]; rfl)
            clear h hW
            go_wp2_with (first
              | (go_at_call 19; refine (data_c _ c.dat (by have := hc.d; omega) _ HVW.out).mono ?_; rintro e w2 ⟨rfl, hb2⟩; have HB2b := Lib.hid hb2; have hs2 := hb2.size; have HO2 := Lib.hid (own_below HOW.out hb2); have hs22 : W1.heap.size ≤ w2.heap.size := (by omega); clear hb2)
              | (at_builtin; refine app_own [_] rfl _ _ 34 rfl W1.heap.size 9 jS (.string ⟨#[]⟩) 1 16 Tryd.underlying34 hjS hj0 hj1 hj2 rfl (by decide) _ (p + 1) _ rfl (by exact .inl HO2.out) rfl rfl (by simp [Value.oneCell']) (by unfold maxLen; omega) (by omega) hs22 ?_; intro g cap w3 ho3 hg3 ha3 hl3; have HO3 := Lib.hid ho3; have HB3 := Lib.hid (below_grown2 HBW.out HB2b.out HO2.out hg3); have HI3 := Lib.hid (iter_grown HIT.out HB2b.out HO2.out hg3); clear ho3 hg3 ha3))
            go_roundw
            case rel => exact ⟨p + 1, by omega, HI3, Lib.hid (piece_step HFK.out HF.out HO3.out), HB3⟩
            case measure => rw [iterPos_of HI3.out, iterPos_of HI.out]; omega
        · obtain rfl : p = n := by omega
          have hnx := Lib.run_next_end_at (P := Tryd.prog) wr (wc.heap.size + 1) B p 0 HI.out (by rw [← HN.out]; omega)
          have hk2 : B.data.toList.take p = B.data.toList := by rw [HN.out, ← sz, List.take_length]
          have ho := HO.out
          rw [hk2] at ho
          have hpb : A :: B.data.toList.map (fun f => baL (fieldL c f)) = piecesB c := by rw [HA2.out, HB2.out]; rfl
          rw [hpb] at ho
          have hpl : p + 1 = (piecesB c).length := by rw [← hpb, List.length_cons, List.length_map, sz, HN.out]
          obtain ⟨g, cap, rfl, hgb, hcap, hcell⟩ := own_strs ho (by omega)
          have HCE := Lib.hid hcell; have HPL := Lib.hid hpl
          have hgl := lt_of_cell (hcell 0 _ (by rfl : (piecesB c)[0]? = some (wd c.kind.toNat)))
          have HJ := Lib.hid (join_len c hc HK.out)
          clear hk2 ho hpb hpl hcell
          go_wp2_with (first
            | (go_at_call 20; refine (join_c c g (p + 1) cap HPL.out _ HCE.out hgl (by omega) hcap HJ.out).mono ?_; rintro e w9 ⟨rfl, hb9⟩; have HB9 := Lib.hid hb9; clear hb9))
          go_ret
          exact ⟨by rw [printL, HK.out]; rfl, (HB1.out.trans (HW.out.mono (Nat.le_of_lt hs1))).trans (HB9.out.mono (by omega))⟩
    · obtain rfl : okb = false := HOK.out.trans hk
      have hpr : printL c = [] := by unfold printL; rw [hk]; rfl
      have HP := Lib.hid hpr
      clear hpr hk
      go_wp2
      go_ret
      exact ⟨by rw [HP.out]; rfl, HB1.out.trans (HBx.out.mono (Nat.le_of_lt hs1))⟩
end Go.Proofs.YtlkeegmpjjoicaaDoor
end
