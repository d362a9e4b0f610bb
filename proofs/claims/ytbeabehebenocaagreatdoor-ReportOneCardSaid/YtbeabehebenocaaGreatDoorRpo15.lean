/- Part of the road to RpCard: RpLines, RpAll, LikeG, RpPure, RpImg, RpImg2, RpImg5, RpSame, RpCase, RpLaw, RpOne, RpRow. -/
import Derived.OrdersIn
import Derived.Deep.RegionHeld3
import Derived.LaidLaws
import Derived.Lib.LaidTab
import Derived.WideKeyArgs
import Derived.Carry
import Derived.Shelf.Vars
import Derived.JoinedOf
import Derived.Stop.LaidErr
import Derived.JoinedAt
import Derived.SizedLaws
import Derived.Test.YtbeabehebenocaaGreatDoorRpo14
import Derived.Test.YtbeabehebenocaaGreatDoorRpo13
import Derived.Test.YtbeabehebenocaaGreatDoorRpo08
import Derived.Test.YtbeabehebenocaaGreatDoorRpo07
set_option linter.all false
set_option linter.unusedSimpArgs false
set_option linter.unusedVariables false
set_option linter.unusedSectionVars false
section
/- report: the lines, as an iterator. -/
namespace Go.Proofs.YtbeabehebenocaaGreatDoor
open Go.RowKit Go.Shelf
attribute [local go_sem] Oper.semAt_some

def bBlock : ByteArray := ⟨#[98, 108, 111, 99, 107]⟩
/-- the line of a block -/
def lineB (g : Geo) (h : Nat → Nat) (p : Nat) : ByteArray := toldB bBlock [p] ++ (⟨#[32]⟩ : ByteArray) ++ wordB g (dirsC g h g.inodes) p
def inoLs' (g : Geo) (f h : Nat → Nat) (k : Nat) : List ByteArray := inoLs (inoGood g f (k + 1)) (inoAt g f (k + 1)) (inoAt g h (k + 1)) (k + 1)
def lnsI (g : Geo) (f h : Nat → Nat) (k : Nat) : List ByteArray := (List.range k).flatMap (inoLs' g f h)
/-- all lines: f as it was, h as it is to be -/
def linesL (g : Geo) (f h : Nat → Nat) (U : List Nat) : List ByteArray := U.map (lineB g h) ++ lnsI g f h g.inodes
theorem inoLs_len (good : Bool) (I J : InoN) (x : Nat) : (inoLs good I J x).length ≤ 2 := by
  unfold inoLs
  split
  · simp
  · split
    · simp
    · split
      · simp
      · simp only [List.length_append]
        have h1 : (if I 1 ≠ J 1 then [toldB bLinks [x, I 1, J 1]] else []).length ≤ 1 := by split <;> simp
        have h2 : (if I 2 ≠ J 2 then [toldB bSize [x, I 2, J 2]] else []).length ≤ 1 := by split <;> simp
        omega
theorem lnsI_succ (g : Geo) (f h : Nat → Nat) (k : Nat) : lnsI g f h (k + 1) = lnsI g f h k ++ inoLs' g f h k := by simp [lnsI, List.range_succ]
theorem lnsI_len (g : Geo) (f h : Nat → Nat) : ∀ k, (lnsI g f h k).length ≤ 2 * k
  | 0 => by simp [lnsI]
  | k + 1 => by
    have := lnsI_len g f h k
    have h2 := inoLs_len (inoGood g f (k + 1)) (inoAt g f (k + 1)) (inoAt g h (k + 1)) (k + 1)
    rw [lnsI_succ, List.length_append]
    unfold inoLs'
    omega

theorem Turn.mods {Dm : World → Nat → Prop} {l : Nat} {W W' : World} (ht : Turn Dm l W W') : Mods (fun k => k = l ∨ Dm W k) W W' :=
  ⟨ht.os, ht.tape, ht.output, ht.size, fun k hk hn => ht.block k hk (fun e => hn (.inl e)) (fun d => hn (.inr d))⟩
/-- between the lines: what the loop of the caller keeps, and what the iterator needs -/
structure LK (J : List ByteArray → World → Prop) (Dm : World → Nat → Prop) (w0 : World) (l q0 q1 q2 : Nat) (im0 im1 im2 : List Value) (pre : List ByteArray) (W : World) : Prop where
  j : J pre W
  bel : Below w0.heap.size w0 W
  lt : l < W.heap.size
  m0 : Mine Dm q0 im0 49 W
  m1 : Mine Dm q1 im1 45 W
  m2 : Mine Dm q2 im2 49 W
section
variable {J : List ByteArray → World → Prop} {Dm : World → Nat → Prop} {w0 : World} {l q0 q1 q2 : Nat} {im0 im1 im2 : List Value} {pre : List ByteArray} {W W' : World}
theorem LK.call {B : Nat} (h : LK J Dm w0 l q0 q1 q2 im0 im1 im2 pre W) (hB : Bears B Dm J) (hb : Below W.heap.size W W') : LK J Dm w0 l q0 q1 q2 im0 im1 im2 pre W' ∧ ∀ k, Dm W' k → Dm W k := by
  have g := grown_below hb
  obtain ⟨j, d⟩ := hB pre W W' none h.j g (fun r e => by cases e)
  exact ⟨⟨j, h.bel.trans (hb.mono h.bel.size), Nat.lt_of_lt_of_le h.lt hb.size, h.m0.alloc g d, h.m1.alloc g d, h.m2.alloc g d⟩, d⟩
theorem LK.turn {pre' : List ByteArray} (h : LK J Dm w0 l q0 q1 q2 im0 im1 im2 pre W) (ht : Turn Dm l W W') (hj : J pre' W') (hl : w0.heap.size ≤ l) (n0 : q0 ≠ l) (n1 : q1 ≠ l) (n2 : q2 ≠ l) (hnd : ∀ k, k < w0.heap.size → ¬ Dm W k) :
    LK J Dm w0 l q0 q1 q2 im0 im1 im2 pre' W' :=
  ⟨hj, ⟨ht.os.trans h.bel.os, ht.tape.trans h.bel.tape, ht.output.trans h.bel.output, Nat.le_trans h.bel.size ht.size, fun k hk => (ht.block k (Nat.lt_of_lt_of_le hk h.bel.size) (by omega) (hnd k hk)).trans (h.bel.block k hk)⟩, Nat.lt_of_lt_of_le h.lt ht.size, h.m0.turn ht n0, h.m1.turn ht n1, h.m2.turn ht n2⟩
end
/-- a map that the caller's loop does not own -/
structure DK (Dm : World → Nat → Prop) (DB n : Nat) (dc : Nat → Bool) (W : World) : Prop where
  cl : Claims W DB n dc
  nd : ¬ Dm W DB
theorem DK.call {Dm : World → Nat → Prop} {DB n : Nat} {dc : Nat → Bool} {W W' : World} (h : DK Dm DB n dc W) (hb : Below W.heap.size W W') (d : ∀ k, Dm W' k → Dm W k) : DK Dm DB n dc W' := ⟨MapG.below h.cl hb h.cl.lt, fun hd => h.nd (d _ hd)⟩
theorem DK.turn {Dm : World → Nat → Prop} {DB n l : Nat} {dc : Nat → Bool} {W W' : World} (h : DK Dm DB n dc W) (ht : Turn Dm l W W') (hl : DB ≠ l) : DK Dm DB n dc W' :=
  ⟨MapG.mods h.cl ht.mods (fun e => e.elim hl h.nd), fun hd => h.nd (ht.own _ h.cl.lt hd)⟩
/-- a row of strings that the caller's loop does not own -/
def SK (Dm : World → Nat → Prop) (l : Nat) (A : Option Addr) (LS : List ByteArray) (W : World) : Prop := ∀ j s, LS[j]? = some s → ∃ G, A = some ⟨G, 0, none⟩ ∧ ¬ Dm W G ∧ G ≠ l ∧ G < W.heap.size ∧ W.cell? ⟨G, j, none⟩ = some (.string s)
theorem SK.turn {Dm : World → Nat → Prop} {l : Nat} {A : Option Addr} {LS : List ByteArray} {W W' : World} (h : SK Dm l A LS W) (ht : Turn Dm l W W') : SK Dm l A LS W' := fun j s hj => by
  obtain ⟨G, e, h1, h2, h3, h4⟩ := h j s hj
  exact ⟨G, e, fun hd => h1 (ht.own _ h3 hd), h2, Nat.lt_of_lt_of_le h3 ht.size, (ht.mods.cell h3 (fun e => e.elim h2 h1)).trans h4⟩
theorem SK.own {Dm : World → Nat → Prop} {l base n : Nat} {v : Value} {LS : List ByteArray} {W : World} (ho : W.ownsRow base 9 1 v n (LS.map Value.string)) (hl : l < base) (hd : ∀ k, Dm W k → k < base) : ∃ A c, v = .slice A n c ∧ SK Dm l A LS W := by
  obtain ⟨hlen, ho⟩ := ho
  rcases ho with ⟨h1, h2⟩ | ⟨g, cap, cur, h1, h2, h3, h4⟩
  · refine ⟨none, 0, by rw [h1, h2], fun j s hj => ?_⟩
    have := (List.getElem?_eq_some_iff.1 hj).1
    simp [h2] at hlen
    rw [hlen] at this
    simp at this
  · refine ⟨_, _, h1, fun j s hj => ⟨g, rfl, fun hx => by have := hd _ hx; omega, by omega, (Array.getElem?_eq_some_iff.1 h3).1, ?_⟩⟩
    have := World.ownsRow.cells (w := W) (base := base) (e := 9) (size := 1) (v := v) (n := n) (xs := LS.map Value.string) ⟨hlen, .inr ⟨g, cap, cur, h1, h2, h3, h4⟩⟩ (g := g) (by rw [h1]; rfl) j (.string s) (by rw [List.getElem?_map, hj]; rfl)
    simpa [Addr.add_lit] using this
def imL (g : Geo) (b o N cap : Nat) : List Value := [.int .i64 (g.gr : Nat), .int .i64 (g.ino : Nat), .int .i64 (g.da : Nat), .slice (some ⟨b, o, none⟩) N cap]
set_option maxRecDepth 1000000 in
set_option maxHeartbeats 8000000 in
theorem lines_seq (n : Nat) (hn : 3 ≤ n) (g : Geo) (hg : g.Ok) (b o N cap b2 o2 cap2 : Nat) (f h : Nat → Nat) (w0 w : World) (q0 q1 q2 : Nat) (A : Option Addr) (c : Nat) (U : List Nat)
    (hI : ImgOk g b o N cap f w0) (hJ : ImgOk g b2 o2 N cap2 h w0) (hT : TabG w0) (hU : ∀ k p, U[k]? = some p → ∃ G, A = some ⟨G, 0, none⟩ ∧ w0.cell? ⟨G, k, none⟩ = some (.int .i64 (p : Nat))) (hUl : U.length ≤ 1000) (hUp : ∀ p ∈ U, 1 ≤ p ∧ p ≤ 1000000)
    (hs : g.dOk (inoAt g h 1 11) = false ∧ g.dOk (inoAt g h 1 12) = false) (hd : inoAt g h 1 0 = 2) (hno : ∀ x, 2 ≤ x → x ≤ g.inodes → inoAt g h x 0 ≠ 2)
    (hb0 : Below w0.heap.size w0 w) (k0 : Blk 49 w q0 (imL g b2 o2 N cap2)) (k1 : Blk 45 w q1 [.slice A U.length c]) (k2 : Blk 49 w q2 (imL g b o N cap)) :
    SeqD Fence.wide n Tryz.prog 37 #[.pointer (some ⟨q0, 0, none⟩), .pointer (some ⟨q1, 0, none⟩), .pointer (some ⟨q2, 0, none⟩)] (fun s : ByteArray => #[.string s]) (fun k => k < w0.heap.size ∨ k = q0 ∨ k = q1 ∨ k = q2)
      (fun _ _ => True) (fun xs => xs = linesL g f h U) (fun _ => True) 2100 w := by
  intro l J Dm W hW hl1 hl2 hB hDlt hLink hY h0
  have hnd : ∀ pre A, J pre A → ∀ k, k < w0.heap.size → ¬ Dm A k := fun pre A hA k hk hd => (hDlt pre A k hA hd).2 (.inl hk)
  have K0 : LK J Dm w0 l q0 q1 q2 (imL g b2 o2 N cap2) [.slice A U.length c] (imL g b o N cap) [] W :=
    ⟨h0, hb0.trans (hW.mono hb0.size), hl2, ⟨(hW.block _ k0.lt).trans k0, fun hd => (hDlt _ _ _ h0 hd).2 (.inr (.inl rfl))⟩, ⟨(hW.block _ k1.lt).trans k1, fun hd => (hDlt _ _ _ h0 hd).2 (.inr (.inr (.inl rfl)))⟩, ⟨(hW.block _ k2.lt).trans k2, fun hd => (hDlt _ _ _ h0 hd).2 (.inr (.inr (.inr rfl)))⟩⟩
  have lq0 : q0 ≠ l := by have := k0.lt; omega
  have lq1 : q1 ≠ l := by have := k1.lt; omega
  have lq2 : q2 ≠ l := by have := k2.lt; omega
  have lw0 : w0.heap.size ≤ l := by have := hb0.size; omega
  have TURN : ∀ pre pre' W1 W2, LK J Dm w0 l q0 q1 q2 (imL g b2 o2 N cap2) [.slice A U.length c] (imL g b o N cap) pre W1 → Turn Dm l W1 W2 → J pre' W2 → LK J Dm w0 l q0 q1 q2 (imL g b2 o2 N cap2) [.slice A U.length c] (imL g b o N cap) pre' W2 :=
    fun pre pre' W1 W2 h1 ht hj => h1.turn ht hj lw0 lq0 lq1 lq2 (hnd _ _ h1.j)
  have DC := fun W1 (hb : Below w0.heap.size w0 W1) => dirs_c g hg b2 o2 N cap2 h W1 (hJ.below hb hJ.lt) hs hd hno
  have IC := fun W1 (hb : Below w0.heap.size w0 W1) x (hx : x ≤ 1000000) => rpinode_c g b o N cap b2 o2 cap2 x f h W1 (hI.below hb hI.lt) (hJ.below hb hJ.lt) (hT.below hb) hx (fun k => inoAt_lt hI x k) (fun k => inoAt_lt hJ x k)
  have WC := fun W1 DB n (hD : Claims W1 DB n (dirsC g h g.inodes)) p (hp : 1 ≤ p ∧ p ≤ 1000000) => word_c g hg (.slice (some ⟨b2, o2, none⟩) N cap2) rfl DB n _ p W1 hD hp.1 hp.2
  have NI := fun W => inodes_c g hg W
  refine callsIn_of_wp Tryz.func37 rfl trivial ?_ rfl
  simp only [Tryz.ntmps37, List.size_toArray, List.length_cons, List.length_nil, Nat.reduceAdd, Nat.reduceSub, Array.replicate_succ, Array.replicate_zero, List.push_toArray, List.append_toArray, List.nil_append, List.cons_append]
  have hil := hg.inodes_le
  have HK0 := Lib.hid K0; have HB := Lib.hid hB; have HY := Lib.hid hY; have HU := Lib.hid hU; have HUP := Lib.hid hUp; have HTN := Lib.hid TURN; have HND := Lib.hid hnd; have HDL := Lib.hid hDlt; have HT := Lib.hid hT; have HHI := Lib.hid hI; have HHJ := Lib.hid hJ
  have c0 := K0.m0.1.cell 0; have c1 := K0.m0.1.cell 1; have c2 := K0.m0.1.cell 2; have c3 := K0.m0.1.cell 3; have c4 := K0.m1.1.cell 0
  unfold imL at c0 c1 c2 c3
  simp only [List.getElem?_cons_zero, List.getElem?_cons_succ] at c0 c1 c2 c3 c4
  have L0 := K0.m0.1.lt; have L1 := K0.m1.1.lt; have L2 := K0.m2.1.lt
  have DC0 := DC W K0.bel
  clear K0 hB hY hU hUp TURN hnd hDlt hT hI hJ h0 hW hb0 k0 k1 k2 hs hd hno
  gi_wp2
  refine ⟨trivial, fun _ => (by omega), (callsIn_wide.2 DC0).mono ?_⟩
  rintro e w2 ⟨DB, nd, rfl, hDB, hcl, hb2⟩
  obtain ⟨K2, d2⟩ := HK0.out.call HB.out hb2
  have D2 : DK Dm DB nd (dirsC g h g.inodes) w2 := ⟨hcl, fun hx => by have := (HDL.out _ _ _ HK0.out.j (d2 _ hx)).1; omega⟩
  have hDBl : DB ≠ l := by omega
  have c4' := K2.m1.1.cell 0
  simp only [List.getElem?_cons_zero] at c4'
  have L1' := K2.m1.1.lt
  have HK2 := Lib.hid K2; have HD2 := Lib.hid D2
  have hzW := hb2.size
  clear c0 c1 c2 c3 c4 DC0 DC K2 D2 hcl hb2 d2 HK0
  gi_wp2
  gi_loopw [15] (fun i' wr => ∃ k : Nat, k ≤ U.length ∧ i' = .int .i64 (k : Nat) ∧ ∃ wq, wq = wr ∧ LK J Dm w0 l q0 q1 q2 (imL g b2 o2 N cap2) [.slice A U.length c] (imL g b o N cap) ((U.take k).map (lineB g h)) wq ∧ DK Dm DB nd (dirsC g h g.inodes) wq) (fun i' _ => U.length - (intOf i').toNat)
  case atStart => exact ⟨0, Nat.zero_le _, rfl, _, rfl, HK2.out, HD2.out⟩
  case round =>
    obtain ⟨k, hk, rfl, wx, rfl, hK, hD⟩ := hrel
    have HK := Lib.hid hK; have HD := Lib.hid hD
    have c0 := hK.m0.1.cell 0; have c1 := hK.m0.1.cell 1; have c2 := hK.m0.1.cell 2; have c3 := hK.m0.1.cell 3
    unfold imL at c0 c1 c2 c3
    simp only [List.getElem?_cons_zero, List.getElem?_cons_succ] at c0 c1 c2 c3
    have l0 := hK.m0.1.lt
    by_cases hlt : k < U.length
    · obtain ⟨p, hp⟩ : ∃ p, U[k]? = some p := ⟨_, List.getElem?_eq_getElem hlt⟩
      obtain ⟨G, hA, hcell⟩ := HU.out k p hp
      have hcell2 := (hK.bel.cell (p := ⟨G, k, none⟩) (lt_of_cell hcell)).trans hcell
      have hpb := HUP.out p (List.mem_of_getElem? hp)
      have lG := lt_of_cell hcell2
      have hli : (k : Int) < (U.length : Int) := by omega
      subst hA
      have HP := Lib.hid hp
      clear hK hD hp hcell
      gi_wp2
      obtain ⟨wd, hwd⟩ : ∃ W, W = wx.drew := ⟨_, rfl⟩
      obtain ⟨KD, dD⟩ := HK.out.call HB.out (W' := wd) (by rw [hwd]; exact (Below.refl _ wx).drew)
      have DD := HD.out.call (W' := wd) (by rw [hwd]; exact (Below.refl _ wx).drew) dD
      clear c0 c1 c2 c3 l0 lG hcell2
      have c0 := KD.m0.1.cell 0; have c1 := KD.m0.1.cell 1; have c2 := KD.m0.1.cell 2; have c3 := KD.m0.1.cell 3
      unfold imL at c0 c1 c2 c3
      simp only [List.getElem?_cons_zero, List.getElem?_cons_succ] at c0 c1 c2 c3
      have l0 := KD.m0.1.lt
      have TOLD := told_new bBlock [p] wd (HT.out.below KD.bel) (by show (1 : Nat) ≤ 1000; decide) (by decide) (fun n hn => by simp at hn; omega) wd.heap.size 1 rfl rfl
      have zT : (toldB bBlock [p]).size ≤ 100 := by
        have := toldB_size bBlock [p] (fun n hn => by simp at hn; omega) 1
        have e : bBlock.size = 5 := rfl
        simp only [List.take_succ_cons, List.take_zero] at this
        omega
      have zW : (wordB g (dirsC g h g.inodes) p).size ≤ 100 := by unfold wordB; split <;> split <;> decide
      obtain ⟨TB, hTB⟩ : ∃ T, T = toldB bBlock [p] := ⟨_, rfl⟩
      obtain ⟨WB, hWB⟩ : ∃ T, T = wordB g (dirsC g h g.inodes) p := ⟨_, rfl⟩
      have WCC := fun W1 n (hD : Claims W1 DB n (dirsC g h g.inodes)) => WC W1 DB n hD p hpb
      rw [← hTB] at TOLD zT
      rw [← hWB] at zW WCC
      have hline : lineB g h p = TB ++ (⟨#[32]⟩ : ByteArray) ++ WB := by unfold lineB; rw [← hTB, ← hWB]
      have s1 : ¬ 9223372036854775807 < TB.size + 1 := by omega
      have s2 : ¬ 9223372036854775807 < TB.size + 1 + WB.size := by omega
      have HKD := Lib.hid KD; have HDD := Lib.hid DD; have HTOLD := Lib.hid TOLD; have HWC := Lib.hid WCC; have HLN := Lib.hid hline
      refine wpIn_region_any (by kernel_rfl) ?_
      change wpAnyIn _ _ _ _ _ _ _ _ _ (World.drew _)
      rw [← hwd]
      clear KD DD dD TOLD WCC hline hTB hWB hwd WC
      clear IC
      refine wpAnyIn_take (i := 0) (oi := ⟨_, _, _, _, _, _⟩) (v := ?_) rfl rfl (by kernel_rfl) (by kernel_rfl) (by kernel_rfl) (fun _ _ _ h => h) ⟨Or.inl ⟨by kernel_rfl, ?_⟩, fun _ => rfl⟩ ?_
      rotate_left
      · (intro w; go_simp; first | done | with_reducible rfl)
      simp only [Act.put, List.setIfInBounds_toArray, List.set_cons_zero, List.set_cons_succ]
      refine wpAnyIn_take (i := 1) (oi := ⟨_, _, _, _, _, _⟩) (v := ?_) rfl rfl (by kernel_rfl) (by kernel_rfl) (by kernel_rfl) (fun _ _ _ h => h) ⟨Or.inl ⟨by kernel_rfl, ?_⟩, fun _ => rfl⟩ ?_
      rotate_left
      · (intro w; go_simp; first | done | with_reducible rfl)
      simp only [Act.put, List.setIfInBounds_toArray, List.set_cons_zero, List.set_cons_succ]
      refine wpAnyIn_take (i := 6) (oi := ⟨_, _, _, _, _, _⟩) (v := ?_) rfl rfl (by kernel_rfl) (by kernel_rfl) (by kernel_rfl) (fun _ _ _ h => h) ⟨Or.inl ⟨by kernel_rfl, ?_⟩, fun _ => rfl⟩ ?_
      rotate_left
      · (intro w; go_simp; first | done | with_reducible rfl)
      simp only [Act.put, List.setIfInBounds_toArray, List.set_cons_zero, List.set_cons_succ]
      refine wpAnyIn_take (i := 7) (oi := ⟨_, _, _, _, _, _⟩) (v := ?_) rfl rfl (by kernel_rfl) (by kernel_rfl) (by kernel_rfl) (fun _ _ _ h => h) ⟨Or.inl ⟨by kernel_rfl, ?_⟩, fun _ => rfl⟩ ?_
      rotate_left
      · (intro w; go_simp; first | done | with_reducible rfl)
      simp only [Act.put, List.setIfInBounds_toArray, List.set_cons_zero, List.set_cons_succ]
      -- WAYS
      refine wpAnyIn_ready (rs := [2, 5]) (by kernel_rfl) (by simp) ?_
      refine AllReadyIn.cons rfl (fun K hK => ?_) (AllReadyIn.cons rfl (fun K hK => ?_) AllReadyIn.nil)
      · go_simp
        refine hK _ _ ?_
        clear hK K
        refine wpAnyIn_ready (rs := [3, 5]) (by kernel_rfl) (by simp) ?_
        refine AllReadyIn.cons rfl (fun K hK => ?_) (AllReadyIn.cons rfl (fun K hK => ?_) AllReadyIn.nil)
        · go_simp
          refine ⟨trivial, fun _ => (by omega), (callsIn_wide.2 HTOLD.out).mono ?_⟩
          rintro e w3 ⟨rfl, hb3⟩
          obtain ⟨K3, d3⟩ := HKD.out.call HB.out hb3
          have D3 := HDD.out.call hb3 d3
          have e0 := K3.m0.1.cell 0; have e1 := K3.m0.1.cell 1; have e2 := K3.m0.1.cell 2; have e3 := K3.m0.1.cell 3
          unfold imL at e0 e1 e2 e3
          simp only [List.getElem?_cons_zero, List.getElem?_cons_succ] at e0 e1 e2 e3
          have l3 := K3.m0.1.lt
          have HK3 := Lib.hid K3; have HD3 := Lib.hid D3
          clear K3 D3 d3
          refine hK _ _ ?_
          clear hK K
          refine wpAnyIn_take (i := 4) (oi := ⟨_, _, _, _, _, _⟩) (v := ?_) rfl rfl (by kernel_rfl) (by kernel_rfl) (by kernel_rfl) (fun _ _ _ h => h) ⟨Or.inl ⟨by kernel_rfl, ?_⟩, fun _ => rfl⟩ ?_
          rotate_left
          · (intro w; go_simp; first | done | with_reducible rfl)
          simp only [Act.put, List.setIfInBounds_toArray, List.set_cons_zero, List.set_cons_succ]
          refine wpAnyIn_ready (rs := [5]) (by kernel_rfl) (by simp) ?_
          refine AllReadyIn.cons rfl (fun K hK => ?_) AllReadyIn.nil
          go_simp
          refine hK _ _ ?_
          clear hK K
          refine wpAnyIn_ready (rs := [8]) (by kernel_rfl) (by simp) ?_
          refine AllReadyIn.cons rfl (fun K hK => ?_) AllReadyIn.nil
          go_simp
          refine ⟨trivial, fun _ => (by omega), (callsIn_wide.2 (HWC.out _ _ HD3.out.cl)).mono ?_⟩
          rintro e w4 ⟨rfl, hb4⟩
          obtain ⟨K4, d4⟩ := HK3.out.call HB.out hb4
          have D4 := HD3.out.call hb4 d4
          refine hK _ _ ?_
          clear hK K
          refine wpAnyIn_take (i := 9) (oi := ⟨_, _, _, _, _, _⟩) (v := ?_) rfl rfl (by kernel_rfl) (by kernel_rfl) (by kernel_rfl) (fun _ _ _ h => h) ⟨Or.inl ⟨by kernel_rfl, ?_⟩, fun _ => rfl⟩ ?_
          rotate_left
          · (intro w; go_simp; first | done | with_reducible rfl)
          simp only [Act.put, List.setIfInBounds_toArray, List.set_cons_zero, List.set_cons_succ]
          obtain ⟨fn, tmps, assign, body, hy, hR⟩ := HY.out _ (lineB g h p) _ K4.j trivial (by rw [List.length_map, List.length_take]; omega)
          rw [HLN.out] at hy
          have HK4 := Lib.hid K4; have HD4 := Lib.hid D4; have HR := Lib.hid hR
          clear K4 D4 d4 hR
          refine wpAnyIn_ready (rs := [10]) (by kernel_rfl) (by simp) ?_
          refine AllReadyIn.cons rfl (fun K hK => ?_) AllReadyIn.nil
          go_simp
          refine ⟨fun _ => (by omega), HR.out.mono ?_⟩
          rintro e w5 ⟨rfl, J5, t5⟩
          have HK5 := Lib.hid (HTN.out _ _ _ _ HK4.out t5 J5); have HD5 := Lib.hid (HD4.out.turn t5 hDBl)
          clear J5 t5 hy
          refine hK _ _ ?_
          clear hK K
          refine wpAnyIn_take (i := 11) (oi := ⟨_, _, _, _, _, _⟩) (v := ?_) rfl rfl (by kernel_rfl) (by kernel_rfl) (by kernel_rfl) (fun _ _ _ h => h) ⟨Or.inl ⟨by kernel_rfl, ?_⟩, fun _ => rfl⟩ ?_
          rotate_left
          · (intro w; go_simp; first | done | with_reducible rfl)
          simp only [Act.put, List.setIfInBounds_toArray, List.set_cons_zero, List.set_cons_succ]
          refine wpAnyIn_done (by kernel_rfl) ?_ _
          gi_wp2
          go_roundw
          case rel => exact ⟨k + 1, by omega, by go_num, _, rfl, by rw [List.take_add_one, HP.out, List.map_append]; exact HK5.out, HD5.out⟩
          case measure => simp [intOf] <;> omega
        · go_simp
          refine hK _ _ ?_
          clear hK K
          refine wpAnyIn_ready (rs := [3]) (by kernel_rfl) (by simp) ?_
          refine AllReadyIn.cons rfl (fun K hK => ?_) AllReadyIn.nil
          go_simp
          refine ⟨trivial, fun _ => (by omega), (callsIn_wide.2 HTOLD.out).mono ?_⟩
          rintro e w3 ⟨rfl, hb3⟩
          obtain ⟨K3, d3⟩ := HKD.out.call HB.out hb3
          have D3 := HDD.out.call hb3 d3
          have e0 := K3.m0.1.cell 0; have e1 := K3.m0.1.cell 1; have e2 := K3.m0.1.cell 2; have e3 := K3.m0.1.cell 3
          unfold imL at e0 e1 e2 e3
          simp only [List.getElem?_cons_zero, List.getElem?_cons_succ] at e0 e1 e2 e3
          have l3 := K3.m0.1.lt
          have HK3 := Lib.hid K3; have HD3 := Lib.hid D3
          clear K3 D3 d3
          refine hK _ _ ?_
          clear hK K
          refine wpAnyIn_take (i := 4) (oi := ⟨_, _, _, _, _, _⟩) (v := ?_) rfl rfl (by kernel_rfl) (by kernel_rfl) (by kernel_rfl) (fun _ _ _ h => h) ⟨Or.inl ⟨by kernel_rfl, ?_⟩, fun _ => rfl⟩ ?_
          rotate_left
          · (intro w; go_simp; first | done | with_reducible rfl)
          simp only [Act.put, List.setIfInBounds_toArray, List.set_cons_zero, List.set_cons_succ]
          refine wpAnyIn_ready (rs := [8]) (by kernel_rfl) (by simp) ?_
          refine AllReadyIn.cons rfl (fun K hK => ?_) AllReadyIn.nil
          go_simp
          refine ⟨trivial, fun _ => (by omega), (callsIn_wide.2 (HWC.out _ _ HD3.out.cl)).mono ?_⟩
          rintro e w4 ⟨rfl, hb4⟩
          obtain ⟨K4, d4⟩ := HK3.out.call HB.out hb4
          have D4 := HD3.out.call hb4 d4
          refine hK _ _ ?_
          clear hK K
          refine wpAnyIn_take (i := 9) (oi := ⟨_, _, _, _, _, _⟩) (v := ?_) rfl rfl (by kernel_rfl) (by kernel_rfl) (by kernel_rfl) (fun _ _ _ h => h) ⟨Or.inl ⟨by kernel_rfl, ?_⟩, fun _ => rfl⟩ ?_
          rotate_left
          · (intro w; go_simp; first | done | with_reducible rfl)
          simp only [Act.put, List.setIfInBounds_toArray, List.set_cons_zero, List.set_cons_succ]
          obtain ⟨fn, tmps, assign, body, hy, hR⟩ := HY.out _ (lineB g h p) _ K4.j trivial (by rw [List.length_map, List.length_take]; omega)
          rw [HLN.out] at hy
          have HK4 := Lib.hid K4; have HD4 := Lib.hid D4; have HR := Lib.hid hR
          clear K4 D4 d4 hR
          refine wpAnyIn_ready (rs := [10]) (by kernel_rfl) (by simp) ?_
          refine AllReadyIn.cons rfl (fun K hK => ?_) AllReadyIn.nil
          go_simp
          refine ⟨fun _ => (by omega), HR.out.mono ?_⟩
          rintro e w5 ⟨rfl, J5, t5⟩
          have HK5 := Lib.hid (HTN.out _ _ _ _ HK4.out t5 J5); have HD5 := Lib.hid (HD4.out.turn t5 hDBl)
          clear J5 t5 hy
          refine hK _ _ ?_
          clear hK K
          refine wpAnyIn_take (i := 11) (oi := ⟨_, _, _, _, _, _⟩) (v := ?_) rfl rfl (by kernel_rfl) (by kernel_rfl) (by kernel_rfl) (fun _ _ _ h => h) ⟨Or.inl ⟨by kernel_rfl, ?_⟩, fun _ => rfl⟩ ?_
          rotate_left
          · (intro w; go_simp; first | done | with_reducible rfl)
          simp only [Act.put, List.setIfInBounds_toArray, List.set_cons_zero, List.set_cons_succ]
          refine wpAnyIn_done (by kernel_rfl) ?_ _
          gi_wp2
          go_roundw
          case rel => exact ⟨k + 1, by omega, by go_num, _, rfl, by rw [List.take_add_one, HP.out, List.map_append]; exact HK5.out, HD5.out⟩
          case measure => simp [intOf] <;> omega
      · go_simp
        refine hK _ _ ?_
        clear hK K
        refine wpAnyIn_ready (rs := [2]) (by kernel_rfl) (by simp) ?_
        refine AllReadyIn.cons rfl (fun K hK => ?_) AllReadyIn.nil
        go_simp
        refine hK _ _ ?_
        clear hK K
        refine wpAnyIn_ready (rs := [3]) (by kernel_rfl) (by simp) ?_
        refine AllReadyIn.cons rfl (fun K hK => ?_) AllReadyIn.nil
        go_simp
        refine ⟨trivial, fun _ => (by omega), (callsIn_wide.2 HTOLD.out).mono ?_⟩
        rintro e w3 ⟨rfl, hb3⟩
        obtain ⟨K3, d3⟩ := HKD.out.call HB.out hb3
        have D3 := HDD.out.call hb3 d3
        have e0 := K3.m0.1.cell 0; have e1 := K3.m0.1.cell 1; have e2 := K3.m0.1.cell 2; have e3 := K3.m0.1.cell 3
        unfold imL at e0 e1 e2 e3
        simp only [List.getElem?_cons_zero, List.getElem?_cons_succ] at e0 e1 e2 e3
        have l3 := K3.m0.1.lt
        have HK3 := Lib.hid K3; have HD3 := Lib.hid D3
        clear K3 D3 d3
        refine hK _ _ ?_
        clear hK K
        refine wpAnyIn_take (i := 4) (oi := ⟨_, _, _, _, _, _⟩) (v := ?_) rfl rfl (by kernel_rfl) (by kernel_rfl) (by kernel_rfl) (fun _ _ _ h => h) ⟨Or.inl ⟨by kernel_rfl, ?_⟩, fun _ => rfl⟩ ?_
        rotate_left
        · (intro w; go_simp; first | done | with_reducible rfl)
        simp only [Act.put, List.setIfInBounds_toArray, List.set_cons_zero, List.set_cons_succ]
        refine wpAnyIn_ready (rs := [8]) (by kernel_rfl) (by simp) ?_
        refine AllReadyIn.cons rfl (fun K hK => ?_) AllReadyIn.nil
        go_simp
        refine ⟨trivial, fun _ => (by omega), (callsIn_wide.2 (HWC.out _ _ HD3.out.cl)).mono ?_⟩
        rintro e w4 ⟨rfl, hb4⟩
        obtain ⟨K4, d4⟩ := HK3.out.call HB.out hb4
        have D4 := HD3.out.call hb4 d4
        refine hK _ _ ?_
        clear hK K
        refine wpAnyIn_take (i := 9) (oi := ⟨_, _, _, _, _, _⟩) (v := ?_) rfl rfl (by kernel_rfl) (by kernel_rfl) (by kernel_rfl) (fun _ _ _ h => h) ⟨Or.inl ⟨by kernel_rfl, ?_⟩, fun _ => rfl⟩ ?_
        rotate_left
        · (intro w; go_simp; first | done | with_reducible rfl)
        simp only [Act.put, List.setIfInBounds_toArray, List.set_cons_zero, List.set_cons_succ]
        obtain ⟨fn, tmps, assign, body, hy, hR⟩ := HY.out _ (lineB g h p) _ K4.j trivial (by rw [List.length_map, List.length_take]; omega)
        rw [HLN.out] at hy
        have HK4 := Lib.hid K4; have HD4 := Lib.hid D4; have HR := Lib.hid hR
        clear K4 D4 d4 hR
        refine wpAnyIn_ready (rs := [10]) (by kernel_rfl) (by simp) ?_
        refine AllReadyIn.cons rfl (fun K hK => ?_) AllReadyIn.nil
        go_simp
        refine ⟨fun _ => (by omega), HR.out.mono ?_⟩
        rintro e w5 ⟨rfl, J5, t5⟩
        have HK5 := Lib.hid (HTN.out _ _ _ _ HK4.out t5 J5); have HD5 := Lib.hid (HD4.out.turn t5 hDBl)
        clear J5 t5 hy
        refine hK _ _ ?_
        clear hK K
        refine wpAnyIn_take (i := 11) (oi := ⟨_, _, _, _, _, _⟩) (v := ?_) rfl rfl (by kernel_rfl) (by kernel_rfl) (by kernel_rfl) (fun _ _ _ h => h) ⟨Or.inl ⟨by kernel_rfl, ?_⟩, fun _ => rfl⟩ ?_
        rotate_left
        · (intro w; go_simp; first | done | with_reducible rfl)
        simp only [Act.put, List.setIfInBounds_toArray, List.set_cons_zero, List.set_cons_succ]
        refine wpAnyIn_done (by kernel_rfl) ?_ _
        gi_wp2
        go_roundw
        case rel => exact ⟨k + 1, by omega, by go_num, _, rfl, by rw [List.take_add_one, HP.out, List.map_append]; exact HK5.out, HD5.out⟩
        case measure => simp [intOf] <;> omega
      -- WAYS END
    · obtain rfl : k = U.length := by omega
      have hln : ¬ ((U.length : Int) < (U.length : Int)) := by omega
      have hK' : LK J Dm w0 l q0 q1 q2 (imL g b2 o2 N cap2) [.slice A U.length c] (imL g b o N cap) (U.map (lineB g h) ++ lnsI g f h 0) wx := by
        have := HK.out
        rw [List.take_length] at this
        simpa [lnsI] using this
      have HK1 := Lib.hid hK'
      obtain ⟨PU, hPU⟩ : ∃ PU, PU = U.map (lineB g h) := ⟨_, rfl⟩
      have zPU : PU.length = U.length := by rw [hPU, List.length_map]
      rw [← hPU] at HK1
      have HPU := Lib.hid hPU
      clear hK hD hK' HK HD c0 c1 c2 c3 l0 hlt WC hPU
      gi_wp2
      gi_loopw [8] (fun i' wr => ∃ k : Nat, k ≤ g.inodes ∧ i' = .int .i64 ((k : Int) + 1) ∧ ∃ wq, wq = wr ∧ LK J Dm w0 l q0 q1 q2 (imL g b2 o2 N cap2) [.slice A U.length c] (imL g b o N cap) (PU ++ lnsI g f h k) wq) (fun i' _ => g.inodes + 1 - (intOf i').toNat)
      case atStart => exact ⟨0, Nat.zero_le _, rfl, _, rfl, HK1.out⟩
      case round =>
        obtain ⟨k, hk, rfl, wy, rfl, hK⟩ := hrel
        have HK := Lib.hid hK
        have c0 := hK.m0.1.cell 0; have c1 := hK.m0.1.cell 1; have c2 := hK.m0.1.cell 2; have c3 := hK.m0.1.cell 3
        unfold imL at c0 c1 c2 c3
        simp only [List.getElem?_cons_zero, List.getElem?_cons_succ] at c0 c1 c2 c3
        have l0 := hK.m0.1.lt
        by_cases hlt : k < g.inodes
        · have hli : (k : Int) + 1 ≤ (g.inodes : Int) := by omega
          clear hK
          gi_wp2
          refine ⟨trivial, fun _ => (by omega), (callsIn_wide.2 (NI wy)).mono ?_⟩
          rintro e w2 ⟨rfl, hb2⟩
          obtain ⟨K2, d2⟩ := HK.out.call HB.out hb2
          clear c0 c1 c2 c3 l0
          have e0 := K2.m0.1.cell 0; have e1 := K2.m0.1.cell 1; have e2 := K2.m0.1.cell 2; have e3 := K2.m0.1.cell 3
          have i0 := K2.m2.1.cell 0; have i1 := K2.m2.1.cell 1; have i2 := K2.m2.1.cell 2; have i3 := K2.m2.1.cell 3
          unfold imL at e0 e1 e2 e3 i0 i1 i2 i3
          simp only [List.getElem?_cons_zero, List.getElem?_cons_succ] at e0 e1 e2 e3 i0 i1 i2 i3
          have l0 := K2.m0.1.lt; have l2 := K2.m2.1.lt
          have ICC := IC w2 K2.bel (k + 1) (by omega)
          have hLL : inoLs (inoGood g f (k + 1)) (inoAt g f (k + 1)) (inoAt g h (k + 1)) (k + 1) = inoLs' g f h k := rfl
          rw [hLL] at ICC
          have hl22 : (inoLs' g f h k).length ≤ 2 := inoLs_len _ _ _ _
          have hsucc := lnsI_succ g f h k
          have hlk := lnsI_len g f h k
          generalize inoLs' g f h k = LS at ICC hl22 hsucc
          have HK2 := Lib.hid K2; have HSU := Lib.hid hsucc
          have ICC2 : Calls Tryz.prog 41 #[.agg #[.int .i64 g.gr, .int .i64 g.ino, .int .i64 g.da, .slice (some ⟨b, o, none⟩) N cap], .agg #[.int .i64 g.gr, .int .i64 g.ino, .int .i64 g.da, .slice (some ⟨b2, o2, none⟩) N cap2], .int .i64 ((k : Int) + 1)] w2 fun e w' => ∃ v, e = .returned v ∧
            w'.ownsRow w2.heap.size 9 1 v LS.length (LS.map Value.string) ∧ Below w2.heap.size w2 w' := ICC
          clear K2 d2 hLL hsucc ICC hb2
          gi_wp2
          refine ⟨trivial, fun _ => (by omega), (callsIn_wide.2 ICC2).mono ?_⟩
          rintro e w3 ⟨v, rfl, hov, hb3⟩
          obtain ⟨K3, d3⟩ := HK2.out.call HB.out hb3
          have hWz := K3.bel.size
          have hl3 := HK2.out.lt
          obtain ⟨A2, c2', rfl, hSK⟩ := SK.own (l := l) hov hl3 (fun k hk => (HDL.out _ _ _ HK2.out.j (d3 _ hk)).1)
          have HK3 := Lib.hid K3; have HSK := Lib.hid hSK
          clear K3 d3 hSK hov hb3 e0 e1 e2 e3 i0 i1 i2 i3 l0 l2
          gi_wp2
          gi_loopw [44] (fun i' wr => ∃ j : Nat, j ≤ LS.length ∧ i' = .int .i64 (j : Nat) ∧ ∃ wq, wq = wr ∧ LK J Dm w0 l q0 q1 q2 (imL g b2 o2 N cap2) [.slice A U.length c] (imL g b o N cap) (PU ++ lnsI g f h k ++ LS.take j) wq ∧ SK Dm l A2 LS wq) (fun i' _ => LS.length - (intOf i').toNat)
          case atStart => exact ⟨0, Nat.zero_le _, rfl, _, rfl, by simpa using HK3.out, HSK.out⟩
          case round =>
            obtain ⟨j, hj, rfl, wz, rfl, hK, hS⟩ := hrel
            by_cases hlt2 : j < LS.length
            · obtain ⟨x, hx⟩ : ∃ x, LS[j]? = some x := ⟨_, List.getElem?_eq_getElem hlt2⟩
              obtain ⟨G, hA, hG1, hG2, hG3, hcell⟩ := hS j x hx
              subst hA
              obtain ⟨fn, tmps, assign, body, hy, hR⟩ := HY.out _ x _ hK.j trivial (by simp only [List.length_append, List.length_take]; omega)
              have HR := Lib.hid hR; have HKz := Lib.hid hK; have HSz := Lib.hid hS; have HX := Lib.hid hx
              have hli2 : (j : Int) < (LS.length : Int) := by omega
              clear hR hK hS hx hG1 hG2
              gi_wp2
              refine ⟨fun _ => (by omega), HR.out.mono ?_⟩
              rintro e w5 ⟨rfl, J5, t5⟩
              have HK5 := Lib.hid (HTN.out _ _ _ _ HKz.out t5 J5); have HS5 := Lib.hid (HSz.out.turn t5)
              clear J5 t5 hy
              gi_wp2
              go_roundw
              case rel => exact ⟨j + 1, by omega, by go_num, _, rfl, by rw [List.take_add_one, HX.out, ← List.append_assoc]; exact HK5.out, HS5.out⟩
              case measure => simp [intOf] <;> omega
            · obtain rfl : j = LS.length := by omega
              have hln2 : ¬ ((LS.length : Int) < (LS.length : Int)) := by omega
              have HK6 := Lib.hid hK
              clear hK hS hlt2
              gi_wp2
              go_roundw
              case rel =>
                refine ⟨k + 1, by omega, by go_num, _, rfl, ?_⟩
                have := HK6.out
                rw [List.take_length, List.append_assoc, ← HSU.out] at this
                exact this
              case measure => simp [intOf] <;> omega
        · obtain rfl : k = g.inodes := by omega
          have hln3 : ¬ ((g.inodes : Int) + 1 ≤ (g.inodes : Int)) := by omega
          clear hK
          gi_wp2
          refine ⟨trivial, fun _ => (by omega), (callsIn_wide.2 (NI wy)).mono ?_⟩
          rintro e w2 ⟨rfl, hb2⟩
          obtain ⟨K2, d2⟩ := HK.out.call HB.out hb2
          have hJ2 := Lib.hid K2.j
          clear c0 c1 c2 c3 l0 K2 d2
          gi_wp2
          go_end0
          refine ⟨⟨_, rfl⟩, _, ?_, hJ2.out⟩
          rw [HPU.out]; rfl
end Go.Proofs.YtbeabehebenocaaGreatDoor
end

section
/- report.Lines: all that is told of an image. -/
namespace Go.Proofs.YtbeabehebenocaaGreatDoor
open Go.RowKit Go.Shelf
attribute [local go_sem] Oper.semAt_some

def bDirty : ByteArray := ⟨#[100, 105, 114, 116, 121]⟩
def bClean : ByteArray := ⟨#[99, 108, 101, 97, 110]⟩
def allB (L : List ByteArray) : List ByteArray := if L.length = 0 then [bClean] else L ++ [toldB bDirty [L.length]]
def RDm (s : Nat) (W : World) (k : Nat) : Prop := k = s ∨ ∃ n cap, W.cell? ⟨s, 0, none⟩ = some (.slice (some ⟨k, 0, none⟩) n cap)
/-- between the rounds -/
structure RJ (w1 : World) (s B0 : Nat) (pre : List ByteArray) (W : World) : Prop where
  out : ∃ v, Blk 27 W s [v] ∧ W.ownsRow B0 9 1 v pre.length (pre.map Value.string)
  mods : Mods (fun k => k = s) w1 W
theorem RJ.bears (w1 : World) (s B0 : Nat) (hs : w1.heap.size = B0) (hsB : s < B0) : Bears B0 (RDm s) (RJ w1 s B0) := by
  intro pre A C row h hg hr
  obtain ⟨⟨v, hv, ho⟩, hm⟩ := h
  have hne : ∀ k, k < B0 → row ≠ some k := fun k hk e => by have := (hr k e).1; omega
  have hcell : C.cell? ⟨s, 0, none⟩ = A.cell? ⟨s, 0, none⟩ := World.cell?_of_block (w := A) (hg.block _ hv.lt (fun e => hne s hsB e.symm))
  refine ⟨⟨⟨v, (hg.block _ hv.lt (fun e => hne s hsB e.symm)).trans hv, ho.kept hg ?_⟩, hm.grown hg (fun k e hk => absurd e (hne k (by omega)))⟩, fun k hk => ?_⟩
  · rcases ho.2 with ⟨h1, _⟩ | ⟨g, cap, cur, hv2, _⟩
    · exact .inl (by rw [h1]; rfl)
    · refine .inr fun e => ?_
      rw [hv2] at e
      have := (hr g (by rw [← e]; rfl)).2
      refine this (.inr ⟨pre.length, cap, ?_⟩)
      rw [hv.cell 0, hv2]; rfl
  · rcases hk with h | ⟨n, cap, h⟩
    · exact .inl h
    · exact .inr ⟨n, cap, by rw [← hcell]; exact h⟩
theorem RJ.dm {w1 : World} {s B0 : Nat} (hs : w1.heap.size = B0) (hsB : s < B0) {pre : List ByteArray} {A : World} (h : RJ w1 s B0 pre A) {k : Nat} (hk : RDm s A k) :
    k < A.heap.size ∧ (k = s ∨ B0 ≤ k) ∧ (k < B0 ∨ ∃ o : Obj, A.heap[k]? = some o ∧ o.isCells = true) := by
  obtain ⟨⟨v, hv, ho⟩, hm⟩ := h
  have h1 := hv.lt
  rcases hk with rfl | ⟨n, cap, hcell⟩
  · exact ⟨by omega, .inl rfl, .inl hsB⟩
  · rw [hv.cell 0] at hcell
    cases hcell
    rcases ho.2 with ⟨h1, _⟩ | ⟨g, cap, cur, hv2, hb, hg, _⟩
    · cases h1
    · cases hv2
      exact ⟨(Array.getElem?_eq_some_iff.1 hg).1, .inr hb, .inr ⟨_, hg, rfl⟩⟩
theorem own_ints {W : World} {base n : Nat} {v : Value} {U : List Nat} (ho : W.ownsRow base 3 1 v n (U.map fun n => .int .i64 (n : Nat))) : ∃ A c, v = .slice A n c ∧ ∀ k p, U[k]? = some p → ∃ G, A = some ⟨G, 0, none⟩ ∧ W.cell? ⟨G, k, none⟩ = some (.int .i64 (p : Nat)) := by
  obtain ⟨hlen, ho⟩ := ho
  rcases ho with ⟨h1, h2⟩ | ⟨g, cap, cur, h1, h2, h3, h4⟩
  · refine ⟨none, 0, by rw [h1, h2], fun j s hj => ?_⟩
    have := (List.getElem?_eq_some_iff.1 hj).1
    simp [h2] at hlen
    rw [hlen] at this
    simp at this
  · refine ⟨_, _, h1, fun j s hj => ⟨g, rfl, ?_⟩⟩
    have := World.ownsRow.cells (w := W) (base := base) (e := 3) (size := 1) (v := v) (n := n) (xs := U.map fun n => .int .i64 (n : Nat)) ⟨hlen, .inr ⟨g, cap, cur, h1, h2, h3, h4⟩⟩ (g := g) (by rw [h1]; rfl) j (.int .i64 (s : Nat)) (by rw [List.getElem?_map, hj]; rfl)
    simpa [Addr.add_lit] using this
theorem lines_c (g : Geo) (b o N cap b2 o2 cap2 : Nat) (A : Option Addr) (n c : Nat) (w : World) :
    Calls Tryz.prog 15 #[.agg #[.int .i64 g.gr, .int .i64 g.ino, .int .i64 g.da, .slice (some ⟨b, o, none⟩) N cap], .agg #[.int .i64 g.gr, .int .i64 g.ino, .int .i64 g.da, .slice (some ⟨b2, o2, none⟩) N cap2], .slice A n c] w fun e w' =>
      e = .returned (.func (.func 37) #[] #[.pointer (some ⟨w.heap.size + 1, 0, none⟩), .pointer (some ⟨w.heap.size + 2, 0, none⟩), .pointer (some ⟨w.heap.size, 0, none⟩)]) ∧
      Blk 49 w' w.heap.size (imL g b o N cap) ∧ Blk 49 w' (w.heap.size + 1) (imL g b2 o2 N cap2) ∧ Blk 45 w' (w.heap.size + 2) [.slice A n c] ∧ Below w.heap.size w w' ∧ w'.heap.size = w.heap.size + 3 := by
  go_enter Tryz.func15, Tryz.ntmps15
  go_wp2
  go_ret
  refine ⟨rfl, ((Blk.newL (imL g b o N cap)).alloc _).alloc _, (Blk.snd _ (imL g b2 o2 N cap2)).alloc _, ?_, ((((Below.refl _ w).alloc (Nat.le_refl _) _).alloc (by simp) _).alloc (by simp; omega) _), by simp⟩
  have := Blk.newL (e := 45) (w := (w.alloc (.cells (imL g b o N cap).toArray 49)).alloc (.cells (imL g b2 o2 N cap2).toArray 49)) [.slice A n c]
  rw [World.size_alloc, World.size_alloc, Nat.add_assoc] at this
  exact this
set_option maxRecDepth 1000000 in
set_option maxHeartbeats 8000000 in
theorem rplines_c (g : Geo) (hg : g.Ok) (b o N cap : Nat) (f h : Nat → Nat) (U : List Nat) (w : World) (hI : ImgOk g b o N cap f w) (hN1 : 1024 ≤ N) (hof : ofOk f N = true) (hgf : g = supG f) (hoh : ofOk h N = true) (hgh : g = supG h) (hh : ∀ k, h k < 256) (hT : TabG w)
    (hUl : U.length ≤ 1000) (hUp : ∀ p ∈ U, 1 ≤ p ∧ p ≤ 1000000) (hs : g.dOk (inoAt g h 1 11) = false ∧ g.dOk (inoAt g h 1 12) = false) (hd : inoAt g h 1 0 = 2) (hno : ∀ x, 2 ≤ x → x ≤ g.inodes → inoAt g h x 0 ≠ 2)
    (REP : Calls Tryz.prog 13 #[.slice (some ⟨b, o, none⟩) N cap] w fun e w' => ∃ G capo v, e = .returned (.tuple #[.slice (some ⟨G, 0, none⟩) N capo, v, .bool true]) ∧
      w'.ownsRow w.heap.size 5 1 (.slice (some ⟨G, 0, none⟩) N capo) N (bytesL h N) ∧ w'.ownsRow w.heap.size 3 1 v U.length (U.map fun n => .int .i64 (n : Nat)) ∧ Below w.heap.size w w') :
    Calls Tryz.prog 7 #[.slice (some ⟨b, o, none⟩) N cap] w fun e w' => ∃ v, e = .returned v ∧ w'.ownsRow w.heap.size 9 1 v (allB (linesL g f h U)).length ((allB (linesL g f h U)).map Value.string) ∧ Below w.heap.size w w' := by
  obtain ⟨j0, hj0, hy0, hy1, hy2⟩ := info_parts infoStr
  have hn1 := hI.n; have hcb := hI.capb; have hnc := hI.nc
  have OF1 : ∀ W, Below w.heap.size w W → Calls Tryz.prog 14 #[.slice (some ⟨b, o, none⟩) N cap] W fun e w' => e = .returned (.tuple #[.agg #[.int .i64 g.gr, .int .i64 g.ino, .int .i64 g.da, .slice (some ⟨b, o, none⟩) N cap], .bool true]) ∧ Below W.heap.size W w' := fun W hb =>
    (of_c b o N cap f hI.byte W (hI.below hb hI.lt).rd hN1 hnc hcb).mono fun e w' ⟨h1, _, h3⟩ => ⟨by rw [hgf]; exact h1 hof, h3⟩
  have OF2 : ∀ W G capo, RdB W G 0 N h → N ≤ capo → capo ≤ 9223372036854775807 → Calls Tryz.prog 14 #[.slice (some ⟨G, 0, none⟩) N capo] W fun e w' => e = .returned (.tuple #[.agg #[.int .i64 g.gr, .int .i64 g.ino, .int .i64 g.da, .slice (some ⟨G, 0, none⟩) N capo], .bool true]) ∧ Below W.heap.size W w' := fun W G capo hr h1 h2 =>
    (of_c G 0 N capo h hh W hr hN1 h1 h2).mono fun e w' ⟨h1, _, h3⟩ => ⟨by rw [hgh]; exact h1 hoh, h3⟩
  refine (callsIn_wide (n := 9)).1 ?_
  refine callsIn_of_wp_marks Tryz.func7 rfl trivial ?_ rfl
  simp only [Tryz.ntmps7, List.size_toArray, List.length_cons, List.length_nil, Nat.reduceAdd, Nat.reduceSub, Array.replicate_succ, Array.replicate_zero, List.push_toArray, List.append_toArray, List.nil_append, List.cons_append]
  have HI := Lib.hid hI; have HT := Lib.hid hT; have HUP := Lib.hid hUp; have HS := Lib.hid hs; have HD := Lib.hid hd; have HNO := Lib.hid hno; have HH := Lib.hid hh; have HN1 := Lib.hid hN1
  have HGF := Lib.hid hgf; have HGH := Lib.hid hgh; have HOF1 := Lib.hid OF1; have HOF2 := Lib.hid OF2
  clear hI hgf hgh hT hUp hof hoh hn1 hs hd hno hh hN1 OF1 OF2
  gi_wp2_with (first
    | (refine ⟨trivial, ?_⟩; gi_at_call 13; refine (callsIn_wide.2 REP).mono ?_; rintro e w1 ⟨G, capo, v, rfl, hoB, hoU, hb1⟩; obtain ⟨A, c, rfl, hcU⟩ := own_ints hoU; have hol := own_len hoB; have hcm : capo ≤ 9223372036854775807 := (by have := hol.2.2.2; unfold maxLen at this; exact this); have HCU := Lib.hid hcU; have HOB := Lib.hid hoB; have HB1 := Lib.hid hb1; have HOL := Lib.hid hol; clear hcU hoU hoB hb1 hol REP)
    | (refine ⟨trivial, ?_⟩; gi_at_call 14; with_reducible refine (callsIn_wide.2 (HOF1.out _ HB1.out)).mono ?_; rintro e w2 ⟨rfl, hb2⟩; have HB2 := Lib.hid hb2; clear hb2 HOF1))
  obtain ⟨wa, hwa⟩ : ∃ W, W = w2.alloc (.cells #[.int .i64 (g.gr : Nat), .int .i64 (g.ino : Nat), .int .i64 (g.da : Nat), .slice (some ⟨b, o, none⟩) N cap] 49) := ⟨_, rfl⟩
  have hB2 : Below w.heap.size w w2 := HB1.out.trans (HB2.out.mono HB1.out.size)
  have hBa : Below w.heap.size w wa := by rw [hwa]; exact hB2.alloc hB2.size _
  have h1a : Below w1.heap.size w1 wa := by rw [hwa]; exact HB2.out.alloc HB2.out.size _
  have kA : Blk 49 wa w2.heap.size (imL g b o N cap) := by rw [hwa]; exact Blk.newL (imL g b o N cap)
  have za : wa.heap.size = w2.heap.size + 1 := by rw [hwa]; simp
  have z21 := HB2.out.size
  have hrdA : RdB wa G 0 N h := by rw [hwa]; exact ((own_rdB HOB.out).below HB2.out).below (((Below.refl _ w2).alloc (Nat.le_refl _) _))
  rw [← hwa]
  obtain ⟨s, hs⟩ : ∃ s, s = w2.heap.size := ⟨_, rfl⟩
  rw [← hs] at kA za z21
  simp only [← hs]
  clear hwa
  refine ⟨trivial, ?_⟩
  gi_at_call 14
  refine (callsIn_wide.2 (HOF2.out wa G capo hrdA HOL.out.2.2.1 hcm)).mono ?_
  rintro e w3 ⟨rfl, hb3⟩
  have k3 := kA.below hb3 kA.lt
  have z3 := hb3.size
  have c0 := k3.cell 0; have c1 := k3.cell 1; have c2 := k3.cell 2; have c3 := k3.cell 3
  unfold imL at c0 c1 c2 c3
  simp only [List.getElem?_cons_zero, List.getElem?_cons_succ] at c0 c1 c2 c3
  have l3 := k3.lt
  have HZ := Lib.hid hs; have HBA := Lib.hid hBa; have HB3 := Lib.hid hb3; have HRD := Lib.hid hrdA; have HK3 := Lib.hid k3; have H1A := Lib.hid h1a
  clear hs hBa hb3 hrdA hB2 kA HOF2 HB2 HOB k3 h1a
  gi_wp2_with (refine ⟨trivial, ?_⟩; gi_at_call 15; refine (callsIn_wide.2 (lines_c g b o N cap G 0 capo A U.length c _)).mono ?_; rintro e w5 ⟨rfl, kw, ki, ku, hb5, z5⟩)
  obtain ⟨r, hr⟩ : ∃ r, r = w3.heap.size := ⟨_, rfl⟩
  obtain ⟨w0, hw0⟩ : ∃ W, W = w3.alloc (.cells #[.int .i64 (g.gr : Nat), .int .i64 (g.ino : Nat), .int .i64 (g.da : Nat), .slice (some ⟨G, 0, none⟩) N capo] 49) := ⟨_, rfl⟩
  obtain ⟨wb, hwb⟩ : ∃ W, W = w0.alloc (.cells #[.slice none 0 0] 27) := ⟨_, rfl⟩
  rw [← hw0, ← hwb] at kw ki ku hb5 z5
  have z0 : w0.heap.size = r + 1 := by rw [hw0, hr]; simp
  have zb : wb.heap.size = r + 2 := by rw [hwb]; simp [z0]
  have kO : Blk 27 wb (r + 1) [.slice none 0 0] := by rw [hwb]; exact Blk.newAt [.slice none 0 0] z0
  have hb0b : Below w0.heap.size w0 wb := by rw [hwb]; exact (Below.refl _ w0).alloc (Nat.le_refl _) _
  have hb30 : Below w3.heap.size w3 w0 := by rw [hw0]; exact (Below.refl _ w3).alloc (Nat.le_refl _) _
  simp only [zb, Nat.add_assoc, Nat.reduceAdd] at kw ki ku hb5 z5
  simp only [← hr, Nat.add_assoc, Nat.reduceAdd]
  have hb05 : Below w0.heap.size w0 w5 := hb0b.trans (hb5.mono (by omega))
  have kO5 := kO.below hb5 (by omega)
  have hba0 : Below wa.heap.size wa w0 := HB3.out.trans (hb30.mono (by omega))
  have hI0 : ImgOk g b o N cap f w0 := HI.out.below (HBA.out.trans (hba0.mono HBA.out.size)) HI.out.lt
  have hJ0 : ImgOk g G 0 N capo h w0 := ⟨hg, HI.out.n, HOL.out.2.2.1, hcm, HRD.out.below hba0, HH.out⟩
  have hT0 : TabG w0 := HT.out.below (HBA.out.trans (hba0.mono HBA.out.size))
  have h10 : Below w1.heap.size w1 w0 := H1A.out.trans (hba0.mono H1A.out.size)
  have hU0 : ∀ k p, U[k]? = some p → ∃ G, A = some ⟨G, 0, none⟩ ∧ w0.cell? ⟨G, k, none⟩ = some (.int .i64 (p : Nat)) := fun k p hk => by
    obtain ⟨G', e, hc⟩ := HCU.out k p hk
    exact ⟨G', e, (h10.cell (p := ⟨G', k, none⟩) (lt_of_cell hc)).trans hc⟩
  have hw5 : Below w.heap.size w w5 := (HBA.out.trans (hba0.mono HBA.out.size)).trans (hb05.mono (by have := HBA.out.size; have := hba0.size; omega))
  have HW5 := Lib.hid hw5
  have hzw : w.heap.size ≤ r := by have := HBA.out.size; have := HB3.out.size; omega
  have i0 : RJ w5 (r + 1) (r + 5) [] w5 := ⟨⟨_, kO5, World.ownsRow_nil _ _ _ _⟩, Mods.refl _ _⟩
  have SEQ := lines_seq 8 (by omega) g hg b o N cap G 0 capo f h w0 w5 (r + 3) (r + 4) (r + 2) A c U hI0 hJ0 hT0 hU0 hUl HUP.out HS.out HD.out HNO.out hb05 ki ku kw
  rw [z0] at SEQ
  have HT0 := Lib.hid hT0; have HB05 := Lib.hid hb05; have HZ0 := Lib.hid z0
  clear hw5 hr hw0 hwb kw ki ku hb5 kO hb0b hb30 kO5 hba0 hI0 hJ0 hT0 h10 hU0 hb05 HI HT HUP HS HD HNO HH HGF HGH HCU HOL HBA HB3 HRD HK3 H1A HB1 HZ c0 c1 c2 c3 l3 z3 zb z0 za z21
  refine rangeFunc_dm (F := Fence.wide) rfl (by decide) (gf := 37) (lb := #[.pointer (some ⟨r + 3, 0, none⟩), .pointer (some ⟨r + 4, 0, none⟩), .pointer (some ⟨r + 2, 0, none⟩)]) rfl trivial (enters_of Tryz.func37 (by kernel_rfl) rfl)
    SEQ (Below.refl _ _) (fun _ => rfl) (RJ w5 (r + 1) (r + 5)) (RDm (r + 1)) (by rw [z5]; exact RJ.bears w5 (r + 1) (r + 5) z5 (by omega))
    (fun pre A k hA hk => by obtain ⟨d1, d2, d3⟩ := RJ.dm z5 (by omega) hA hk; exact ⟨d1, by omega, by rw [z5]; exact d3⟩) (fun _ _ _ => trivial) i0
    (fun x a' W => a' = { tmps := #[.slice (some { block := b, off := o }) N cap, undef, .slice none 0 0, .slice (some ⟨G, 0, none⟩) N capo, .slice A U.length c, .bool true, .pointer (some ⟨s, 0, none⟩), .bool true, .pointer (some ⟨r, 0, none⟩), .bool true, .pointer (some ⟨r + 1, 0, none⟩), .string x, .tuple #[.slice (some ⟨G, 0, none⟩) N capo, .slice A U.length c, .bool true], .slice (some { block := b, off := o }) N cap, .tuple #[.slice (some ⟨G, 0, none⟩) N capo, .slice A U.length c, .bool true], .slice (some ⟨G, 0, none⟩) N capo, .slice A U.length c, .bool true, .bool true, .bool false, undef, .tuple #[.agg #[.int .i64 (g.gr : Nat), .int .i64 (g.ino : Nat), .int .i64 (g.da : Nat), .slice (some { block := b, off := o }) N cap], .bool true], .slice (some { block := b, off := o }) N cap, .tuple #[.agg #[.int .i64 (g.gr : Nat), .int .i64 (g.ino : Nat), .int .i64 (g.da : Nat), .slice (some { block := b, off := o }) N cap], .bool true], .agg #[.int .i64 (g.gr : Nat), .int .i64 (g.ino : Nat), .int .i64 (g.da : Nat), .slice (some { block := b, off := o }) N cap], .bool true, .tuple #[.agg #[.int .i64 (g.gr : Nat), .int .i64 (g.ino : Nat), .int .i64 (g.da : Nat), .slice (some ⟨G, 0, none⟩) N capo], .bool true], .slice (some ⟨G, 0, none⟩) N capo, .tuple #[.agg #[.int .i64 (g.gr : Nat), .int .i64 (g.ino : Nat), .int .i64 (g.da : Nat), .slice (some ⟨G, 0, none⟩) N capo], .bool true], .agg #[.int .i64 (g.gr : Nat), .int .i64 (g.ino : Nat), .int .i64 (g.da : Nat), .slice (some ⟨G, 0, none⟩) N capo], .bool true, .agg #[.int .i64 (g.gr : Nat), .int .i64 (g.ino : Nat), .int .i64 (g.da : Nat), .slice (some { block := b, off := o }) N cap], .agg #[.int .i64 (g.gr : Nat), .int .i64 (g.ino : Nat), .int .i64 (g.da : Nat), .slice (some ⟨G, 0, none⟩) N capo], .slice A U.length c, .func (.func 37) #[] #[.pointer (some ⟨r + 3, 0, none⟩), .pointer (some ⟨r + 4, 0, none⟩), .pointer (some ⟨r + 2, 0, none⟩)], .string x, undef, undef, undef, undef, undef, undef, undef, undef, undef, undef, undef, undef, undef, undef, undef], defers := [] }) ?hAx ?assign ?body ?done
  case hAx => exact fun x a' u W W' row hh _ _ => hh
  case assign =>
    intro l pre x W K hI hK
    gi_wp2
    exact hK _ _ (grown_below (Below.refl _ W)) rfl
  case body =>
    rintro l pre x a' W hI rfl hgx hlen
    obtain ⟨⟨v, hv, ho⟩, hm⟩ := id hI
    have c0 := hv.cell 0
    simp only [List.getElem?_cons_zero] at c0
    have lv := hv.lt
    have hsz := hm.size
    have hvf := own_form2 ho
    have HO := Lib.hid ho; have HM := Lib.hid hm; have HV := Lib.hid hv
    have nO : v.ownBlock ≠ some (r + 1) := fun e => by have := (ho.lt _ e).1; omega
    have HNO := Lib.hid nO
    clear hI ho hm hv nO SEQ i0
    gi_wp2_with (
      gi_at_builtin
      refine wpListIn_append_own_at _ rfl _ _ 27 rfl (r + 5) 9 j0 (.string ⟨#[]⟩) 1 16 Tryz.underlying27 hj0 hy0 hy1 hy2 rfl (by decide) _ _ _ rfl (HO.out.alloc _) ⟨_, 0, none⟩ 1 1 [.string x] rfl rfl (cells_newL _ _ _ _ (by simp)) (by simp [Value.oneCell']) (by unfold maxLen; omega) (by omega) (by simp; omega) ?_
      intro v' w7 hown' hgrow _ hat
      obtain ⟨g', cap', rfl⟩ := ownsRow_succ hown'
      have hv7 : Blk 27 w7 (r + 1) [v] := (hgrow.block _ (by simp; omega) (fun e => HNO.out e.symm)).trans (HV.out.alloc _)
      have d0 := hv7.cell 0
      simp only [List.getElem?_cons_zero] at d0
      have f0 := hv7.frozen 0
      have l7 := hv7.lt
      have HOW := Lib.hid hown'; have HGR := Lib.hid hgrow; have HAT := Lib.hid hat; have HV7 := Lib.hid hv7
      clear hown' hgrow hat hv7)
    have hown := HOW.out; have hgrow := HGR.out; have hat := HAT.out
    obtain ⟨v', hV'⟩ : ∃ V, V = Value.slice (some ⟨g', 0, none⟩) (pre.length + 1) cap' := ⟨_, rfl⟩
    rw [← hV'] at hown hat ⊢
    obtain ⟨w8, hw8⟩ : ∃ W8, W8 = w7.setCell ⟨r + 1, 0, none⟩ v' := ⟨_, rfl⟩
    have hset : w7.grownBy w8 (some (r + 1)) := by rw [hw8]; exact grown_set w7 (r + 1) 0 v'
    have hb8 : Blk 27 w8 (r + 1) [v'] := by rw [hw8]; exact HV7.out.set 0 v'
    have kv : ∀ k, v.ownBlock = some k → RDm (r + 1) W k := fun k e => by
      rcases HO.out.2 with ⟨e1, _⟩ | ⟨g, cap, cur, hv2, _⟩
      · rw [e1] at e; cases e
      · rw [hv2] at e
        have e2 : g = k := Option.some.inj e
        exact .inr ⟨_, cap, by rw [HV.out.cell 0, hv2, e2]; rfl⟩
    have base : Mods (RDm (r + 1) W) W w8 := (((Mods.refl _ W).alloc _).grown hgrow (fun k e _ => kv k e)).grown hset (fun k e _ => by cases e; exact .inl rfl)
    have base2 : Mods (fun k => k = r + 1) w5 w8 := by
      refine ((HM.out.alloc _).grown hgrow (fun k e hk => ?_)).grown hset (fun k e _ => by cases e; rfl)
      have := (HO.out.lt k e).1
      omega
    have hoB : ∀ g, v'.ownBlock = some g → r + 5 ≤ g := fun g e => (hown.lt g e).1
    have hown8 : w8.ownsRow (r + 5) 9 1 v' (pre.length + 1) (pre.map Value.string ++ [.string x]) := own_mods hown ((Mods.refl (fun k => k = r + 1) w7).grown hset (fun k e _ => by cases e; rfl)) (fun g hg e => by have := hoB g hg; omega)
    rw [← hw8]
    refine ⟨base, fun k hk hd => ?_, ⟨⟨v', hb8, by rw [List.length_append, List.map_append]; exact hown8⟩, base2⟩⟩
    rcases hd with rfl | ⟨n, cap2, hcell⟩
    · exact .inl rfl
    · rw [hb8.cell 0] at hcell
      have e9 : v' = .slice (some ⟨k, 0, none⟩) n cap2 := Option.some.inj hcell
      rcases hat with q | q
      · have q' : v'.ownBlock = v.ownBlock := q
        exact kv k (by rw [← q', e9]; rfl)
      · rw [e9] at q
        have := Option.some.inj q
        simp at this
        omega
  case done =>
    rintro D xs W hD rfl hI hK
    obtain ⟨⟨v, hv, ho⟩, hm⟩ := id hI
    obtain ⟨A1, c1, rfl⟩ := own_form2 ho
    have c0 := hv.cell 0
    simp only [List.getElem?_cons_zero] at c0
    have lv := hv.lt
    have hsz := hm.size
    obtain ⟨L, hL⟩ : ∃ L, L = linesL g f h U := ⟨_, rfl⟩
    rw [← hL] at ho c0 hv
    have HL := Lib.hid hL
    have hLl : L.length ≤ 3000 := by
      have := lnsI_len g f h g.inodes
      have := hg.inodes_le
      rw [hL]; unfold linesL
      rw [List.length_append, List.length_map]; omega
    have HO := Lib.hid ho; have HM := Lib.hid hm; have HV := Lib.hid hv; have HK := Lib.hid hK
    clear hI ho hm hv SEQ i0 hK hL
    have hBW : Below w.heap.size w W := Below.mods HW5.out HM.out (fun i hi e => by omega) (by have := HW5.out.size; omega)
    have HBW := Lib.hid hBW
    clear hBW
    have fin : ∀ (Wf : World) (v : Value), Wf.heap[D]? = some (.deferred (some [])) → Below w.heap.size w Wf → Wf.ownsRow w.heap.size 9 1 v (allB L).length ((allB L).map Value.string) →
        (Wf.putObj D (.deferred none)).ownsRow w.heap.size 9 1 v (allB L).length ((allB L).map Value.string) ∧ Below w.heap.size w (Wf.putObj D (.deferred none)) := fun Wf v hD1 hb ho => by
      have hgp := grownBy_putObj' Wf D
      refine ⟨ownsRow_putObj ho _ hD1 rfl, ?_⟩
      exact ⟨hb.os, hb.tape, hb.output, by have h1 := (hgp (.deferred none)).size; have := hb.size; simp at h1 ⊢; omega, fun k hk => by rw [World.putObj_heap_other (by omega)]; exact hb.block k hk⟩
    have FIN := Lib.hid fin
    clear fin
    by_cases h0 : L.length = 0
    · have t0 : (((L.length : Nat) : Int) == 0) = true := by simp [h0]
      have eL : allB (linesL g f h U) = [bClean] := by rw [← HL.out]; unfold allB; rw [if_pos h0]
      have eL2 : allB L = [bClean] := by unfold allB; rw [if_pos h0]
      have HEL := Lib.hid eL
      clear eL
      gi_wp2
      rw [HEL.out]
      have q4 : (W.alloc (.cells #[.string bClean] 9)).heap[D]? = some (.deferred (some [])) := (Below.heap_alloc _ _ _ (Array.getElem?_eq_some_iff.1 HK.out).1).trans HK.out
      have hB2 : Below w.heap.size w (W.alloc (.cells #[.string bClean] 9)) := HBW.out.alloc HBW.out.size _
      have ho2 := (Blk.newL (e := 9) (w := W) [.string bClean]).own (base := w.heap.size) (by omega) rfl (by decide)
      rw [eL2] at FIN
      obtain ⟨f1, f2⟩ := FIN.out _ _ q4 hB2 ho2
      refine ⟨by simp, .inl ⟨_, _, rfl, run_takeDeferred q4, ?_⟩⟩
      exact ⟨_, results_tmp rfl _ _ _, .slice (some ⟨W.heap.size, 0, none⟩) 1 1, rfl, f1, f2⟩
    · have t0 : (((L.length : Nat) : Int) == 0) = false := by
        have : ((L.length : Nat) : Int) ≠ 0 := by omega
        simpa using this
      have eL : allB (linesL g f h U) = L ++ [toldB bDirty [L.length]] := by rw [← HL.out]; unfold allB; rw [if_neg h0]
      have eL2 : allB L = L ++ [toldB bDirty [L.length]] := by unfold allB; rw [if_neg h0]
      have HEL := Lib.hid eL
      clear eL
      rw [eL2] at FIN
      have hTW : TabG W := HT0.out.below (Below.mods HB05.out HM.out (fun i hi e => by have := HZ0.out; omega) (by have := HB05.out.size; omega))
      have OW := Lib.hid (own_mono HO.out (base' := w.heap.size) (by omega))
      have TOLD := told_new bDirty [L.length] W.drew (hTW.below ((Below.refl _ W).drew)) (by show (1 : Nat) ≤ 1000; decide) (by decide) (fun n hn => by simp at hn; omega) W.heap.size 1 rfl rfl
      obtain ⟨TB, hTB⟩ : ∃ T, T = toldB bDirty [L.length] := ⟨_, rfl⟩
      rw [← hTB] at TOLD HEL FIN
      have HTOLD := Lib.hid TOLD
      clear TOLD hTB eL2 hTW
      gi_wp2
      refine wpIn_wide.2 (wp_region_noPanic ?_)
      refine wp_region_held_drew (S := fun (w' : World) => w'.cell? ⟨r + 1, 0, none⟩ = some (.slice A1 L.length c1)) (by kernel_rfl) c0 (fun hHeld => ?_)
      refine tkA (i := 0) (oi := ⟨_, _, _, _, _, _⟩) ?_
      simp only [putA, List.set]
      refine tkA (i := 1) (oi := ⟨_, _, _, _, _, _⟩) ?_
      simp only [putA, List.set]
      refine tkA (i := 2) (oi := ⟨_, _, _, _, _, _⟩) ?_
      simp only [putA, List.set]
      refine wpAnyH_ready (rs := [3]) (by kernel_rfl) (by simp) ?_
      refine AllReadyH.cons rfl (fun K hK => ?_) AllReadyH.nil
      go_simp
      refine hK.out _ _ ((World.cell?_alloc_lt _ _ _ lv).trans c0) (fun hHeld => ?_)
      clear hK K
      refine wpAnyH_ready (rs := [4]) (by kernel_rfl) (by simp) ?_
      refine AllReadyH.cons rfl (fun K hK => ?_) AllReadyH.nil
      go_simp
      refine HTOLD.out.mono ?_
      rintro e w3 ⟨rfl, hb3⟩
      have c3 := (hb3.cell (p := ⟨r + 1, 0, none⟩) lv).trans c0
      have z3 := hb3.size
      have HB3 := Lib.hid hb3
      clear hb3
      refine hK.out _ _ c3 (fun hHeld => ?_)
      clear hK K
      refine wpAnyH_ready (rs := [5]) (by kernel_rfl) (by simp) ?_
      refine AllReadyH.cons rfl (fun K hK => ?_) AllReadyH.nil
      go_simp
      refine hK.out _ _ ((World.cell?_alloc_lt _ _ _ (show r + 1 < w3.heap.size by have : W.drew.heap.size = W.heap.size := rfl; omega)).trans c3) (fun hHeld => ?_)
      clear hK K
      have hbW : Below W.heap.size W w3 := ((Below.refl _ W).drew).trans HB3.out
      have z3' := hbW.size
      have HN := Lib.hid (cells_newL w3 w3.heap.size [.string TB] 9 rfl)
      have HO4 := Lib.hid ((own_below OW.out hbW).alloc (.cells [Value.string TB].toArray 9))
      have HBW3 := Lib.hid hbW
      clear hbW
      refine wpAnyH_ready (rs := [6]) (by kernel_rfl) (by simp) ?_
      refine AllReadyH.cons (o := ⟨_, _, _, _, _, _⟩) rfl (fun K hK => ?_) AllReadyH.nil
      refine step_append_lies _ rfl _ _ 27 rfl w.heap.size 9 j0 (.string ⟨#[]⟩) 1 16 Tryz.underlying27 hj0 hy0 hy1 hy2 rfl (by decide) _ L.length (L.map Value.string) rfl HO4.out ⟨w3.heap.size, 0, none⟩ 1 1 [.string TB] rfl rfl HN.out (by simp [Value.oneCell']) (by omega) (by unfold maxLen; omega) (by omega) (by simp; omega) _ rfl ?_
      intro G8 cap8 w8 ho8 hg8 ha8 hl8
      have nO : (Value.slice A1 L.length c1).ownBlock ≠ some (r + 1) := fun e => by have := (HO.out.lt _ e).1; omega
      have nD : (Value.slice A1 L.length c1).ownBlock ≠ some D := fun e => by
        rcases HO.out.2 with ⟨h1, _⟩ | ⟨g, cap, cur, hv2, hb, hg, _⟩
        · rw [h1] at e; cases e
        · rw [hv2] at e
          have e2 : g = D := Option.some.inj e
          have := HK.out
          rw [← e2, hg] at this
          cases this
      have lD := (Array.getElem?_eq_some_iff.1 HK.out).1
      have l3 : r + 1 < w3.heap.size := by omega
      have s8 : w8.cell? ⟨r + 1, 0, none⟩ = some (.slice A1 L.length c1) := (hg8.cell_far ⟨r + 1, 0, none⟩ (by simp; omega) (fun q => nO q.symm)).trans ((World.cell?_alloc_lt _ _ _ l3).trans c3)
      have q4 : w8.heap[D]? = some (.deferred (some [])) := (hg8.block D (by simp; omega) (fun q => nD q.symm)).trans ((Below.heap_alloc _ _ _ (show D < w3.heap.size by omega)).trans ((HBW3.out.block D lD).trans HK.out))
      have hb3a : Below w.heap.size w (w3.alloc (.cells #[.string TB] 9)) := (HBW.out.trans (HBW3.out.mono HBW.out.size)).alloc (by have := HBW.out.size; omega) _
      have hm8 : Mods (fun k => w.heap.size ≤ k) (w3.alloc (.cells #[.string TB] 9)) w8 := (Mods.refl _ _).grown hg8 (fun k e _ => own_base HO4.out k e)
      have hb8 : Below w.heap.size w w8 := Below.mods hb3a hm8 (fun i hi e => by omega) (by have := HBW.out.size; simp; omega)
      have HB8 := Lib.hid hb8; have HO8 := Lib.hid ho8; have HQ4 := Lib.hid q4
      clear nO nD q4 hb3a hm8 hb8 ho8 hg8 ha8 hl8
      refine hK.out _ _ s8 (fun hHeld => ?_)
      clear hK K
      simp only [Act.put, List.setIfInBounds_toArray, List.set_cons_zero, List.set_cons_succ]
      refine tkA (i := 7) (oi := ⟨_, _, _, _, _, _⟩) ?_
      simp only [putA, List.set]
      refine wpAnyH_done (by kernel_rfl) ?_ _
      refine NoPanic.normal ?_
      gi_wp2
      rw [HEL.out]
      have ho8 := HO8.out
      have e8 : L.map Value.string ++ [Value.string TB] = (L ++ [TB]).map Value.string := by simp
      have e9 : L.length + 1 = (L ++ [TB]).length := by simp
      obtain ⟨f1, f2⟩ := FIN.out w8 (.slice (some ⟨G8, 0, none⟩) (L.length + 1) cap8) HQ4.out HB8.out (by rw [← e8, ← e9]; exact ho8)
      refine ⟨by simp, .inl ⟨_, _, rfl, run_takeDeferred HQ4.out, ?_⟩⟩
      exact ⟨_, results_tmp rfl _ _ _, .slice (some ⟨G8, 0, none⟩) (L.length + 1) cap8, rfl, f1, f2⟩
end Go.Proofs.YtbeabehebenocaaGreatDoor
end

section
/- What Repair makes of an image of a root and files whose inodes are any. -/
namespace Go.Proofs.YtbeabehebenocaaGreatDoor
open Go.RowKit

/-- the claims ahead of file k, and the pointers that it keeps -/
def cG (g : Geo) (h : Nat → Nat) : Nat → (Nat → Bool)
  | 0 => cN 0
  | k + 1 => (keepR g (countN (capI (inoAt g h (k + 2)) 2)) (cG g h k) (ptrsI (capI (inoAt g h (k + 2))))).2
def pG (g : Geo) (h : Nat → Nat) (k : Nat) : List Ptr := (keepR g (countN (capI (inoAt g h (k + 2)) 2)) (cG g h k) (ptrsI (capI (inoAt g h (k + 2))))).1
def fileTG (g : Geo) (h : Nat → Nat) (x : Nat) : Tk := ⟨x, capI (inoAt g h x), pG g h (x - 2), 1, false, 1⟩
def insG (g : Geo) (h : Nat → Nat) (n x : Nat) : Option Tk := if x = 1 then some (rootT2 g h) else if 2 ≤ x ∧ x < n + 2 then some (fileTG g h x) else none
theorem insG_succ (g : Geo) (h : Nat → Nat) (k : Nat) : insG g h (k + 1) = updT (insG g h k) (k + 2) (fileTG g h (k + 2)) := by
  funext x
  unfold insG updT
  dsimp only
  by_cases h1 : x = 1
  · rw [if_pos h1, if_neg (by omega), if_pos h1]
  · rw [if_neg h1, if_neg h1]
    by_cases h2 : x = k + 2
    · rw [if_pos (by omega), if_pos h2, h2]
    · rw [if_neg h2]
      by_cases h3 : 2 ≤ x ∧ x < k + 2
      · rw [if_pos (by omega), if_pos h3]
      · rw [if_neg (by omega), if_neg h3]
structure LikeG (m n : Nat) (h : Nat → Nat) : Prop where
  byte : ∀ k, h k < 256
  sup : ∀ k, k < 1024 → h k = superF (geo1 m) k
  r0 : inoAt (geo1 m) h 1 0 = 2
  r2 : inoAt (geo1 m) h 1 2 = 1024
  r3 : inoAt (geo1 m) h 1 3 = 3
  r4 : ∀ j, 4 ≤ j → j < 13 → inoAt (geo1 m) h 1 j = 0
  f0 : ∀ k, k < n → inoAt (geo1 m) h (k + 2) 0 = 1
  f11 : ∀ k, k < n → (geo1 m).dOk (inoAt (geo1 m) h (k + 2) 11) = false
  f12 : ∀ k, k < n → (geo1 m).dOk (inoAt (geo1 m) h (k + 2) 12) = false
  ent : ∀ k, k < n → rootE h 3 (k + 2) = (k + 2, nameN k)
  rest : ∀ j, n + 2 ≤ j → j < 32 → rootE h 3 j = (0, ⟨#[]⟩)
section
variable {m n : Nat} {h : Nat → Nat}
theorem LikeG.step (L : LikeG m n h) (hn : n ≤ 9) (E : Nat → Nat × ByteArray) (k : Nat) (hk : k < n) :
    dirS (geo1 m) h 1 1 (rootE h 3) (k + 2) ⟨cG (geo1 m) h k, insG (geo1 m) h k, nmN k, E⟩ = ⟨cG (geo1 m) h (k + 1), insG (geo1 m) h (k + 1), nmN (k + 1), E⟩ := by
  have hb : badN (nmN k) (k + 2) (nameN k) = false := by
    unfold badN
    rw [nmN_new (by omega), decide_eq_false (by omega), decide_eq_false (nameN_ne k).1, decide_eq_false (nameN_ne k).2]; rfl
  have hi : insG (geo1 m) h k (k + 2) = none := by unfold insG; rw [if_neg (by omega), if_neg (by omega)]
  have hs : stayF (geo1 m) h 1 (cG (geo1 m) h k) (insG (geo1 m) h k) (nmN k) (k + 2) (nameN k) = some (cG (geo1 m) h (k + 1), insG (geo1 m) h (k + 1)) := by
    unfold stayF
    rw [hb, if_neg (by decide), hi]
    simp only
    rw [if_neg (by rw [L.f0 k hk]; decide), insG_succ]
    rfl
  unfold dirS
  rw [if_neg (by omega), L.ent k hk]
  simp only [hs, nmN_succ]
theorem LikeG.start (L : LikeG m n h) (hm0 : 0 < m) : dirF (geo1 m) h 1 1 (rootE h 3) (repD0 (geo1 m) h 3) 2 = ⟨cG (geo1 m) h 0, insG (geo1 m) h 0, nmN 0, setE (setE (rootE h 3) 0 (1, ⟨#[46]⟩)) 1 (1, ⟨#[46, 46]⟩)⟩ := by
  have hk := keep_first (g := geo1 m) (c := fun _ => false) (I := inoAt (geo1 m) h 1) (by rw [L.r3]; exact dOk_one (by omega) (by omega)) rfl
  rw [L.r3] at hk
  have e1 : repC (geo1 m) h = cG (geo1 m) h 0 := by
    unfold repC; rw [hk]
    funext x
    show _ = cN 0 x
    unfold cN
    dsimp only
    rw [Bool.false_or, decide_eq_false (p := 4 ≤ x ∧ x < 4 + 0) (by omega), Bool.or_false]
  have e2 : updT (fun x => if x = 1 then some (rootT (geo1 m) h 3) else none) 1 { rootT (geo1 m) h 3 with links := 2 } = insG (geo1 m) h 0 := by
    funext x
    unfold updT insG
    by_cases hx : x = 1
    · rw [if_pos hx, if_pos hx]; rfl
    · rw [if_neg hx]; dsimp only; rw [if_neg hx, if_neg hx, if_neg (by omega)]
  show dirS (geo1 m) h 1 1 (rootE h 3) 1 (dirS (geo1 m) h 1 1 (rootE h 3) 0 (repD0 (geo1 m) h 3)) = _
  unfold repD0
  rw [e1, e2]
  rfl
theorem LikeG.files (L : LikeG m n h) (hn : n ≤ 9) (hm0 : 0 < m) : ∀ k, k ≤ n → dirF (geo1 m) h 1 1 (rootE h 3) (repD0 (geo1 m) h 3) (k + 2) = ⟨cG (geo1 m) h k, insG (geo1 m) h k, nmN k, setE (setE (rootE h 3) 0 (1, ⟨#[46]⟩)) 1 (1, ⟨#[46, 46]⟩)⟩
  | 0, _ => L.start hm0
  | k + 1, hk => by
    show dirS (geo1 m) h 1 1 (rootE h 3) (k + 2) (dirF (geo1 m) h 1 1 (rootE h 3) (repD0 (geo1 m) h 3) (k + 2)) = _
    rw [L.files hn hm0 k (by omega)]
    exact L.step hn _ k (by omega)
theorem LikeG.gone (L : LikeG m n h) (hn : n ≤ 9) (hm0 : 0 < m) : ∀ q, n + 2 + q ≤ 32 → ∃ E, dirF (geo1 m) h 1 1 (rootE h 3) (repD0 (geo1 m) h 3) (n + 2 + q) = ⟨cG (geo1 m) h n, insG (geo1 m) h n, nmN n, E⟩ ∧ ∀ j, j < n + 2 + q → E j = entN n j
  | 0, _ => ⟨_, L.files hn hm0 n (Nat.le_refl _), fun j hj => by
    unfold entN setE
    by_cases h0 : j = 0
    · rw [if_neg (by omega), if_pos h0, if_pos h0]
    · by_cases h1 : j = 1
      · rw [if_pos h1, if_neg h0, if_pos h1]
      · rw [if_neg h1, if_neg h0, if_neg h0, if_neg h1, if_pos (by omega)]
        have := L.ent (j - 2) (by omega)
        rw [show j - 2 + 2 = j by omega] at this
        exact this⟩
  | q + 1, hq => by
    obtain ⟨E, hE, hj⟩ := L.gone hn hm0 q (by omega)
    refine ⟨setE E (n + 2 + q) (0, ⟨#[]⟩), ?_, fun j hjq => ?_⟩
    · show dirS (geo1 m) h 1 1 (rootE h 3) (n + 2 + q) (dirF (geo1 m) h 1 1 (rootE h 3) (repD0 (geo1 m) h 3) (n + 2 + q)) = _
      rw [hE]
      unfold dirS
      rw [if_neg (by omega), L.rest (n + 2 + q) (by omega) (by omega)]
      have e : stayF (geo1 m) h 1 (cG (geo1 m) h n) (insG (geo1 m) h n) (nmN n) 0 ⟨#[]⟩ = none := rfl
      simp only [e]
    · by_cases e : j = n + 2 + q
      · unfold setE; rw [if_pos e]
        unfold entN; rw [if_neg (by omega), if_neg (by omega), if_neg (by omega)]
      · unfold setE; rw [if_neg e]; exact hj j (by omega)
theorem LikeG.repD (L : LikeG m n h) (hn : n ≤ 9) (hm0 : 0 < m) : ∃ E, repD (geo1 m) h 3 = ⟨cG (geo1 m) h n, insG (geo1 m) h n, nmN n, E⟩ ∧ ∀ j, j < 32 → E j = entN n j := by
  obtain ⟨E, hE, hj⟩ := L.gone hn hm0 (30 - n) (by omega)
  rw [show n + 2 + (30 - n) = 32 by omega] at hE hj
  exact ⟨E, hE, hj⟩
theorem LikeG.ok (L : LikeG m n h) (hn : n ≤ 9) (h8 : 8 ≤ m) (h1000 : m ≤ 1000) : RepOk (geo1 m) h 3 := by
  have hk := keep_first (g := geo1 m) (c := fun _ => false) (I := inoAt (geo1 m) h 1) (by rw [L.r3]; exact dOk_one (by omega) (by omega)) rfl
  rw [L.r3] at hk
  refine ⟨geo1_ok h8 h1000, rfl, L.r0, L.r2, by rw [L.r3]; exact dOk_one (by omega) (by omega), by rw [L.r4 11 (by omega) (by omega)]; rfl, by rw [L.r4 12 (by omega) (by omega)]; rfl, by rw [hk], fun j h2 h3 => ?_⟩
  by_cases hj : j < n + 2
  · have := L.ent (j - 2) (by omega)
    rw [show j - 2 + 2 = j by omega] at this
    rw [this]
    have f0 := L.f0 (j - 2) (by omega)
    have f11 := L.f11 (j - 2) (by omega)
    have f12 := L.f12 (j - 2) (by omega)
    rw [show j - 2 + 2 = j by omega] at f0 f11 f12
    exact .inr ⟨by rw [f0]; decide, f11, f12⟩
  · rw [L.rest j (by omega) h3]
    exact .inr (plain_noIno (noIno_at rfl) rfl)
/-- what is read of the image in its first four blocks: as of the image that is made -/
theorem LikeG.hi (q : Nat) (hq : 4096 ≤ q) : repO (geo1 m) h 3 q = h q := by
  unfold repO putF
  rw [if_neg (by omega)]
  rw [show (geo1 m).inodes = 16 from rfl, inosF_at m _ _ 16 (by omega) q, if_neg (by omega)]
  rw [if_neg (by omega)]
theorem LikeG.outSup (L : LikeG m n h) (q : Nat) (hq : q < 1024) : repO (geo1 m) h 3 q = superF (geo1 m) q := by
  unfold repO putF
  rw [if_neg (by omega), show (geo1 m).inodes = 16 from rfl, inosF_at m _ _ 16 (by omega) q, if_neg (by omega), if_neg (by omega)]
  exact L.sup q hq
theorem LikeG.outHead (L : LikeG m n h) (hn : n ≤ 9) (hm0 : 0 < m) (q : Nat) (hq : q < 1024) : repO (geo1 m) h 3 (1024 + q) = headP (geo1 m) (fun i => decide (i < n + 1)) (fun i => cG (geo1 m) h n ((geo1 m).data i)) q := by
  obtain ⟨E, hE, hj⟩ := L.repD hn hm0
  unfold repO
  rw [hE]
  dsimp only
  unfold putF
  rw [if_pos (by omega), show 1024 + q - 1024 = q by omega]
  have e1 : (fun i => (insG (geo1 m) h n (i + 1)).isSome) = fun i => decide (i < n + 1) := by
    funext i
    unfold insG
    by_cases h0 : i + 1 = 1
    · rw [if_pos h0]; simp; omega
    · rw [if_neg h0]
      by_cases h2 : 2 ≤ i + 1 ∧ i + 1 < n + 2
      · rw [if_pos h2]; simp; omega
      · rw [if_neg h2]; simp; omega
  rw [e1]
theorem LikeG.outRow (L : LikeG m n h) (hn : n ≤ 9) (hm0 : 0 < m) (x : Nat) (hx : x < 16) (k : Nat) (hk : k < 64) : repO (geo1 m) h 3 (2048 + 64 * x + k) = inoRow (insG (geo1 m) h n) (x + 1) k := by
  obtain ⟨E, hE, hj⟩ := L.repD hn hm0
  unfold repO
  rw [hE]
  dsimp only
  unfold putF
  rw [if_neg (by omega), show (geo1 m).inodes = 16 from rfl, inosF_at m _ _ 16 (by omega), if_pos (by omega), show (2048 + 64 * x + k - 2048) / 64 + 1 = x + 1 by omega, show (2048 + 64 * x + k - 2048) % 64 = k by omega]
theorem LikeG.outEnt (L : LikeG m n h) (hn : n ≤ 9) (hm0 : 0 < m) (j : Nat) (hj : j < 32) (k : Nat) (hk : k < 32) : repO (geo1 m) h 3 (3072 + 32 * j + k) = entF (entN n j).1 (entN n j).2 k := by
  obtain ⟨E, hE, hE2⟩ := L.repD hn hm0
  unfold repO
  rw [hE]
  dsimp only
  unfold putF
  rw [if_neg (by omega), show (geo1 m).inodes = 16 from rfl, inosF_at m _ _ 16 (by omega), if_neg (by omega), if_pos (by omega)]
  have := pb_entN n (3072 + 32 * j + k) (by omega) (by omega) E hE2
  rw [show (3072 + 32 * j + k - 3072) / 32 = j by omega, show (3072 + 32 * j + k - 3072) % 32 = k by omega] at this
  rw [show 3 * 1024 = 3072 from rfl]
  exact this
theorem LikeG.supOk (L : LikeG m n h) (h8 : 8 ≤ m) (h1000 : m ≤ 1000) : supG h = geo1 m ∧ supOk h = true := by
  have h0 : ∀ k, k < 20 → superF (geo1 m) k = superK (geo1 m) 3 k := fun k hk => by
    unfold superF putF catF; rw [if_pos (by omega), Nat.sub_zero, if_pos hk]
  have h1 : ∀ a j, a < 3 → j < 4 → superK (geo1 m) 3 (8 + 4 * a + j) = byteN ((geo1 m).fld a) j := fun a j ha hj => by
    show catF (8 + 4 * 2) (catF (8 + 4 * 1) (catF (8 + 4 * 0) markF _) _) _ (8 + 4 * a + j) = _
    unfold catF
    match a, ha with
    | 0, _ => rw [if_pos (by omega), if_pos (by omega), if_neg (by omega), show 8 + 4 * 0 + j - (8 + 4 * 0) = j by omega]
    | 1, _ => rw [if_pos (by omega), if_neg (by omega), show 8 + 4 * 1 + j - (8 + 4 * 1) = j by omega]
    | 2, _ => rw [if_neg (by omega), show 8 + 4 * 2 + j - (8 + 4 * 2) = j by omega]
  have hG : supG h = geo1 m := by
    unfold supG
    rw [leN_congr 4 (g := byteN 1) (fun k hk => by rw [L.sup _ (by omega), h0 _ (by omega)]; exact h1 0 k (by omega) hk),
      leN_congr (f := fun k => h (12 + k)) 4 (g := byteN 1) (fun k hk => by rw [L.sup _ (by omega), h0 _ (by omega)]; exact h1 1 k (by omega) hk),
      leN_congr (f := fun k => h (16 + k)) 4 (g := byteN m) (fun k hk => by rw [L.sup _ (by omega), h0 _ (by omega)]; exact h1 2 k (by omega) hk),
      leN_byte _ _ (by decide), leN_byte _ _ (by omega)]
    rfl
  refine ⟨hG, ?_⟩
  unfold Go.Proofs.YtbeabehebenocaaGreatDoor.supOk
  rw [hG, Geo.okB_iff.2 (geo1_ok h8 h1000), Bool.true_and]
  unfold eqB
  rw [decide_eq_true_iff]
  intro k hk
  rw [L.sup k hk]
theorem LikeG.ofOk (L : LikeG m n h) (h8 : 8 ≤ m) (h1000 : m ≤ 1000) : ofOk h ((3 + m) * 1024) = true := by
  obtain ⟨h1, h2⟩ := L.supOk h8 h1000
  unfold Go.Proofs.YtbeabehebenocaaGreatDoor.ofOk
  rw [h1, h2, decide_eq_true (by omega), decide_eq_true (by show (3 + m) * 1024 = (1 + 1 * (1 + 1 + m)) * 1024; omega)]
  rfl
end
end Go.Proofs.YtbeabehebenocaaGreatDoor
end

section
/- ReportOne: the pure side. What is told of images that are a Tree but for one thing. -/
namespace Go.Proofs.YtbeabehebenocaaGreatDoor
open Go.RowKit

theorem inoGood_of {g : Geo} {f : Nat → Nat} {x : Nat} {J : InoN} (hx : g.iOk x = true) (hr : InoR J) (ho : inoOk J = true) (h : ∀ k, k < 64 → rawF g f x k = inoF J k) : inoGood g f x = true := by
  have h1 := inoRd_of hr h
  unfold inoGood iOk
  rw [hx, Bool.true_and, Bool.and_eq_true]
  refine ⟨?_, ?_⟩
  · unfold inoOk allZ at ho ⊢
    rw [h1 0 (by omega)]
    have e : ((List.range 13).all fun k => decide (inoRd (rawF g f x) k = 0)) = (List.range 13).all fun k => decide (J k = 0) := by
      rw [Bool.eq_iff_iff, List.all_eq_true, List.all_eq_true]
      constructor
      · intro q k hk; have := q k hk; rwa [h1 k (by simpa using hk)] at this
      · intro q k hk; have := q k hk; rwa [h1 k (by simpa using hk)]
    rw [e]; exact ho
  · unfold eqB
    rw [decide_eq_true_iff]
    intro k hk
    rw [inoF_congr h1 k, h k hk]
/-- a row of inodes that can be -/
theorem row_good {m x : Nat} {f : Nat → Nat} {J : InoN} (hx : x < 16) (hr : InoR J) (ho : inoOk J = true) (h : ∀ k, k < 64 → f (2048 + 64 * x + k) = inoF J k) : inoGood (geo1 m) f (x + 1) = true ∧ ∀ j, j < 13 → inoAt (geo1 m) f (x + 1) j = J j :=
  ⟨inoGood_of (geo1_ino m x hx) hr ho (fun k hk => by rw [rawF_at m x hx]; exact h k hk), inoAt_of (geo1_ino m x hx) hr ho (fun k hk => by rw [rawF_at m x hx]; exact h k hk)⟩
theorem noIno_r : InoR noIno := ⟨by show (0 : Nat) < 65536; decide, by show (0 : Nat) < 65536; decide, by show (0 : Nat) < 4294967296; decide, fun j _ _ => by show (0 : Nat) < 4294967296; decide⟩
theorem noIno_f : ∀ k : Fin 64, inoF noIno k.val = 0 := by decide +kernel
theorem inoLs_same {I J : InoN} (x : Nat) (e : ∀ j, j < 13 → I j = J j) : inoLs true I J x = [] := by
  unfold inoLs
  rw [if_neg (by decide)]
  by_cases h0 : I 0 = 0
  · rw [if_pos h0]
  · rw [if_neg h0, if_neg (by rw [← e 0 (by omega)]; exact h0), if_neg (by rw [e 1 (by omega)]; simp), if_neg (by rw [e 2 (by omega)]; simp)]; rfl
theorem flat_none {α : Type} (F : Nat → List α) : ∀ k, (∀ x, x < k → F x = []) → (List.range k).flatMap F = []
  | 0, _ => rfl
  | k + 1, h => by rw [List.range_succ, List.flatMap_append, flat_none F k (fun x hx => h x (by omega))]; simp [h k (by omega)]
theorem flat_one {α : Type} (F : Nat → List α) (y : Nat) : ∀ k, y < k → (∀ x, x < k → x ≠ y → F x = []) → (List.range k).flatMap F = F y
  | 0, h, _ => absurd h (by omega)
  | k + 1, h, e => by
    rw [List.range_succ, List.flatMap_append]
    by_cases hy : y = k
    · subst hy
      rw [flat_none F y (fun x hx => e x (by omega) (by omega))]; simp
    · rw [flat_one F y k (by omega) (fun x hx hn => e x (by omega) hn)]
      simp [e k (by omega) (Ne.symm hy)]
/-- the inodes of an image that is right -/
structure InoRows (m : Nat) (h : Nat → Nat) (J : Nat → InoN) : Prop where
  r : ∀ x, x < 16 → InoR (J x)
  o : ∀ x, x < 16 → inoOk (J x) = true
  row : ∀ x, x < 16 → ∀ k, k < 64 → h (2048 + 64 * x + k) = inoF (J x) k
theorem InoRows.good {m : Nat} {h : Nat → Nat} {J : Nat → InoN} (R : InoRows m h J) {x : Nat} (hx : x < 16) : inoGood (geo1 m) h (x + 1) = true ∧ ∀ j, j < 13 → inoAt (geo1 m) h (x + 1) j = J x j := row_good hx (R.r x hx) (R.o x hx) (R.row x hx)
theorem InoRows.same {m : Nat} {f h : Nat → Nat} {J : Nat → InoN} (R : InoRows m h J) {x : Nat} (hx : x < 16) (e : ∀ k, k < 64 → f (2048 + 64 * x + k) = h (2048 + 64 * x + k)) : inoLs' (geo1 m) f h x = [] := by
  obtain ⟨a1, a2⟩ := R.good hx
  obtain ⟨b1, b2⟩ := row_good (m := m) (f := f) hx (R.r x hx) (R.o x hx) (fun k hk => by rw [e k hk]; exact R.row x hx k hk)
  unfold inoLs'
  rw [b1]
  exact inoLs_same _ (fun j hj => by rw [a2 j hj, b2 j hj])
theorem InoRows.none {m : Nat} {f h : Nat → Nat} {J : Nat → InoN} (R : InoRows m h J) (e : ∀ q, 2048 ≤ q → q < 3072 → f q = h q) : lnsI (geo1 m) f h 16 = [] :=
  flat_none _ 16 fun x hx => R.same hx fun k hk => e _ (by omega) (by omega)
theorem InoRows.one {m : Nat} {f h : Nat → Nat} {J : Nat → InoN} (R : InoRows m h J) (y : Nat) (hy : y < 16) (e : ∀ q, 2048 ≤ q → q < 3072 → (q < 2048 + 64 * y ∨ 2048 + 64 * y + 64 ≤ q) → f q = h q) : lnsI (geo1 m) f h 16 = inoLs' (geo1 m) f h y :=
  flat_one _ y 16 hy fun x hx hn => R.same hx fun k hk => e _ (by omega) (by omega) (by omega)

/-! ### the directories -/
theorem dirsC_root {m : Nat} {h : Nat → Nat} {J : Nat → InoN} (R : InoRows m h J) (h0 : ∀ j, j < 13 → J 0 j = rootI j) (hn : ∀ x, 1 ≤ x → x < 16 → J x 0 ≠ 2) : dirsC (geo1 m) h 16 3 = true := by
  have I0 : ∀ j, j < 13 → inoAt (geo1 m) h 1 j = rootI j := fun j hj => ((R.good (x := 0) (by omega)).2 j hj).trans (h0 j hj)
  have e1 : dirsC (geo1 m) h 1 3 = true := by
    show (if inoAt (geo1 m) h (0 + 1) 0 = 2 then dirPs (countN (inoAt (geo1 m) h (0 + 1) 2)) (fun _ => false) (ptrsI (inoAt (geo1 m) h (0 + 1))) else _) 3 = true
    rw [if_pos (by rw [I0 0 (by omega)]; rfl), I0 2 (by omega)]
    have e : ptrsI (inoAt (geo1 m) h (0 + 1)) = (⟨0, 0, 0, 3⟩ : Ptr) :: (ptrsI (inoAt (geo1 m) h (0 + 1))).tail := by
      show (⟨0, 0, 0, inoAt (geo1 m) h (0 + 1) 3⟩ : Ptr) :: _ = _
      rw [I0 3 (by omega)]; rfl
    rw [e]
    have mono : ∀ (L : List Ptr) (c : Nat → Bool), c 3 = true → dirPs (countN (rootI 2)) c L 3 = true := by
      intro L
      induction L with
      | nil => exact fun c hc => hc
      | cons x L ih =>
        intro c hc
        show dirPs (countN (rootI 2)) (dirP (countN (rootI 2)) c x) L 3 = true
        refine ih _ ?_
        unfold dirP
        split
        · simp [hc]
        · exact hc
    show dirPs (countN (rootI 2)) (dirP (countN (rootI 2)) (fun _ => false) ⟨0, 0, 0, 3⟩) _ 3 = true
    refine mono _ _ ?_
    unfold dirP
    rw [if_pos ⟨rfl, by show 0 < countN 1024; decide⟩]
    simp
  have step : ∀ k, 1 ≤ k → k ≤ 16 → dirsC (geo1 m) h k = dirsC (geo1 m) h 1 := by
    intro k
    induction k with
    | zero => intro h1; omega
    | succ k ih =>
      intro h1 h2
      by_cases hk : k = 0
      · subst hk; rfl
      · rw [← ih (by omega) (by omega)]
        show (if inoAt (geo1 m) h (k + 1) 0 = 2 then _ else _) = _
        rw [if_neg]
        rw [(R.good (x := k) (by omega)).2 0 (by omega)]
        exact hn k (by omega) (by omega)
  rw [step 16 (by omega) (by omega)]; exact e1
/-! ### the lines of blocks -/
theorem line1 {m : Nat} {h : Nat → Nat} : lineB (geo1 m) h 1 = ⟨#[98, 108, 111, 99, 107, 32, 49, 32, 104, 101, 97, 100]⟩ := by
  have e : ∀ dc, wordB (geo1 m) dc 1 = bHead := fun dc => by
    have : (geo1 m).dOk 1 = false := by
      cases hd : (geo1 m).dOk 1 with
      | false => rfl
      | true =>
        rw [Geo.dOk_iff] at hd
        have e2 : (geo1 m).span = 1 + 1 + m := rfl
        have e3 : (geo1 m).ino = 1 := rfl
        rw [e2, e3] at hd
        simp at hd
    unfold wordB
    rw [this, if_neg (by decide), if_neg (by simp)]
  unfold lineB
  rw [e]
  decide +kernel
theorem line2 {m : Nat} {h : Nat → Nat} : lineB (geo1 m) h 2 = ⟨#[98, 108, 111, 99, 107, 32, 50, 32, 105, 110, 111, 100, 101, 115]⟩ := by
  have e : ∀ dc, wordB (geo1 m) dc 2 = bInos := fun dc => by
    have : (geo1 m).dOk 2 = false := by
      cases hd : (geo1 m).dOk 2 with
      | false => rfl
      | true =>
        rw [Geo.dOk_iff] at hd
        have e2 : (geo1 m).span = 1 + 1 + m := rfl
        have e3 : (geo1 m).ino = 1 := rfl
        rw [e2, e3] at hd
        rw [Nat.mod_eq_of_lt (by omega)] at hd
        omega
    unfold wordB
    rw [this, if_neg (by decide), if_pos]
    show 0 < 1 % (1 + 1 + m)
    rw [Nat.mod_eq_of_lt (by omega)]; decide
  unfold lineB
  rw [e]
  decide +kernel
theorem line3 {m : Nat} {h : Nat → Nat} (hm : 0 < m) (hd : dirsC (geo1 m) h 16 3 = true) : lineB (geo1 m) h 3 = ⟨#[98, 108, 111, 99, 107, 32, 51, 32, 100, 105, 114, 101, 99, 116, 111, 114, 121]⟩ := by
  have e : wordB (geo1 m) (dirsC (geo1 m) h (geo1 m).inodes) 3 = bDir := by
    unfold wordB
    rw [dOk_one (by omega) (by omega), if_pos rfl, if_pos (show dirsC (geo1 m) h (geo1 m).inodes 3 = true from hd)]
  unfold lineB
  rw [e]
  decide +kernel
end Go.Proofs.YtbeabehebenocaaGreatDoor
end

section
/- ReportOne: the images, and what is told of each: all but the size. -/
namespace Go.Proofs.YtbeabehebenocaaGreatDoor
open Go.RowKit

/-- what the walk asks of an image f and of what Repair makes of it -/
structure Case (m : Nat) (f h : Nat → Nat) (U : List Nat) (want : List ByteArray) : Prop where
  fb : ∀ k, f k < 256
  hb : ∀ k, h k < 256
  fs : supG f = geo1 m
  fo : ofOk f ((3 + m) * 1024) = true
  hs : supG h = geo1 m
  ho : ofOk h ((3 + m) * 1024) = true
  rep : RepOk (geo1 m) f 3
  out : ∀ q, q < (3 + m) * 1024 → repO (geo1 m) f 3 q = h q
  i1 : (geo1 m).dOk (inoAt (geo1 m) h 1 11) = false ∧ (geo1 m).dOk (inoAt (geo1 m) h 1 12) = false
  d : inoAt (geo1 m) h 1 0 = 2
  no : ∀ x, 2 ≤ x → x ≤ (geo1 m).inodes → inoAt (geo1 m) h x 0 ≠ 2
  u : unlike f h (3 + m) = U
  w : allB (linesL (geo1 m) f h U) = want

theorem like_same {m n : Nat} {h : Nat → Nat} (hn : n ≤ 9) (hb : ∀ k, h k < 256) (e : ∀ q, q < 1024 ∨ 2048 ≤ q → h q = trF m n q) : Like m n h := by
  refine like_of (m := m) hn hb (fun k hk => ?_) (fun x => treeI x 1) (fun x => ?_) (fun x hx k hk => ?_) (fun j h1 h2 k hk => ?_) (fun j h1 h2 => ?_)
  · rw [e k (.inl hk)]; exact trF_sup m n (by omega) k hk
  · unfold treeI
    split
    · show (2 : Nat) < 65536; decide
    · show (1 : Nat) < 65536; decide
  · rw [e _ (.inr (by omega)), trF_row m n hn x (by omega) k hk, if_pos hx]
    exact (withL_same (treeI x) k).symm
  · rw [e _ (.inr (by omega)), trF_erow m n hn j (by omega) k hk, entN_file n j h1 h2]
  · rw [rootE_no (m := m) hn h1 h2 (fun k hk => e _ (.inr (by omega)))]
    exact gone_zero m n _
def JT (n x : Nat) : InoN := if x ≤ n then treeI x else noIno
theorem treeI_r0 {x : Nat} (h : x ≤ 10) : InoR (treeI x) := by
  unfold treeI
  split
  · exact rootI_r
  · exact fileI_r (by omega)
theorem treeI_ok0 (x : Nat) : inoOk (treeI x) = true := by
  unfold inoOk treeI
  by_cases h : x = 0
  · rw [if_pos h]; rfl
  · rw [if_neg h]; rfl
theorem rows_tree (m n : Nat) (hn : n ≤ 9) : InoRows m (trF m n) (JT n) where
  r := fun x hx => by
    unfold JT
    split
    · exact treeI_r0 (by omega)
    · exact noIno_r
  o := fun x hx => by
    unfold JT
    split
    · exact treeI_ok0 x
    · rfl
  row := fun x hx k hk => by
    rw [trF_row m n hn x hx k hk]
    unfold JT
    split
    · rfl
    · exact (noIno_f ⟨k, hk⟩).symm
theorem JT_no (n x : Nat) (h1 : 1 ≤ x) : JT n x 0 ≠ 2 := by
  unfold JT
  split
  · unfold treeI; rw [if_neg (by omega)]; show (1 : Nat) ≠ 2; decide
  · show (0 : Nat) ≠ 2; decide
theorem case_like {m n : Nat} {f : Nat → Nat} {U : List Nat} {want : List ByteArray} (hn : n ≤ 9) (hm : n < m) (h8 : 8 ≤ m) (h1000 : m ≤ 1000) (hhd : ∀ k, k < 1024 → headP (geo1 m) (fun i => decide (i < n + 1)) (fun i => decide (i < n + 1)) k = trF m n (1024 + k))
    (L : Like m n f) (hi : ∀ q, 4096 ≤ q → q < (3 + m) * 1024 → f q = trF m n q) (u : unlike f (trF m n) (3 + m) = U) (w : allB (linesL (geo1 m) f (trF m n) U) = want) : Case m f (trF m n) U want := by
  have LT : Like m n (trF m n) := like_same hn (trF_lt m n (by omega)) (fun _ _ => rfl)
  have R := rows_tree m n hn
  have I0 : ∀ j, j < 13 → inoAt (geo1 m) (trF m n) 1 j = rootI j := fun j hj => ((R.good (x := 0) (by omega)).2 j hj)
  refine ⟨L.byte, LT.byte, (L.supOk h8 h1000).1, L.ofOk h8 h1000, (LT.supOk h8 h1000).1, LT.ofOk h8 h1000, L.ok hn hm h8 h1000, fun q hq => ?_, ⟨by rw [I0 11 (by omega)]; rfl, by rw [I0 12 (by omega)]; rfl⟩, I0 0 (by omega), fun x h1 h2 => ?_, u, w⟩
  · by_cases h4 : q < 4096
    · exact L.lo hn hm hhd q h4
    · rw [L.hi q (by omega)]; exact hi q (by omega) hq
  · have h2 : x ≤ 16 := h2
    obtain ⟨y, rfl⟩ : ∃ y, x = y + 1 := ⟨x - 1, by omega⟩
    rw [(R.good (x := y) (by omega)).2 0 (by omega)]
    exact JT_no n y (by omega)
theorem dirs_tree (m n : Nat) (hn : n ≤ 9) : dirsC (geo1 m) (trF m n) 16 3 = true :=
  dirsC_root (rows_tree m n hn) (fun j _ => by unfold JT; rw [if_pos (by omega)]; rfl) (fun x h1 _ => JT_no n x h1)
theorem stB_far {f : Nat → Nat} {p v q : Nat} (h : q ≠ p) : stB f p v q = f q := if_neg h
theorem stB_at (f : Nat → Nat) (p v : Nat) : stB f p v p = v := if_pos rfl
theorem stB_lt2 {f : Nat → Nat} {p v : Nat} (hf : ∀ k, f k < 256) (hv : v < 256) : ∀ k, stB f p v k < 256 := fun k => by unfold stB; split <;> simp [hf, hv]
/-- one byte that is not as it must be: one block that is unlike -/
theorem unlike_stB {m n p v b j : Nat} (hp : p = b * 1024 + j) (hj : j < 1024) (hb : b < 3 + m) (hne : v ≠ trF m n p) : unlike (stB (trF m n) p v) (trF m n) (3 + m) = (List.range (3 + m)).filter (fun k => decide (k = b)) := by
  refine unlike_of (fun k => decide (k = b)) (fun k hk hq i hi => ?_) (fun k hk hq => ?_)
  · have : k ≠ b := by simpa using hq
    exact stB_far (by omega)
  · have : k = b := by simpa using hq
    subst this
    exact ⟨j, hj, by rw [← hp, stB_at]; exact hne⟩
theorem linesL_one {m : Nat} {f h : Nat → Nat} (b : Nat) (L : List ByteArray) (hl : lnsI (geo1 m) f h 16 = L) : linesL (geo1 m) f h [b] = lineB (geo1 m) h b :: L := by
  show [lineB (geo1 m) h b] ++ lnsI (geo1 m) f h 16 = _
  rw [hl]; rfl

/-! ### a head -/
theorem c0_ne : ∀ n : Fin 10, headP (geo1 20) (fun i => decide (i < n.val + 1)) (fun i => decide (i < n.val + 1)) 66 ≠ 16 := by decide +kernel
def want0 : List ByteArray := [⟨#[98, 108, 111, 99, 107, 32, 49, 32, 104, 101, 97, 100]⟩, ⟨#[100, 105, 114, 116, 121, 32, 49]⟩]
theorem case0 (n : Nat) (hn : n ≤ 9) : Case 20 (stB (trF 20 n) 1090 16) (trF 20 n) [1] want0 := by
  refine case_like hn (by omega) (by decide) (by decide) (fun k hk => head_20 ⟨n, by omega⟩ ⟨k, hk⟩) (like_same hn (stB_lt2 (trF_lt 20 n (by omega)) (by decide)) (fun q hq => stB_far (by omega))) (fun q h1 h2 => stB_far (by omega)) ?_ ?_
  · rw [unlike_stB (b := 1) (j := 66) rfl (by decide) (by decide) (fun e => c0_ne ⟨n, by omega⟩ ((head_20 ⟨n, by omega⟩ ⟨66, by decide⟩).trans e.symm))]
    rfl
  · rw [linesL_one 1 [] ((rows_tree 20 n hn).none (fun q h1 h2 => stB_far (by omega))), line1]
    decide +kernel
/-! ### the links of a file -/
def want1 : List ByteArray := [⟨#[98, 108, 111, 99, 107, 32, 50, 32, 105, 110, 111, 100, 101, 115]⟩, ⟨#[108, 105, 110, 107, 115, 32, 50, 32, 55, 32, 49]⟩, ⟨#[100, 105, 114, 116, 121, 32, 50]⟩]
theorem c1_row {n : Nat} (hn : n ≤ 9) (h1 : 1 ≤ n) (k : Nat) (hk : k < 64) : stB (trF 20 n) 2114 7 (2048 + 64 * 1 + k) = inoF (withL (treeI 1) 7) k := by
  have ht := trF_row 20 n hn 1 (by decide) k hk
  rw [if_pos h1] at ht
  by_cases h2 : k = 2
  · subst h2; rw [(withL_2 _ _).1]; exact stB_at _ _ _
  · rw [stB_far (by omega), ht]
    by_cases h3 : k = 3
    · subst h3; rw [(withL_2 _ _).2]; rfl
    · rw [withL_far _ _ _ h2 h3]
theorem case1 (n : Nat) (hn : n ≤ 9) (h1 : 1 ≤ n) : Case 20 (stB (trF 20 n) 2114 7) (trF 20 n) [2] want1 := by
  refine case_like hn (by omega) (by decide) (by decide) (fun k hk => head_20 ⟨n, by omega⟩ ⟨k, hk⟩) ?_ (fun q h1 h2 => stB_far (by omega)) ?_ ?_
  · refine like_of (m := 20) hn (stB_lt2 (trF_lt 20 n (by omega)) (by decide)) (fun k hk => ?_) (fun x => if x = 1 then 7 else treeI x 1) (fun x => ?_) (fun x hx k hk => ?_) (fun j h1 h2 k hk => ?_) (fun j h1 h2 => ?_)
    · rw [stB_far (by omega)]; exact trF_sup 20 n (by omega) k hk
    · split
      · decide
      · unfold treeI
        split
        · show (2 : Nat) < 65536; decide
        · show (1 : Nat) < 65536; decide
    · by_cases hx1 : x = 1
      · subst hx1; rw [if_pos rfl]; exact c1_row hn h1 k hk
      · rw [if_neg hx1, stB_far (by omega), trF_row 20 n hn x (by omega) k hk, if_pos hx]
        exact (withL_same (treeI x) k).symm
    · rw [stB_far (by omega), trF_erow 20 n hn j (by omega) k hk, entN_file n j h1 h2]
    · rw [rootE_no (m := 20) hn h1 h2 (fun k hk => stB_far (by omega))]
      exact gone_zero 20 n _
  · rw [unlike_stB (b := 2) (j := 66) rfl (by decide) (by decide) (fun e => ?_)]
    · rfl
    · have ht := trF_row 20 n hn 1 (by decide) 2 (by decide)
      rw [if_pos h1] at ht
      have e2 : trF 20 n 2114 = trF 20 n (2048 + 64 * 1 + 2) := rfl
      rw [e2, ht] at e
      revert e
      show (7 : Nat) = inoF (treeI 1) 2 → False
      decide +kernel
  · obtain ⟨a1, a2⟩ := row_good (m := 20) (x := 1) (by decide) (treeI_r (x := 1) (by decide) (l := 7) (by decide)) (treeI_ok 1 7) (fun k hk => c1_row hn h1 k hk)
    have b2 := ((rows_tree 20 n hn).good (x := 1) (by decide)).2
    have eI : inoLs' (geo1 20) (stB (trF 20 n) 2114 7) (trF 20 n) 1 = [toldB bLinks [2, 7, 1]] := by
      unfold inoLs'
      rw [a1]
      unfold inoLs
      have c0 : JT n 1 0 = 1 := by unfold JT; rw [if_pos h1]; rfl
      have c1 : JT n 1 1 = 1 := by unfold JT; rw [if_pos h1]; rfl
      have c2 : JT n 1 2 = 10 := by unfold JT; rw [if_pos h1]; rfl
      rw [a2 0 (by decide), a2 1 (by decide), a2 2 (by decide), b2 0 (by decide), b2 1 (by decide), b2 2 (by decide), c0, c1, c2]
      rfl
    rw [linesL_one 2 _ ((rows_tree 20 n hn).one 1 (by decide) (fun q h1 h2 h3 => stB_far (by omega))), eI, line2]
    decide +kernel
end Go.Proofs.YtbeabehebenocaaGreatDoor
end

section
/- ReportOne: the images: an inode that nothing names, one that can't be, an entry, none; the example. -/
namespace Go.Proofs.YtbeabehebenocaaGreatDoor
open Go.RowKit

theorem like_one {n p v : Nat} (hn : n ≤ 9) (hv : v < 256) (hp : 3008 ≤ p) (hp2 : p < 3072) : Like 20 n (stB (trF 20 n) p v) := by
  refine like_of (m := 20) hn (stB_lt2 (trF_lt 20 n (by omega)) hv) (fun k hk => ?_) (fun x => treeI x 1) (fun x => ?_) (fun x hx k hk => ?_) (fun j h1 h2 k hk => ?_) (fun j h1 h2 => ?_)
  · rw [stB_far (by omega)]; exact trF_sup 20 n (by omega) k hk
  · unfold treeI
    split
    · show (2 : Nat) < 65536; decide
    · show (1 : Nat) < 65536; decide
  · rw [stB_far (by omega), trF_row 20 n hn x (by omega) k hk, if_pos hx]
    exact (withL_same (treeI x) k).symm
  · rw [stB_far (by omega), trF_erow 20 n hn j (by omega) k hk, entN_file n j h1 h2]
  · rw [rootE_no (m := 20) hn h1 h2 (fun k hk => stB_far (by omega))]
    exact gone_zero 20 n _
theorem tr_15 (n : Nat) (hn : n ≤ 9) (k : Nat) (hk : k < 64) : trF 20 n (2048 + 64 * 15 + k) = 0 := by
  rw [trF_row 20 n hn 15 (by decide) k hk, if_neg (by omega)]
/-! ### an inode that nothing names -/
def oneK : InoN := fun j => if j = 0 then 1 else 0
theorem oneK_r : InoR oneK := ⟨by show (1 : Nat) < 65536; decide, by show (0 : Nat) < 65536; decide, by show (0 : Nat) < 4294967296; decide, fun j h1 h2 => by unfold oneK; rw [if_neg (by omega)]; decide⟩
theorem oneK_f : ∀ k : Fin 64, inoF oneK k.val = if k.val = 0 then 1 else 0 := by decide +kernel
def want2 : List ByteArray := [⟨#[98, 108, 111, 99, 107, 32, 50, 32, 105, 110, 111, 100, 101, 115]⟩, ⟨#[108, 111, 115, 116, 32, 49, 54]⟩, ⟨#[100, 105, 114, 116, 121, 32, 50]⟩]
theorem case2 (n : Nat) (hn : n ≤ 9) : Case 20 (stB (trF 20 n) 3008 1) (trF 20 n) [2] want2 := by
  refine case_like hn (by omega) (by decide) (by decide) (fun k hk => head_20 ⟨n, by omega⟩ ⟨k, hk⟩) (like_one hn (by decide) (by decide) (by decide)) (fun q h1 h2 => stB_far (by omega)) ?_ ?_
  · rw [unlike_stB (b := 2) (j := 960) rfl (by decide) (by decide) (fun e => by have := e.trans (tr_15 n hn 0 (by decide)); cases this)]
    rfl
  · obtain ⟨a1, a2⟩ := row_good (m := 20) (x := 15) (f := stB (trF 20 n) 3008 1) (by decide) oneK_r rfl (fun k hk => by
      rw [oneK_f ⟨k, hk⟩]
      by_cases h0 : k = 0
      · subst h0; rw [if_pos rfl]; exact stB_at _ _ _
      · rw [if_neg h0, stB_far (by omega)]; exact tr_15 n hn k hk)
    have b2 := ((rows_tree 20 n hn).good (x := 15) (by decide)).2
    have eI : inoLs' (geo1 20) (stB (trF 20 n) 3008 1) (trF 20 n) 15 = [toldB bLost [16]] := by
      unfold inoLs'
      rw [a1]
      unfold inoLs
      have c0 : JT n 15 0 = 0 := by unfold JT; rw [if_neg (by omega)]; rfl
      rw [a2 0 (by decide), b2 0 (by decide), c0]
      rfl
    rw [linesL_one 2 _ ((rows_tree 20 n hn).one 15 (by decide) (fun q h1 h2 h3 => stB_far (by omega))), eI, line2]
    decide +kernel
/-! ### an inode that can't be -/
def want3 : List ByteArray := [⟨#[98, 108, 111, 99, 107, 32, 50, 32, 105, 110, 111, 100, 101, 115]⟩, ⟨#[98, 97, 100, 32, 49, 54]⟩, ⟨#[100, 105, 114, 116, 121, 32, 50]⟩]
theorem case3 (n : Nat) (hn : n ≤ 9) : Case 20 (stB (trF 20 n) 3008 9) (trF 20 n) [2] want3 := by
  refine case_like hn (by omega) (by decide) (by decide) (fun k hk => head_20 ⟨n, by omega⟩ ⟨k, hk⟩) (like_one hn (by decide) (by decide) (by decide)) (fun q h1 h2 => stB_far (by omega)) ?_ ?_
  · rw [unlike_stB (b := 2) (j := 960) rfl (by decide) (by decide) (fun e => by have := e.trans (tr_15 n hn 0 (by decide)); cases this)]
    rfl
  · have a1 : inoGood (geo1 20) (stB (trF 20 n) 3008 9) 16 = false := by
      have r0 : rawF (geo1 20) (stB (trF 20 n) 3008 9) (15 + 1) 0 = 9 := by rw [rawF_at 20 15 (by decide)]; exact stB_at _ _ _
      have r1 : rawF (geo1 20) (stB (trF 20 n) 3008 9) (15 + 1) 1 = 0 := by rw [rawF_at 20 15 (by decide), stB_far (by omega)]; exact tr_15 n hn 1 (by decide)
      have e0 : inoRd (rawF (geo1 20) (stB (trF 20 n) 3008 9) (15 + 1)) 0 = 9 := by
        show leN _ 2 = 9
        simp [leN, r0, r1]
      unfold inoGood iOk inoOk
      rw [e0]
      simp
    have eI : inoLs' (geo1 20) (stB (trF 20 n) 3008 9) (trF 20 n) 15 = [toldB bBad [16]] := by
      unfold inoLs' inoLs
      rw [a1]; rfl
    rw [linesL_one 2 _ ((rows_tree 20 n hn).one 15 (by decide) (fun q h1 h2 h3 => stB_far (by omega))), eI, line2]
    decide +kernel
/-! ### an entry without a name -/
theorem entRd_nameless {f : Nat → Nat} (h4 : f 4 = 0) (hx : eIno f ≠ 0) : entRd f = (0, ⟨#[]⟩) := by
  have h3 : eOk f = false := by
    unfold eOk
    have h2 : eName f = ⟨#[]⟩ := by unfold eName; rw [h4]; rfl
    rw [h2]
    have : entOk (eIno f) ⟨#[]⟩ = false := by
      unfold entOk
      rw [decide_eq_false hx]
      have : nameOk ⟨#[]⟩ = false := rfl
      rw [this]; simp
    rw [this]; simp
  unfold entRd
  rw [if_neg (by rw [h3]; decide)]
def want4 : List ByteArray := [⟨#[98, 108, 111, 99, 107, 32, 51, 32, 100, 105, 114, 101, 99, 116, 111, 114, 121]⟩, ⟨#[100, 105, 114, 116, 121, 32, 49]⟩]
theorem tr_25 (n : Nat) (hn : n ≤ 9) (k : Nat) (hk : k < 32) : trF 20 n (3072 + 32 * 25 + k) = 0 := by
  rw [trF_erow 20 n hn 25 (by decide) k hk, entN_no n 25 (by omega)]
  exact ent_zero _ rfl k
theorem case4 (n : Nat) (hn : n ≤ 9) : Case 20 (stB (trF 20 n) 3872 16) (trF 20 n) [3] want4 := by
  refine case_like hn (by omega) (by decide) (by decide) (fun k hk => head_20 ⟨n, by omega⟩ ⟨k, hk⟩) ?_ (fun q h1 h2 => stB_far (by omega)) ?_ ?_
  · refine like_of (m := 20) hn (stB_lt2 (trF_lt 20 n (by omega)) (by decide)) (fun k hk => ?_) (fun x => treeI x 1) (fun x => ?_) (fun x hx k hk => ?_) (fun j h1 h2 k hk => ?_) (fun j h1 h2 => ?_)
    · rw [stB_far (by omega)]; exact trF_sup 20 n (by omega) k hk
    · unfold treeI
      split
      · show (2 : Nat) < 65536; decide
      · show (1 : Nat) < 65536; decide
    · rw [stB_far (by omega), trF_row 20 n hn x (by omega) k hk, if_pos hx]
      exact (withL_same (treeI x) k).symm
    · rw [stB_far (by omega), trF_erow 20 n hn j (by omega) k hk, entN_file n j h1 h2]
    · by_cases hj : j = 25
      · subst hj
        have : rootE (stB (trF 20 n) 3872 16) 3 25 = (0, ⟨#[]⟩) := by
          rw [rootE_at]
          have r0 : stB (trF 20 n) 3872 16 (3072 + 32 * 25 + 0) = 16 := stB_at _ _ _
          have r : ∀ k, k < 32 → k ≠ 0 → stB (trF 20 n) 3872 16 (3072 + 32 * 25 + k) = 0 := fun k h1 h2 => by rw [stB_far (by omega)]; exact tr_25 n hn k h1
          refine entRd_nameless (r 4 (by decide) (by decide)) ?_
          show leN _ 4 ≠ 0
          simp [leN, stB_at]
        rw [this]
        exact gone_zero 20 n _
      · rw [rootE_no (m := 20) hn h1 h2 (fun k hk => stB_far (by omega))]
        exact gone_zero 20 n _
  · rw [unlike_stB (b := 3) (j := 800) rfl (by decide) (by decide) (fun e => by have := e.trans (tr_25 n hn 0 (by decide)); cases this)]
    rfl
  · rw [linesL_one 3 [] ((rows_tree 20 n hn).none (fun q h1 h2 => stB_far (by omega))), line3 (by decide) (dirs_tree 20 n hn)]
    decide +kernel
/-! ### nothing -/
def wantC : List ByteArray := [bClean]
theorem caseC (n : Nat) (hn : n ≤ 9) : Case 20 (trF 20 n) (trF 20 n) [] wantC := by
  refine case_like hn (by omega) (by decide) (by decide) (fun k hk => head_20 ⟨n, by omega⟩ ⟨k, hk⟩) (like_same hn (trF_lt 20 n (by omega)) (fun q hq => rfl)) (fun q h1 h2 => rfl) ?_ ?_
  · rw [unlike_of (fun _ => false) (fun k hk hp j hj => rfl) (fun k hk hp => by cases hp)]
    rfl
  · have : linesL (geo1 20) (trF 20 n) (trF 20 n) [] = [] := by
      show [] ++ lnsI (geo1 20) (trF 20 n) (trF 20 n) 16 = _
      rw [(rows_tree 20 n hn).none (fun q h1 h2 => rfl)]; rfl
    rw [this]; rfl
/-! ### the example -/
def wantX : List ByteArray := [⟨#[98, 108, 111, 99, 107, 32, 50, 32, 105, 110, 111, 100, 101, 115]⟩, ⟨#[108, 105, 110, 107, 115, 32, 49, 32, 49, 32, 50]⟩, ⟨#[100, 105, 114, 116, 121, 32, 50]⟩]
theorem x_row (k : Nat) (hk : k < 64) : exF (2048 + 64 * 0 + k) = inoF (withL (treeI 0) 1) k := by
  unfold exF
  by_cases h2 : k = 2
  · subst h2; rw [if_pos rfl, (withL_2 _ _).1]
  · rw [if_neg (by omega)]
    have := trF_row 8 0 (by decide) 0 (by decide) k hk
    rw [if_pos (Nat.le_refl _)] at this
    rw [show mkF 8 (2048 + 64 * 0 + k) = trF 8 0 (2048 + 64 * 0 + k) from rfl, this]
    by_cases h3 : k = 3
    · subst h3; rw [(withL_2 _ _).2]; rfl
    · rw [withL_far _ _ _ h2 h3]
theorem caseX : Case 8 exF (trF 8 0) [2] wantX := by
  refine case_like (by decide) (by decide) (by decide) (by decide) (fun k hk => head_8 ⟨k, hk⟩) exF_like (fun q h1 h2 => by unfold exF; rw [if_neg (by omega)]; rfl) exF_unlike ?_
  · obtain ⟨a1, a2⟩ := row_good (m := 8) (x := 0) (by decide) (treeI_r (x := 0) (by decide) (l := 1) (by decide)) (treeI_ok 0 1) x_row
    have b2 := ((rows_tree 8 0 (by decide)).good (x := 0) (by decide)).2
    have eI : inoLs' (geo1 8) exF (trF 8 0) 0 = [toldB bLinks [1, 1, 2]] := by
      unfold inoLs'
      rw [a1]
      unfold inoLs
      rw [a2 0 (by decide), a2 1 (by decide), a2 2 (by decide), b2 0 (by decide), b2 1 (by decide), b2 2 (by decide)]
      rfl
    rw [linesL_one 2 _ ((rows_tree 8 0 (by decide)).one 0 (by decide) (fun q h1 h2 h3 => by unfold exF; rw [if_neg (by omega)]; rfl)), eI, line2]
    decide +kernel
end Go.Proofs.YtbeabehebenocaaGreatDoor
end

section
/- ReportOne: a size that can't be. -/
namespace Go.Proofs.YtbeabehebenocaaGreatDoor
open Go.RowKit

theorem entN_ok5 (n : Nat) (hn : n ≤ 9) (j : Nat) (hj : j < 32) : (entN n j).1 < 4294967296 ∧ (entN n j).2.size ≤ 1000000 ∧ entOk (entN n j).1 (entN n j).2 = true := by
  unfold entN
  by_cases h0 : j = 0
  · rw [if_pos h0]; decide +kernel
  · rw [if_neg h0]
    by_cases h1 : j = 1
    · rw [if_pos h1]; decide +kernel
    · rw [if_neg h1]
      by_cases h2 : j < n + 2
      · rw [if_pos h2]
        have := nameN_ok ⟨j - 2, by omega⟩
        refine ⟨by show j < _; omega, ?_, ?_⟩
        · show (nameN (j - 2)).size ≤ _
          have : (nameN (j - 2)).size = 2 := rfl
          omega
        · unfold entOk
          rw [decide_eq_true (p := j ≠ 0) h0, this]; simp
      · rw [if_neg h2]; decide +kernel
theorem rootE_of5 {f : Nat → Nat} {n j : Nat} (hn : n ≤ 9) (hj : j < 32) (h : ∀ k, k < 32 → f (3072 + 32 * j + k) = entF (entN n j).1 (entN n j).2 k) : rootE f 3 j = entN n j := by
  obtain ⟨h1, _, h3⟩ := entN_ok5 n hn j hj
  rw [rootE_at]
  exact entRd_of h1 h3 h
theorem likeG_of5 {m n : Nat} {h : Nat → Nat} (hn : n ≤ 9) (byte : ∀ k, h k < 256) (sup : ∀ k, k < 1024 → h k = superF (geo1 m) k) (J : Nat → InoN) (root : ∀ j, j < 13 → J 0 j = rootI j) (r : ∀ x, x ≤ n → InoR (J x) ∧ inoOk (J x) = true)
    (ino : ∀ x, x ≤ n → ∀ k, k < 64 → h (2048 + 64 * x + k) = inoF (J x) k) (f0 : ∀ k, k < n → J (k + 1) 0 = 1 ∧ J (k + 1) 11 = 0 ∧ J (k + 1) 12 = 0) (ents : ∀ j, 2 ≤ j → j < 32 → ∀ k, k < 32 → h (3072 + 32 * j + k) = entF (entN n j).1 (entN n j).2 k) : LikeG m n h ∧ ∀ x, x ≤ n → ∀ j, j < 13 → inoAt (geo1 m) h (x + 1) j = J x j := by
  have I : ∀ x, x ≤ n → ∀ j, j < 13 → inoAt (geo1 m) h (x + 1) j = J x j := fun x hx => inoAt_of (g := geo1 m) (f := h) (x := x + 1) (J := J x) (geo1_ino m x (by omega)) (r x hx).1 (r x hx).2 (fun k hk => by rw [rawF_at m x (by omega)]; exact ino x hx k hk)
  have I0 : ∀ j, j < 13 → inoAt (geo1 m) h 1 j = rootI j := fun j hj => (I 0 (by omega) j hj).trans (root j hj)
  refine ⟨⟨byte, sup, I0 0 (by omega), I0 2 (by omega), I0 3 (by omega), fun j h1 h2 => ?_, fun k hk => ?_, fun k hk => ?_, fun k hk => ?_, fun k hk => ?_, fun j h1 h2 => ?_⟩, I⟩
  · rw [I0 j h2]; unfold rootI; rw [if_neg (by omega), if_neg (by omega), if_neg (by omega), if_neg (by omega)]
  · rw [I (k + 1) (by omega) 0 (by omega)]; exact (f0 k hk).1
  · rw [I (k + 1) (by omega) 11 (by omega), (f0 k hk).2.1]; rfl
  · rw [I (k + 1) (by omega) 12 (by omega), (f0 k hk).2.2]; rfl
  · rw [rootE_of5 hn (by omega) (ents (k + 2) (by omega) (by omega)), entN_file n (k + 2) (by omega) (by omega)]; rfl
  · rw [rootE_of5 hn h2 (ents j (by omega) h2), entN_no n j h1]
theorem out_root5 {m n : Nat} {h : Nat → Nat} (L : LikeG m n h) : ∀ j, j < 13 → outI (rootT2 (geo1 m) h) j = rootI j := fun j hj => by
  have e0 : (rootT2 (geo1 m) h).i = inoAt (geo1 m) h 1 := rfl
  have e1 : (rootT2 (geo1 m) h).L = [⟨0, 0, 0, 3⟩] := rfl
  have e2 : (rootT2 (geo1 m) h).links = 2 := rfl
  unfold outI rootI
  rw [e0, e1, e2, L.r0, L.r2, atF_one]
  by_cases h0 : j = 0
  · rw [if_pos h0, if_pos h0]
  · rw [if_neg h0, if_neg h0]
    by_cases h1 : j = 1
    · rw [if_pos h1, if_pos h1]
    · rw [if_neg h1, if_neg h1]
      by_cases h2 : j = 2
      · rw [if_pos h2, if_pos h2]
      · rw [if_neg h2, if_neg h2]
        by_cases h3 : j = 3
        · rw [if_pos (by omega), if_pos (by omega), if_pos h3]; rfl
        · by_cases h4 : j < 11
          · rw [if_pos h4, if_neg (by omega), if_neg h3]; rfl
          · rw [if_neg h4, if_neg h3]

theorem keep_one {g : Geo} {c : Nat → Bool} {I : InoN} {most : Nat} (h1 : g.dOk (I 3) = true) (h2 : c (I 3) = false) (hz : ∀ j, 4 ≤ j → j < 13 → g.dOk (I j) = false) (hm : 0 < most) : keepR g most c (ptrsI I) = ([⟨0, 0, 0, I 3⟩], fun x => c x || decide (x = I 3)) := by
  have e : ptrsI I = [⟨0, 0, 0, I 3⟩, ⟨0, 1, 1, I 4⟩, ⟨0, 2, 2, I 5⟩, ⟨0, 3, 3, I 6⟩, ⟨0, 4, 4, I 7⟩, ⟨0, 5, 5, I 8⟩, ⟨0, 6, 6, I 9⟩, ⟨0, 7, 7, I 10⟩, ⟨-1, 1, 8, I 11⟩, ⟨-1, 2, 264, I 12⟩] := rfl
  rw [e]
  simp [keepR, keepS, keepOk, h1, h2, hm, hz]
def bigI : InoN := fun j => if j = 2 then 4278190090 else fileI 0 j
def capB : InoN := fun j => if j = 2 then 67379200 else fileI 0 j
theorem bigI_r : InoR bigI := ⟨by show (1 : Nat) < 65536; decide, by show (1 : Nat) < 65536; decide, by show (4278190090 : Nat) < 4294967296; decide, fun j h1 h2 => by unfold bigI; rw [if_neg (by omega)]; exact (fileI_r (by decide)).p j h1 h2⟩
theorem capB_r : InoR capB := ⟨by show (1 : Nat) < 65536; decide, by show (1 : Nat) < 65536; decide, by show (67379200 : Nat) < 4294967296; decide, fun j h1 h2 => by unfold capB; rw [if_neg (by omega)]; exact (fileI_r (by decide)).p j h1 h2⟩
theorem bigI_f : ∀ k : Fin 64, inoF bigI k.val = if k.val = 7 then 255 else inoF (fileI 0) k.val := by decide +kernel
theorem capB_f : ∀ k : Fin 64, inoF capB k.val = if 4 ≤ k.val ∧ k.val < 8 then byteN 67379200 (k.val - 4) else inoF (fileI 0) k.val := by decide +kernel
def J5 (x : Nat) : InoN := if x = 1 then bigI else treeI x
def K5 (n x : Nat) : InoN := if x = 1 then capB else JT n x
/-- what Repair makes of it -/
def h5 (n : Nat) : Nat → Nat := fun q => if 2116 ≤ q ∧ q < 2120 then byteN 67379200 (q - 2116) else trF 20 n q
theorem J5_row {n : Nat} (hn : n ≤ 9) (h1 : 1 ≤ n) (x : Nat) (hx : x ≤ n) (k : Nat) (hk : k < 64) : stB (trF 20 n) 2119 255 (2048 + 64 * x + k) = inoF (J5 x) k := by
  have ht := trF_row 20 n hn x (by omega) k hk
  rw [if_pos hx] at ht
  unfold J5
  by_cases hx1 : x = 1
  · subst hx1
    rw [if_pos rfl, bigI_f ⟨k, hk⟩]
    by_cases h7 : k = 7
    · subst h7; rw [if_pos rfl]; exact stB_at _ _ _
    · rw [if_neg h7, stB_far (by omega), ht]; rfl
  · rw [if_neg hx1, stB_far (by omega), ht]
theorem like5 {n : Nat} (hn : n ≤ 9) (h1 : 1 ≤ n) : LikeG 20 n (stB (trF 20 n) 2119 255) ∧ ∀ x, x ≤ n → ∀ j, j < 13 → inoAt (geo1 20) (stB (trF 20 n) 2119 255) (x + 1) j = J5 x j := by
  refine likeG_of5 hn (stB_lt2 (trF_lt 20 n (by omega)) (by decide)) (fun k hk => ?_) J5 (fun j _ => rfl) (fun x hx => ?_) (fun x hx k hk => J5_row hn h1 x hx k hk) (fun k hk => ?_) (fun j h2 h3 k hk => ?_)
  · rw [stB_far (by omega)]; exact trF_sup 20 n (by omega) k hk
  · unfold J5
    split
    · exact ⟨bigI_r, rfl⟩
    · exact ⟨treeI_r0 (by omega), treeI_ok0 x⟩
  · unfold J5
    split
    · exact ⟨rfl, rfl, rfl⟩
    · have : treeI (k + 1) = fileI k := by unfold treeI; rw [if_neg (by omega), Nat.add_sub_cancel]
      rw [this]; exact ⟨rfl, rfl, rfl⟩
  · rw [stB_far (by omega), trF_erow 20 n hn j h3 k hk]
theorem J5_succ (k : Nat) : (∀ j, j ≠ 2 → J5 (k + 1) j = fileI k j) ∧ min (J5 (k + 1) 2) 67379200 = if k = 0 then 67379200 else 10 := by
  unfold J5
  by_cases hk : k = 0
  · subst hk
    exact ⟨fun j hj => by rw [if_pos rfl]; unfold bigI; rw [if_neg hj], by decide⟩
  · have : treeI (k + 1) = fileI k := by unfold treeI; rw [if_neg (by omega), Nat.add_sub_cancel]
    rw [if_neg (by omega), this, if_neg hk]
    exact ⟨fun j _ => rfl, rfl⟩
theorem keep5 {n : Nat} (hn : n ≤ 9) (h1 : 1 ≤ n) : ∀ k, k ≤ n → cG (geo1 20) (stB (trF 20 n) 2119 255) k = cN k ∧ (k < n → pG (geo1 20) (stB (trF 20 n) 2119 255) k = [⟨0, 0, 0, 4 + k⟩]) := by
  obtain ⟨L, I⟩ := like5 hn h1
  have one : ∀ k, k < n → keepR (geo1 20) (countN (capI (inoAt (geo1 20) (stB (trF 20 n) 2119 255) (k + 2)) 2)) (cN k) (ptrsI (capI (inoAt (geo1 20) (stB (trF 20 n) 2119 255) (k + 2)))) = ([⟨0, 0, 0, 4 + k⟩], cN (k + 1)) := fun k hk => by
    obtain ⟨j1, j2⟩ := J5_succ k
    have II := I (k + 1) (by omega)
    have e3 : capI (inoAt (geo1 20) (stB (trF 20 n) 2119 255) (k + 2)) 3 = 4 + k := by
      unfold capI; rw [if_neg (by decide), II 3 (by decide), j1 3 (by decide)]; rfl
    have e2 : capI (inoAt (geo1 20) (stB (trF 20 n) 2119 255) (k + 2)) 2 = if k = 0 then 67379200 else 10 := by
      unfold capI; rw [if_pos rfl, II 2 (by decide), j2]
    have := keep_one (g := geo1 20) (c := cN k) (I := capI (inoAt (geo1 20) (stB (trF 20 n) 2119 255) (k + 2))) (most := countN (capI (inoAt (geo1 20) (stB (trF 20 n) 2119 255) (k + 2)) 2)) (by rw [e3]; exact dOk_one (by omega) (by omega)) (by rw [e3]; unfold cN; rw [decide_eq_false (by omega), decide_eq_false (by omega)]; rfl)
      (fun j h4 h13 => by
        unfold capI; rw [if_neg (by omega), II j h13, j1 j (by omega)]
        unfold fileI; rw [if_neg (by omega), if_neg (by omega), if_neg (by omega), if_neg (by omega)]; rfl)
      (by rw [e2]; split <;> decide)
    rw [this, e3, cN_succ]
  intro k
  induction k with
  | zero =>
    intro _
    refine ⟨rfl, fun hk => ?_⟩
    unfold pG
    have := one 0 hk
    show (keepR _ _ (cN 0) _).1 = _
    rw [this]
  | succ k ih =>
    intro hk
    have c : cG (geo1 20) (stB (trF 20 n) 2119 255) (k + 1) = cN (k + 1) := by
      show (keepR _ _ (cG (geo1 20) (stB (trF 20 n) 2119 255) k) _).2 = _
      rw [(ih (by omega)).1, one k (by omega)]
    refine ⟨c, fun hk2 => ?_⟩
    unfold pG
    rw [c, one (k + 1) hk2]
theorem row5 {n : Nat} (hn : n ≤ 9) (h1 : 1 ≤ n) (x : Nat) (hx : x < 16) (k : Nat) (hk : k < 64) : inoRow (insG (geo1 20) (stB (trF 20 n) 2119 255) n) (x + 1) k = inoF (K5 n x) k := by
  obtain ⟨L, I⟩ := like5 hn h1
  unfold inoRow insG K5 JT
  by_cases h0 : x = 0
  · subst h0
    rw [if_pos rfl, if_neg (by decide), if_pos (Nat.zero_le _)]
    exact inoF_congr (out_root5 L) k
  · rw [if_neg (by omega)]
    by_cases h2 : x ≤ n
    · rw [if_pos (by omega)]
      obtain ⟨y, rfl⟩ : ∃ y, x = y + 1 := ⟨x - 1, by omega⟩
      refine inoF_congr (fun j hj => ?_) k
      have p := (keep5 hn h1 y (by omega)).2 (by omega)
      obtain ⟨j1, j2⟩ := J5_succ y
      have II := I (y + 1) (by omega)
      unfold outI fileTG
      dsimp only
      rw [show y + 1 + 1 - 2 = y by omega, p, atF_one]
      have c0 : capI (inoAt (geo1 20) (stB (trF 20 n) 2119 255) (y + 1 + 1)) 0 = 1 := by unfold capI; rw [if_neg (by decide), II 0 (by decide), j1 0 (by decide)]; rfl
      have c2 : capI (inoAt (geo1 20) (stB (trF 20 n) 2119 255) (y + 1 + 1)) 2 = if y = 0 then 67379200 else 10 := by unfold capI; rw [if_pos rfl, II 2 (by decide), j2]
      rw [c0, c2]
      have hT : treeI (y + 1) = fileI y := by unfold treeI; rw [if_neg (by omega), Nat.add_sub_cancel]
      have hK : (if y + 1 = 1 then capB else if y + 1 ≤ n then treeI (y + 1) else noIno) j = if j = 2 then (if y = 0 then 67379200 else 10) else fileI y j := by
        rw [if_pos h2, hT]
        by_cases hy : y = 0
        · subst hy
          rw [if_pos rfl]
          unfold capB
          split <;> rfl
        · rw [if_neg (by omega), if_neg hy]
          split
          · rename_i hj2; subst hj2; rfl
          · rfl
      rw [hK]
      unfold fileI
      by_cases g0 : j = 0
      · subst g0; rfl
      · rw [if_neg g0, if_neg g0]
        by_cases g1 : j = 1
        · subst g1; rfl
        · rw [if_neg g1, if_neg g1]
          by_cases g2 : j = 2
          · rw [if_pos g2, if_pos g2]
          · rw [if_neg g2, if_neg g2, if_neg g2]
            by_cases g3 : j = 3
            · rw [if_pos (by omega), if_pos (by omega), if_pos g3]; rfl
            · by_cases g4 : j < 11
              · rw [if_pos g4, if_neg (by omega), if_neg g3]; rfl
              · rw [if_neg g4, if_neg g3]
    · rw [if_neg (by omega), if_neg (by omega), if_neg h2]
      exact (noIno_f ⟨k, hk⟩).symm
theorem h5_row {n : Nat} (hn : n ≤ 9) (h1 : 1 ≤ n) (x : Nat) (hx : x < 16) (k : Nat) (hk : k < 64) : h5 n (2048 + 64 * x + k) = inoF (K5 n x) k := by
  have ht := trF_row 20 n hn x hx k hk
  unfold h5 K5 JT
  by_cases hx1 : x = 1
  · subst hx1
    rw [if_pos rfl, capB_f ⟨k, hk⟩]
    rw [if_pos h1] at ht
    by_cases h4 : 4 ≤ k ∧ k < 8
    · rw [if_pos h4, if_pos (by omega), show 2048 + 64 * 1 + k - 2116 = k - 4 by omega]
    · rw [if_neg h4, if_neg (by omega), ht]; rfl
  · rw [if_neg hx1, if_neg (by omega), ht]
    split
    · rfl
    · exact (noIno_f ⟨k, hk⟩).symm
theorem out5 {n : Nat} (hn : n ≤ 9) (h1 : 1 ≤ n) (q : Nat) : repO (geo1 20) (stB (trF 20 n) 2119 255) 3 q = h5 n q := by
  obtain ⟨L, I⟩ := like5 hn h1
  by_cases a : 4096 ≤ q
  · rw [LikeG.hi q a, stB_far (by omega)]; unfold h5; rw [if_neg (by omega)]
  · by_cases b : q < 1024
    · rw [L.outSup q b]; unfold h5; rw [if_neg (by omega), trF_sup 20 n (by omega) q b]
    · by_cases c : q < 2048
      · obtain ⟨k, rfl⟩ : ∃ k, q = 1024 + k := ⟨q - 1024, by omega⟩
        rw [L.outHead hn (by decide) k (by omega), (keep5 hn h1 n (Nat.le_refl _)).1]
        unfold h5
        rw [if_neg (by omega), ← head_20 ⟨n, by omega⟩ ⟨k, by omega⟩]
        dsimp only
        unfold headP
        have a2 : hP (fun i => cN n ((geo1 20).data i)) (geo1 20).da = hP (fun i => decide (i < n + 1)) (geo1 20).da := by
          have gen : ∀ k, k ≤ (geo1 20).da → hP (fun i => cN n ((geo1 20).data i)) k = hP (fun i => decide (i < n + 1)) k := by
            intro k
            induction k with
            | zero => intro _; rfl
            | succ k ih =>
              intro hk
              funext j
              simp only [hP]
              rw [ih (by omega)]
              have : cN n ((geo1 20).data k) = decide (k < n + 1) := by
                rw [Geo.one_data (g := geo1 20) (by omega)]
                show cN n (2 + 1 + k) = _
                unfold cN
                rw [Bool.eq_iff_iff]
                simp only [Bool.or_eq_true, decide_eq_true_eq]
                omega
              simp only [this]
          exact gen _ (Nat.le_refl _)
        rw [a2]
      · by_cases d : q < 3072
        · obtain ⟨x, k, rfl, hx, hk⟩ : ∃ x k, q = 2048 + 64 * x + k ∧ x < 16 ∧ k < 64 := ⟨(q - 2048) / 64, (q - 2048) % 64, by omega, by omega, by omega⟩
          rw [L.outRow hn (by decide) x hx k hk, row5 hn h1 x hx k hk, h5_row hn h1 x hx k hk]
        · obtain ⟨j, k, rfl, hj, hk⟩ : ∃ j k, q = 3072 + 32 * j + k ∧ j < 32 ∧ k < 32 := ⟨(q - 3072) / 32, (q - 3072) % 32, by omega, by omega, by omega⟩
          rw [L.outEnt hn (by decide) j hj k hk]
          unfold h5
          rw [if_neg (by omega), trF_erow 20 n hn j hj k hk]
theorem rows5 {n : Nat} (hn : n ≤ 9) (h1 : 1 ≤ n) : InoRows 20 (h5 n) (K5 n) where
  r := fun x hx => by
    unfold K5
    split
    · exact capB_r
    · exact (rows_tree 20 n hn).r x hx
  o := fun x hx => by
    unfold K5
    split
    · rfl
    · exact (rows_tree 20 n hn).o x hx
  row := fun x hx k hk => h5_row hn h1 x hx k hk
def want5 : List ByteArray := [⟨#[98, 108, 111, 99, 107, 32, 50, 32, 105, 110, 111, 100, 101, 115]⟩, ⟨#[115, 105, 122, 101, 32, 50, 32, 52, 50, 55, 56, 49, 57, 48, 48, 57, 48, 32, 54, 55, 51, 55, 57, 50, 48, 48]⟩, ⟨#[100, 105, 114, 116, 121, 32, 50]⟩]
theorem h5_lt {n : Nat} (hn : n ≤ 9) (k : Nat) : h5 n k < 256 := by
  unfold h5
  split
  · exact byteN_lt _ _
  · exact trF_lt 20 n (by omega) k
theorem case5 (n : Nat) (hn : n ≤ 9) (h1 : 1 ≤ n) : Case 20 (stB (trF 20 n) 2119 255) (h5 n) [2] want5 := by
  obtain ⟨L, I⟩ := like5 hn h1
  have R := rows5 hn h1
  have I0 : ∀ j, j < 13 → inoAt (geo1 20) (h5 n) 1 j = rootI j := fun j hj => ((R.good (x := 0) (by omega)).2 j hj)
  have LT : Like 20 n (trF 20 n) := like_same hn (trF_lt 20 n (by omega)) (fun _ _ => rfl)
  have s5 : ∀ k, k < 1024 → h5 n k = trF 20 n k := fun k hk => by unfold h5; rw [if_neg (by omega)]
  have hsup : supG (h5 n) = supG (trF 20 n) := by
    unfold supG
    rw [leN_congr 4 (fun k hk => s5 _ (by omega)), leN_congr (f := fun k => h5 n (12 + k)) 4 (g := fun k => trF 20 n (12 + k)) (fun k hk => s5 _ (by omega)), leN_congr (f := fun k => h5 n (16 + k)) 4 (g := fun k => trF 20 n (16 + k)) (fun k hk => s5 _ (by omega))]
  have hsok : supOk (h5 n) = true := by
    have := (LT.supOk (by decide) (by decide)).2
    unfold supOk at this ⊢
    rw [hsup]
    rw [Bool.and_eq_true] at this ⊢
    refine ⟨this.1, ?_⟩
    have t2 := this.2
    unfold eqB at t2 ⊢
    rw [decide_eq_true_iff] at t2 ⊢
    intro k hk
    rw [s5 k hk]; exact t2 k hk
  have ho : ofOk (h5 n) 23552 = true := by
    have := LT.ofOk (by decide) (by decide)
    unfold ofOk at this ⊢
    rw [hsup, hsok]
    rw [(LT.supOk (by decide) (by decide)).2] at this
    exact this
  refine ⟨L.byte, h5_lt hn, (L.supOk (by decide) (by decide)).1, L.ofOk (by decide) (by decide), hsup.trans (LT.supOk (by decide) (by decide)).1, ho, L.ok hn (by decide) (by decide), fun q hq => out5 hn h1 q, ⟨by rw [I0 11 (by omega)]; rfl, by rw [I0 12 (by omega)]; rfl⟩, I0 0 (by omega), fun x h2 h3 => ?_, ?_, ?_⟩
  · have h3 : x ≤ 16 := h3
    obtain ⟨y, rfl⟩ : ∃ y, x = y + 1 := ⟨x - 1, by omega⟩
    rw [(R.good (x := y) (by omega)).2 0 (by omega)]
    unfold K5
    split
    · show (1 : Nat) ≠ 2; decide
    · exact JT_no n y (by omega)
  · rw [unlike_of (fun k => decide (k = 2)) (fun k hk hq i hi => ?_) (fun k hk hq => ?_)]
    · rfl
    · have : k ≠ 2 := by simpa using hq
      rw [stB_far (by omega)]; unfold h5; rw [if_neg (by omega)]
    · have : k = 2 := by simpa using hq
      subst this
      refine ⟨71, by decide, ?_⟩
      show stB (trF 20 n) 2119 255 2119 ≠ h5 n 2119
      rw [stB_at]
      unfold h5
      rw [if_pos (by decide)]
      decide
  · obtain ⟨a1, a2⟩ := row_good (m := 20) (x := 1) (f := stB (trF 20 n) 2119 255) (by decide) bigI_r rfl (fun k hk => J5_row hn h1 1 h1 k hk)
    have b2 := (R.good (x := 1) (by decide)).2
    have eI : inoLs' (geo1 20) (stB (trF 20 n) 2119 255) (h5 n) 1 = [toldB bSize [2, 4278190090, 67379200]] := by
      unfold inoLs'
      rw [a1]
      unfold inoLs
      rw [a2 0 (by decide), a2 1 (by decide), a2 2 (by decide), b2 0 (by decide), b2 1 (by decide), b2 2 (by decide)]
      rfl
    rw [linesL_one 2 _ (R.one 1 (by decide) (fun q h1 h2 h3 => by rw [stB_far (by omega)]; unfold h5; rw [if_neg (by omega)])), eI, line2]
    decide +kernel
end Go.Proofs.YtbeabehebenocaaGreatDoor
end

section
/- The laws of reports: two lists of strings, compared. -/
namespace Go.Proofs.YtbeabehebenocaaGreatDoor
open Go.RowKit

/-- the strings of a slice -/
def StrsAt (W : World) (A : Option Addr) (L : List ByteArray) : Prop := ∀ k s, L[k]? = some s → ∃ G, A = some ⟨G, 0, none⟩ ∧ W.cell? ⟨G, k, none⟩ = some (.string s)
theorem StrsAt.below {W W' : World} {A : Option Addr} {L : List ByteArray} (h : StrsAt W A L) {c : Nat} (hb : Below c W W') (hc : W.heap.size ≤ c) : StrsAt W' A L := fun k s hk => by
  obtain ⟨G, e, hg⟩ := h k s hk
  have hl := lt_of_cell hg
  exact ⟨G, e, (hb.cell (p := ⟨G, k, none⟩) (Nat.lt_of_lt_of_le hl hc)).trans hg⟩
theorem own_strs {W : World} {base n : Nat} {v : Value} {U : List ByteArray} (ho : W.ownsRow base 9 1 v n (U.map Value.string)) : ∃ A c, v = .slice A n c ∧ StrsAt W A U := by
  obtain ⟨hlen, ho⟩ := ho
  rcases ho with ⟨h1, h2⟩ | ⟨g, cap, cur, h1, h2, h3, h4⟩
  · refine ⟨none, 0, by rw [h1, h2], fun j s hj => ?_⟩
    have := (List.getElem?_eq_some_iff.1 hj).1
    simp [h2] at hlen
    rw [hlen] at this
    simp at this
  · refine ⟨_, _, h1, fun j s hj => ⟨g, rfl, ?_⟩⟩
    have := World.ownsRow.cells (w := W) (base := base) (e := 9) (size := 1) (v := v) (n := n) (xs := U.map Value.string) ⟨hlen, .inr ⟨g, cap, cur, h1, h2, h3, h4⟩⟩ (g := g) (by rw [h1]; rfl) j (.string s) (by rw [List.getElem?_map, hj]; rfl)
    simpa [Addr.add_lit] using this
theorem strs_blk {W : World} {b : Nat} {L : List ByteArray} (h : Blk 9 W b (L.map Value.string)) : StrsAt W (some ⟨b, 0, none⟩) L := fun k s hk => by
  refine ⟨b, rfl, ?_⟩
  rw [h.cell k, List.getElem?_map, hk]; rfl

set_option maxRecDepth 1000000 in
set_option maxHeartbeats 2000000 in
theorem sm_c (L : List ByteArray) (A B : Option Addr) (ca cb : Nat) (w : World) (hA : StrsAt w A L) (hB : StrsAt w B L) (hl : L.length ≤ 100000) :
    Calls Tryz.prog 6 #[.slice A L.length ca, .slice B L.length cb] w fun e w' => e = .returned (.bool true) ∧ Below w.heap.size w w' := by
  have HA := Lib.hid hA; have HB := Lib.hid hB
  clear hA hB
  go_enter Tryz.func6, Tryz.ntmps6
  go_wp2
  go_loopw [5] (fun i' wr => ∃ i : Nat, i ≤ L.length ∧ i' = .int .i64 i ∧ ∃ wq, wq = wr ∧ Below w.heap.size w wq) (fun i' _ => L.length - (intOf i').toNat)
  case atStart => exact ⟨0, Nat.zero_le _, rfl, _, rfl, Below.refl _ _⟩
  case round =>
    obtain ⟨i, hi, rfl, wx, rfl, hBx⟩ := hrel
    by_cases hlt : i < L.length
    · obtain ⟨s, hs⟩ : ∃ s, L[i]? = some s := ⟨_, List.getElem?_eq_getElem hlt⟩
      obtain ⟨G, rfl, hg⟩ := HA.out i s hs
      obtain ⟨G', rfl, hg'⟩ := HB.out i s hs
      have hc := (hBx.cell (p := ⟨G, i, none⟩) (lt_of_cell hg)).trans hg
      have hc' := (hBx.cell (p := ⟨G', i, none⟩) (lt_of_cell hg')).trans hg'
      have hli : (i : Int) < (L.length : Int) := by omega
      have HBx := Lib.hid hBx
      clear hg hg' hBx hs HA HB
      go_wp2
      go_quiet (fail)
      go_wp2
      go_roundw
      case rel => exact ⟨i + 1, by omega, by simp, _, rfl, bdrewN HBx.out _⟩
      case measure => simp [intOf]; omega
    · have hli : ¬ (i : Int) < (L.length : Int) := by omega
      obtain rfl : i = L.length := by omega
      go_wp2
      go_ret
      exact ⟨rfl, hBx⟩
end Go.Proofs.YtbeabehebenocaaGreatDoor
end

section
/- ReportOne: what report.Lines tells of its images. -/
namespace Go.Proofs.YtbeabehebenocaaGreatDoor
open Go.RowKit

theorem Case.lines {m : Nat} {f h : Nat → Nat} {U : List Nat} {want : List ByteArray} (C : Case m f h U want) (h8 : 8 ≤ m) (h1000 : m ≤ 1000) (hUl : U.length ≤ 1000) (hUp : ∀ p ∈ U, 1 ≤ p ∧ p ≤ 1000000)
    (W : World) (base G cap : Nat) (hT : TabG W) (ho : W.ownsRow base 5 1 (.slice (some ⟨G, 0, none⟩) ((3 + m) * 1024) cap) ((3 + m) * 1024) (bytesL f ((3 + m) * 1024))) :
    Calls Tryz.prog 7 #[.slice (some ⟨G, 0, none⟩) ((3 + m) * 1024) cap] W fun e w' => ∃ A c, e = .returned (.slice A want.length c) ∧ StrsAt w' A want ∧ Below W.heap.size W w' := by
  obtain ⟨l1, l2, l3, l4⟩ := own_len ho
  unfold maxLen at l4
  have et : (geo1 m).total = 3 + m := by show 1 + 1 * (1 + 1 + m) = 3 + m; omega
  have R := rep_c (geo1 m) G 0 ((3 + m) * 1024) cap 3 f W C.fs.symm (own_rdB ho) C.fb (by rw [et]) l3 (by omega) C.fo C.rep
  rw [et] at R
  have e1 : bytesL (repO (geo1 m) f 3) ((3 + m) * 1024) = bytesL h ((3 + m) * 1024) := bytesL_congr C.out
  have e2 : unlike f (repO (geo1 m) f 3) (3 + m) = U := (unlike_congr (fun k hk => C.out k (by omega))).trans C.u
  rw [e1, e2] at R
  refine (rplines_c (geo1 m) (geo1_ok h8 h1000) G 0 ((3 + m) * 1024) cap f h U W ⟨geo1_ok h8 h1000, by rw [et], l3, by omega, own_rdB ho, C.fb⟩ (by omega) C.fo C.fs.symm C.ho C.hs.symm C.hb hT hUl hUp C.i1 C.d C.no R).mono ?_
  rintro e w' ⟨v, rfl, h1, h2⟩
  rw [C.w] at h1
  obtain ⟨A, c, rfl, h3⟩ := own_strs h1
  exact ⟨A, c, rfl, h3, h2⟩
end Go.Proofs.YtbeabehebenocaaGreatDoor
end

section
/- ReportOne: the example of the document; the guards. -/
namespace Go.Proofs.YtbeabehebenocaaGreatDoor
open Go.RowKit

set_option maxRecDepth 100000 in
set_option maxHeartbeats 4000000 in
theorem rpalive_c (w : World) (hT : TabG w) : Calls Tryz.prog 4 #[] w fun e w' => e = .returned (.bool true) ∧ Below w.heap.size w w' := by
  have MK := fun W => mkfs_c 8 (by decide) (by decide) W
  have RL := fun W base G cap hTW ho => caseX.lines (by decide) (by decide) (by decide) (by decide) W base G cap hTW ho
  rw [show (3 + 8) * 1024 = 11264 from rfl] at RL
  rw [show wantX.length = 3 from rfl] at RL
  have HMK := Lib.hid MK; have HRL := Lib.hid RL; have HT := Lib.hid hT
  clear MK RL hT
  go_enter Tryz.func4, Tryz.ntmps4
  go_wp2_with (first
    | (go_at_call 8; refine (HMK.out _).mono ?_; rintro e w1 ⟨G, cap, rfl, ho1, hb1⟩; obtain ⟨p1, p2⟩ := own_get ho1 (i := 2050) (by decide); obtain ⟨l1, l2, l3, l4⟩ := own_len ho1; unfold maxLen at l4; have HO1 := Lib.hid ho1; have HB1 := Lib.hid hb1; clear ho1 hb1)
    | fail)
  have o1 : (w1.setCell ⟨G, 2050, none⟩ (.int .u8 1)).ownsRow w.heap.size 5 1 (.slice (some ⟨G, 0, none⟩) 11264 cap) 11264 (bytesL exF 11264) := own_set HO1.out (i := 2050) (by decide) 1 rfl
  have hBs : Below w.heap.size w (w1.setCell ⟨G, 2050, none⟩ (.int .u8 1)) := HB1.out.setCell (p := ⟨G, 2050, none⟩) l1 _
  refine (HRL.out _ _ G cap (HT.out.below hBs) o1).mono ?_
  rintro e w2 ⟨A, c, rfl, hs2, hb2⟩
  obtain ⟨G2, rfl, g0⟩ := hs2 0 _ rfl
  obtain ⟨G3, e3, g1⟩ := hs2 1 _ rfl
  cases e3
  obtain ⟨G3, e3, g2⟩ := hs2 2 _ rfl
  cases e3
  have hB2 := hBs.trans (hb2.mono hBs.size)
  have HB2 := Lib.hid hB2
  clear o1 hBs hb2 hB2 p1 p2 hs2
  go_wp2
  go_ret
  exact ⟨rfl, HB2.out⟩

set_option maxRecDepth 100000 in
set_option maxHeartbeats 4000000 in
theorem one_bad (n i : Int) (w : World) (hT : TabG w) (hbad : n < 1 ∨ 9 < n) : Calls Tryz.prog 3 #[.int .i64 n, .int .i64 i] w fun e w' => e = .returned (.bool true) ∧ Below w.heap.size w w' := by
  have AL := rpalive_c w hT
  have HAL := Lib.hid AL
  clear AL hT
  by_cases h0 : n < 1
  · have d0 : decide (n < 1) = true := by simpa using h0
    clear hbad
    go_enter Tryz.func3, Tryz.ntmps3
    go_wp2_with (go_at_call 4; refine HAL.out.mono ?_; rintro e w1 ⟨rfl, hb1⟩)
    go_ret
    exact ⟨rfl, hb1⟩
  · have d0 : decide (n < 1) = false := by simpa using h0
    have h1 : 9 < n := by omega
    have d1 : decide (9 < n) = true := by simpa using h1
    clear hbad
    go_enter Tryz.func3, Tryz.ntmps3
    go_wp2_with (go_at_call 4; refine HAL.out.mono ?_; rintro e w1 ⟨rfl, hb1⟩)
    go_ret
    exact ⟨rfl, hb1⟩
end Go.Proofs.YtbeabehebenocaaGreatDoor
end

section
/- ReportOne: the arms. -/
namespace Go.Proofs.YtbeabehebenocaaGreatDoor
open Go.RowKit

set_option maxRecDepth 100000 in
set_option maxHeartbeats 4000000 in
theorem one_0 (n : Nat) (h1 : 1 ≤ n) (hn : n ≤ 9) (w : World) (hT : TabG w) : Calls Tryz.prog 3 #[.int .i64 n, .int .i64 0] w fun e w' => e = .returned (.bool true) ∧ Below w.heap.size w w' := by
  have AL := rpalive_c w hT
  have TR := fun W => tree_c n hn W
  have C := case0 n hn
  have RL := fun W base G cap hTW ho => C.lines (by decide) (by decide) (by decide) (by decide) W base G cap hTW ho
  rw [show (3 + 20) * 1024 = 23552 from rfl] at RL
  rw [show want0.length = 2 from rfl] at RL
  obtain ⟨f, hf⟩ : ∃ f, f = (stB (trF 20 n) 1090 16) := ⟨_, rfl⟩
  rw [← hf] at RL
  have HAL := Lib.hid AL; have HTR := Lib.hid TR; have HRL := Lib.hid RL; have HT := Lib.hid hT; have HF := Lib.hid hf
  have d0 : decide ((n : Int) < 1) = false := by simp; omega
  have d1 : decide (9 < (n : Int)) = false := by simp; omega
  clear AL TR RL hT hf C
  go_enter Tryz.func3, Tryz.ntmps3
  go_wp2_with (first
    | (go_at_call 4; refine HAL.out.mono ?_; rintro e w1 ⟨rfl, hb1⟩; have hz1 := hb1.size; have HB1 := Lib.hid hb1; clear hb1)
    | (go_at_call 5; refine (HTR.out _).mono ?_; rintro e w2 ⟨G, cap, rfl, ho2, hb2⟩; obtain ⟨p1, p2⟩ := own_get ho2 (i := 1090) (by decide); obtain ⟨l1, l2, l3, l4⟩ := own_len ho2; unfold maxLen at l4; have hz2 := hb2.size; have HO2 := Lib.hid ho2; have HB2 := Lib.hid hb2; clear ho2 hb2)
    | fail)
  have hB2 : Below w.heap.size w w2 := (HB1.out.alloc hz1 _).trans (HB2.out.mono (by simp; omega))
  have o3 : (w2.setCell ⟨G, 1090, none⟩ (.int .u8 16)).ownsRow (w1.heap.size + 1) 5 1 (.slice (some ⟨G, 0, none⟩) 23552 cap) 23552 (bytesL f 23552) := by
    rw [HF.out]
    have o2 := HO2.out
    rw [World.size_alloc] at o2
    exact own_set o2 (i := 1090) (by decide) 16 rfl
  have lG : w.heap.size ≤ G := by have := (own_len HO2.out).1; simp at this; omega
  have hB3 : Below w.heap.size w (w2.setCell ⟨G, 1090, none⟩ (.int .u8 16)) := hB2.setCell (p := ⟨G, 1090, none⟩) lG _
  obtain ⟨w3, hw3⟩ : ∃ W, W = (w2.setCell ⟨G, 1090, none⟩ (.int .u8 16)) := ⟨_, rfl⟩
  rw [← hw3] at o3 hB3 ⊢
  have k4 : Blk 9 (w3.alloc (.cells #[.string ⟨#[98, 108, 111, 99, 107, 32, 49, 32, 104, 101, 97, 100]⟩, .string ⟨#[100, 105, 114, 116, 121, 32, 49]⟩] 9)) w3.heap.size (want0.map Value.string) := Blk.newL (want0.map Value.string)
  obtain ⟨w4, hw4⟩ : ∃ W, W = w3.alloc (.cells #[.string ⟨#[98, 108, 111, 99, 107, 32, 49, 32, 104, 101, 97, 100]⟩, .string ⟨#[100, 105, 114, 116, 121, 32, 49]⟩] 9) := ⟨_, rfl⟩
  rw [← hw4] at k4 ⊢
  have hB34 : Below w3.heap.size w3 w4 := by rw [hw4]; exact (Below.refl _ _).alloc (Nat.le_refl _) _
  have hB4 := hB3.trans (hB34.mono hB3.size)
  have hr4 : w4.ownsRow (w1.heap.size + 1) 5 1 (.slice (some ⟨G, 0, none⟩) 23552 cap) 23552 (bytesL f 23552) := own_below o3 hB34
  refine (HRL.out _ _ G cap (HT.out.below hB4) hr4).mono ?_
  rintro e w5 ⟨A, c, rfl, hs5, hb5⟩
  have hB5 := hB4.trans (hb5.mono hB4.size)
  have ks := (strs_blk k4).below hb5 (Nat.le_refl _)
  have SM := sm_c want0 A (some ⟨w3.heap.size, 0, none⟩) c 2 w5 hs5 ks (by decide)
  rw [show want0.length = 2 from rfl] at SM
  have z3 : w3.heap.size = w2.heap.size := by rw [hw3]; simp
  rw [z3] at SM
  clear z3
  have HSM := Lib.hid SM; have HB5 := Lib.hid hB5
  clear SM hB5 hb5 hs5 ks p1 p2 hw3 hw4 o3 hB3 hr4 k4 hB34 hB4 hB2 lG
  go_wp2_with (go_at_call 6; refine HSM.out.mono ?_; rintro e w6 ⟨rfl, hb6⟩)
  go_ret
  exact ⟨rfl, HB5.out.trans (hb6.mono HB5.out.size)⟩
set_option maxRecDepth 100000 in
set_option maxHeartbeats 4000000 in
theorem one_1 (n : Nat) (h1 : 1 ≤ n) (hn : n ≤ 9) (w : World) (hT : TabG w) : Calls Tryz.prog 3 #[.int .i64 n, .int .i64 1] w fun e w' => e = .returned (.bool true) ∧ Below w.heap.size w w' := by
  have AL := rpalive_c w hT
  have TR := fun W => tree_c n hn W
  have C := case1 n hn h1
  have RL := fun W base G cap hTW ho => C.lines (by decide) (by decide) (by decide) (by decide) W base G cap hTW ho
  rw [show (3 + 20) * 1024 = 23552 from rfl] at RL
  rw [show want1.length = 3 from rfl] at RL
  obtain ⟨f, hf⟩ : ∃ f, f = (stB (trF 20 n) 2114 7) := ⟨_, rfl⟩
  rw [← hf] at RL
  have HAL := Lib.hid AL; have HTR := Lib.hid TR; have HRL := Lib.hid RL; have HT := Lib.hid hT; have HF := Lib.hid hf
  have d0 : decide ((n : Int) < 1) = false := by simp; omega
  have d1 : decide (9 < (n : Int)) = false := by simp; omega
  clear AL TR RL hT hf C
  go_enter Tryz.func3, Tryz.ntmps3
  go_wp2_with (first
    | (go_at_call 4; refine HAL.out.mono ?_; rintro e w1 ⟨rfl, hb1⟩; have hz1 := hb1.size; have HB1 := Lib.hid hb1; clear hb1)
    | (go_at_call 5; refine (HTR.out _).mono ?_; rintro e w2 ⟨G, cap, rfl, ho2, hb2⟩; obtain ⟨p1, p2⟩ := own_get ho2 (i := 2114) (by decide); obtain ⟨l1, l2, l3, l4⟩ := own_len ho2; unfold maxLen at l4; have hz2 := hb2.size; have HO2 := Lib.hid ho2; have HB2 := Lib.hid hb2; clear ho2 hb2)
    | fail)
  have hB2 : Below w.heap.size w w2 := (HB1.out.alloc hz1 _).trans (HB2.out.mono (by simp; omega))
  have o3 : (w2.setCell ⟨G, 2114, none⟩ (.int .u8 7)).ownsRow (w1.heap.size + 1) 5 1 (.slice (some ⟨G, 0, none⟩) 23552 cap) 23552 (bytesL f 23552) := by
    rw [HF.out]
    have o2 := HO2.out
    rw [World.size_alloc] at o2
    exact own_set o2 (i := 2114) (by decide) 7 rfl
  have lG : w.heap.size ≤ G := by have := (own_len HO2.out).1; simp at this; omega
  have hB3 : Below w.heap.size w (w2.setCell ⟨G, 2114, none⟩ (.int .u8 7)) := hB2.setCell (p := ⟨G, 2114, none⟩) lG _
  obtain ⟨w3, hw3⟩ : ∃ W, W = (w2.setCell ⟨G, 2114, none⟩ (.int .u8 7)) := ⟨_, rfl⟩
  rw [← hw3] at o3 hB3 ⊢
  have k4 : Blk 9 (w3.alloc (.cells #[.string ⟨#[98, 108, 111, 99, 107, 32, 50, 32, 105, 110, 111, 100, 101, 115]⟩, .string ⟨#[108, 105, 110, 107, 115, 32, 50, 32, 55, 32, 49]⟩, .string ⟨#[100, 105, 114, 116, 121, 32, 50]⟩] 9)) w3.heap.size (want1.map Value.string) := Blk.newL (want1.map Value.string)
  obtain ⟨w4, hw4⟩ : ∃ W, W = w3.alloc (.cells #[.string ⟨#[98, 108, 111, 99, 107, 32, 50, 32, 105, 110, 111, 100, 101, 115]⟩, .string ⟨#[108, 105, 110, 107, 115, 32, 50, 32, 55, 32, 49]⟩, .string ⟨#[100, 105, 114, 116, 121, 32, 50]⟩] 9) := ⟨_, rfl⟩
  rw [← hw4] at k4 ⊢
  have hB34 : Below w3.heap.size w3 w4 := by rw [hw4]; exact (Below.refl _ _).alloc (Nat.le_refl _) _
  have hB4 := hB3.trans (hB34.mono hB3.size)
  have hr4 : w4.ownsRow (w1.heap.size + 1) 5 1 (.slice (some ⟨G, 0, none⟩) 23552 cap) 23552 (bytesL f 23552) := own_below o3 hB34
  refine (HRL.out _ _ G cap (HT.out.below hB4) hr4).mono ?_
  rintro e w5 ⟨A, c, rfl, hs5, hb5⟩
  have hB5 := hB4.trans (hb5.mono hB4.size)
  have ks := (strs_blk k4).below hb5 (Nat.le_refl _)
  have SM := sm_c want1 A (some ⟨w3.heap.size, 0, none⟩) c 3 w5 hs5 ks (by decide)
  rw [show want1.length = 3 from rfl] at SM
  have z3 : w3.heap.size = w2.heap.size := by rw [hw3]; simp
  rw [z3] at SM
  clear z3
  have HSM := Lib.hid SM; have HB5 := Lib.hid hB5
  clear SM hB5 hb5 hs5 ks p1 p2 hw3 hw4 o3 hB3 hr4 k4 hB34 hB4 hB2 lG
  go_wp2_with (go_at_call 6; refine HSM.out.mono ?_; rintro e w6 ⟨rfl, hb6⟩)
  go_ret
  exact ⟨rfl, HB5.out.trans (hb6.mono HB5.out.size)⟩
set_option maxRecDepth 100000 in
set_option maxHeartbeats 4000000 in
theorem one_2 (n : Nat) (h1 : 1 ≤ n) (hn : n ≤ 9) (w : World) (hT : TabG w) : Calls Tryz.prog 3 #[.int .i64 n, .int .i64 2] w fun e w' => e = .returned (.bool true) ∧ Below w.heap.size w w' := by
  have AL := rpalive_c w hT
  have TR := fun W => tree_c n hn W
  have C := case2 n hn
  have RL := fun W base G cap hTW ho => C.lines (by decide) (by decide) (by decide) (by decide) W base G cap hTW ho
  rw [show (3 + 20) * 1024 = 23552 from rfl] at RL
  rw [show want2.length = 3 from rfl] at RL
  obtain ⟨f, hf⟩ : ∃ f, f = (stB (trF 20 n) 3008 1) := ⟨_, rfl⟩
  rw [← hf] at RL
  have HAL := Lib.hid AL; have HTR := Lib.hid TR; have HRL := Lib.hid RL; have HT := Lib.hid hT; have HF := Lib.hid hf
  have d0 : decide ((n : Int) < 1) = false := by simp; omega
  have d1 : decide (9 < (n : Int)) = false := by simp; omega
  clear AL TR RL hT hf C
  go_enter Tryz.func3, Tryz.ntmps3
  go_wp2_with (first
    | (go_at_call 4; refine HAL.out.mono ?_; rintro e w1 ⟨rfl, hb1⟩; have hz1 := hb1.size; have HB1 := Lib.hid hb1; clear hb1)
    | (go_at_call 5; refine (HTR.out _).mono ?_; rintro e w2 ⟨G, cap, rfl, ho2, hb2⟩; obtain ⟨p1, p2⟩ := own_get ho2 (i := 3008) (by decide); obtain ⟨l1, l2, l3, l4⟩ := own_len ho2; unfold maxLen at l4; have hz2 := hb2.size; have HO2 := Lib.hid ho2; have HB2 := Lib.hid hb2; clear ho2 hb2)
    | fail)
  have hB2 : Below w.heap.size w w2 := (HB1.out.alloc hz1 _).trans (HB2.out.mono (by simp; omega))
  have o3 : (w2.setCell ⟨G, 3008, none⟩ (.int .u8 1)).ownsRow (w1.heap.size + 1) 5 1 (.slice (some ⟨G, 0, none⟩) 23552 cap) 23552 (bytesL f 23552) := by
    rw [HF.out]
    have o2 := HO2.out
    rw [World.size_alloc] at o2
    exact own_set o2 (i := 3008) (by decide) 1 rfl
  have lG : w.heap.size ≤ G := by have := (own_len HO2.out).1; simp at this; omega
  have hB3 : Below w.heap.size w (w2.setCell ⟨G, 3008, none⟩ (.int .u8 1)) := hB2.setCell (p := ⟨G, 3008, none⟩) lG _
  obtain ⟨w3, hw3⟩ : ∃ W, W = (w2.setCell ⟨G, 3008, none⟩ (.int .u8 1)) := ⟨_, rfl⟩
  rw [← hw3] at o3 hB3 ⊢
  have k4 : Blk 9 (w3.alloc (.cells #[.string ⟨#[98, 108, 111, 99, 107, 32, 50, 32, 105, 110, 111, 100, 101, 115]⟩, .string ⟨#[108, 111, 115, 116, 32, 49, 54]⟩, .string ⟨#[100, 105, 114, 116, 121, 32, 50]⟩] 9)) w3.heap.size (want2.map Value.string) := Blk.newL (want2.map Value.string)
  obtain ⟨w4, hw4⟩ : ∃ W, W = w3.alloc (.cells #[.string ⟨#[98, 108, 111, 99, 107, 32, 50, 32, 105, 110, 111, 100, 101, 115]⟩, .string ⟨#[108, 111, 115, 116, 32, 49, 54]⟩, .string ⟨#[100, 105, 114, 116, 121, 32, 50]⟩] 9) := ⟨_, rfl⟩
  rw [← hw4] at k4 ⊢
  have hB34 : Below w3.heap.size w3 w4 := by rw [hw4]; exact (Below.refl _ _).alloc (Nat.le_refl _) _
  have hB4 := hB3.trans (hB34.mono hB3.size)
  have hr4 : w4.ownsRow (w1.heap.size + 1) 5 1 (.slice (some ⟨G, 0, none⟩) 23552 cap) 23552 (bytesL f 23552) := own_below o3 hB34
  refine (HRL.out _ _ G cap (HT.out.below hB4) hr4).mono ?_
  rintro e w5 ⟨A, c, rfl, hs5, hb5⟩
  have hB5 := hB4.trans (hb5.mono hB4.size)
  have ks := (strs_blk k4).below hb5 (Nat.le_refl _)
  have SM := sm_c want2 A (some ⟨w3.heap.size, 0, none⟩) c 3 w5 hs5 ks (by decide)
  rw [show want2.length = 3 from rfl] at SM
  have z3 : w3.heap.size = w2.heap.size := by rw [hw3]; simp
  rw [z3] at SM
  clear z3
  have HSM := Lib.hid SM; have HB5 := Lib.hid hB5
  clear SM hB5 hb5 hs5 ks p1 p2 hw3 hw4 o3 hB3 hr4 k4 hB34 hB4 hB2 lG
  go_wp2_with (go_at_call 6; refine HSM.out.mono ?_; rintro e w6 ⟨rfl, hb6⟩)
  go_ret
  exact ⟨rfl, HB5.out.trans (hb6.mono HB5.out.size)⟩
set_option maxRecDepth 100000 in
set_option maxHeartbeats 4000000 in
theorem one_3 (n : Nat) (h1 : 1 ≤ n) (hn : n ≤ 9) (w : World) (hT : TabG w) : Calls Tryz.prog 3 #[.int .i64 n, .int .i64 3] w fun e w' => e = .returned (.bool true) ∧ Below w.heap.size w w' := by
  have AL := rpalive_c w hT
  have TR := fun W => tree_c n hn W
  have C := case3 n hn
  have RL := fun W base G cap hTW ho => C.lines (by decide) (by decide) (by decide) (by decide) W base G cap hTW ho
  rw [show (3 + 20) * 1024 = 23552 from rfl] at RL
  rw [show want3.length = 3 from rfl] at RL
  obtain ⟨f, hf⟩ : ∃ f, f = (stB (trF 20 n) 3008 9) := ⟨_, rfl⟩
  rw [← hf] at RL
  have HAL := Lib.hid AL; have HTR := Lib.hid TR; have HRL := Lib.hid RL; have HT := Lib.hid hT; have HF := Lib.hid hf
  have d0 : decide ((n : Int) < 1) = false := by simp; omega
  have d1 : decide (9 < (n : Int)) = false := by simp; omega
  clear AL TR RL hT hf C
  go_enter Tryz.func3, Tryz.ntmps3
  go_wp2_with (first
    | (go_at_call 4; refine HAL.out.mono ?_; rintro e w1 ⟨rfl, hb1⟩; have hz1 := hb1.size; have HB1 := Lib.hid hb1; clear hb1)
    | (go_at_call 5; refine (HTR.out _).mono ?_; rintro e w2 ⟨G, cap, rfl, ho2, hb2⟩; obtain ⟨p1, p2⟩ := own_get ho2 (i := 3008) (by decide); obtain ⟨l1, l2, l3, l4⟩ := own_len ho2; unfold maxLen at l4; have hz2 := hb2.size; have HO2 := Lib.hid ho2; have HB2 := Lib.hid hb2; clear ho2 hb2)
    | fail)
  have hB2 : Below w.heap.size w w2 := (HB1.out.alloc hz1 _).trans (HB2.out.mono (by simp; omega))
  have o3 : (w2.setCell ⟨G, 3008, none⟩ (.int .u8 9)).ownsRow (w1.heap.size + 1) 5 1 (.slice (some ⟨G, 0, none⟩) 23552 cap) 23552 (bytesL f 23552) := by
    rw [HF.out]
    have o2 := HO2.out
    rw [World.size_alloc] at o2
    exact own_set o2 (i := 3008) (by decide) 9 rfl
  have lG : w.heap.size ≤ G := by have := (own_len HO2.out).1; simp at this; omega
  have hB3 : Below w.heap.size w (w2.setCell ⟨G, 3008, none⟩ (.int .u8 9)) := hB2.setCell (p := ⟨G, 3008, none⟩) lG _
  obtain ⟨w3, hw3⟩ : ∃ W, W = (w2.setCell ⟨G, 3008, none⟩ (.int .u8 9)) := ⟨_, rfl⟩
  rw [← hw3] at o3 hB3 ⊢
  have k4 : Blk 9 (w3.alloc (.cells #[.string ⟨#[98, 108, 111, 99, 107, 32, 50, 32, 105, 110, 111, 100, 101, 115]⟩, .string ⟨#[98, 97, 100, 32, 49, 54]⟩, .string ⟨#[100, 105, 114, 116, 121, 32, 50]⟩] 9)) w3.heap.size (want3.map Value.string) := Blk.newL (want3.map Value.string)
  obtain ⟨w4, hw4⟩ : ∃ W, W = w3.alloc (.cells #[.string ⟨#[98, 108, 111, 99, 107, 32, 50, 32, 105, 110, 111, 100, 101, 115]⟩, .string ⟨#[98, 97, 100, 32, 49, 54]⟩, .string ⟨#[100, 105, 114, 116, 121, 32, 50]⟩] 9) := ⟨_, rfl⟩
  rw [← hw4] at k4 ⊢
  have hB34 : Below w3.heap.size w3 w4 := by rw [hw4]; exact (Below.refl _ _).alloc (Nat.le_refl _) _
  have hB4 := hB3.trans (hB34.mono hB3.size)
  have hr4 : w4.ownsRow (w1.heap.size + 1) 5 1 (.slice (some ⟨G, 0, none⟩) 23552 cap) 23552 (bytesL f 23552) := own_below o3 hB34
  refine (HRL.out _ _ G cap (HT.out.below hB4) hr4).mono ?_
  rintro e w5 ⟨A, c, rfl, hs5, hb5⟩
  have hB5 := hB4.trans (hb5.mono hB4.size)
  have ks := (strs_blk k4).below hb5 (Nat.le_refl _)
  have SM := sm_c want3 A (some ⟨w3.heap.size, 0, none⟩) c 3 w5 hs5 ks (by decide)
  rw [show want3.length = 3 from rfl] at SM
  have z3 : w3.heap.size = w2.heap.size := by rw [hw3]; simp
  rw [z3] at SM
  clear z3
  have HSM := Lib.hid SM; have HB5 := Lib.hid hB5
  clear SM hB5 hb5 hs5 ks p1 p2 hw3 hw4 o3 hB3 hr4 k4 hB34 hB4 hB2 lG
  go_wp2_with (go_at_call 6; refine HSM.out.mono ?_; rintro e w6 ⟨rfl, hb6⟩)
  go_ret
  exact ⟨rfl, HB5.out.trans (hb6.mono HB5.out.size)⟩
set_option maxRecDepth 100000 in
set_option maxHeartbeats 4000000 in
theorem one_4 (n : Nat) (h1 : 1 ≤ n) (hn : n ≤ 9) (w : World) (hT : TabG w) : Calls Tryz.prog 3 #[.int .i64 n, .int .i64 4] w fun e w' => e = .returned (.bool true) ∧ Below w.heap.size w w' := by
  have AL := rpalive_c w hT
  have TR := fun W => tree_c n hn W
  have C := case4 n hn
  have RL := fun W base G cap hTW ho => C.lines (by decide) (by decide) (by decide) (by decide) W base G cap hTW ho
  rw [show (3 + 20) * 1024 = 23552 from rfl] at RL
  rw [show want4.length = 2 from rfl] at RL
  obtain ⟨f, hf⟩ : ∃ f, f = (stB (trF 20 n) 3872 16) := ⟨_, rfl⟩
  rw [← hf] at RL
  have HAL := Lib.hid AL; have HTR := Lib.hid TR; have HRL := Lib.hid RL; have HT := Lib.hid hT; have HF := Lib.hid hf
  have d0 : decide ((n : Int) < 1) = false := by simp; omega
  have d1 : decide (9 < (n : Int)) = false := by simp; omega
  clear AL TR RL hT hf C
  go_enter Tryz.func3, Tryz.ntmps3
  go_wp2_with (first
    | (go_at_call 4; refine HAL.out.mono ?_; rintro e w1 ⟨rfl, hb1⟩; have hz1 := hb1.size; have HB1 := Lib.hid hb1; clear hb1)
    | (go_at_call 5; refine (HTR.out _).mono ?_; rintro e w2 ⟨G, cap, rfl, ho2, hb2⟩; obtain ⟨p1, p2⟩ := own_get ho2 (i := 3872) (by decide); obtain ⟨l1, l2, l3, l4⟩ := own_len ho2; unfold maxLen at l4; have hz2 := hb2.size; have HO2 := Lib.hid ho2; have HB2 := Lib.hid hb2; clear ho2 hb2)
    | fail)
  have hB2 : Below w.heap.size w w2 := (HB1.out.alloc hz1 _).trans (HB2.out.mono (by simp; omega))
  have o3 : (w2.setCell ⟨G, 3872, none⟩ (.int .u8 16)).ownsRow (w1.heap.size + 1) 5 1 (.slice (some ⟨G, 0, none⟩) 23552 cap) 23552 (bytesL f 23552) := by
    rw [HF.out]
    have o2 := HO2.out
    rw [World.size_alloc] at o2
    exact own_set o2 (i := 3872) (by decide) 16 rfl
  have lG : w.heap.size ≤ G := by have := (own_len HO2.out).1; simp at this; omega
  have hB3 : Below w.heap.size w (w2.setCell ⟨G, 3872, none⟩ (.int .u8 16)) := hB2.setCell (p := ⟨G, 3872, none⟩) lG _
  obtain ⟨w3, hw3⟩ : ∃ W, W = (w2.setCell ⟨G, 3872, none⟩ (.int .u8 16)) := ⟨_, rfl⟩
  rw [← hw3] at o3 hB3 ⊢
  have k4 : Blk 9 (w3.alloc (.cells #[.string ⟨#[98, 108, 111, 99, 107, 32, 51, 32, 100, 105, 114, 101, 99, 116, 111, 114, 121]⟩, .string ⟨#[100, 105, 114, 116, 121, 32, 49]⟩] 9)) w3.heap.size (want4.map Value.string) := Blk.newL (want4.map Value.string)
  obtain ⟨w4, hw4⟩ : ∃ W, W = w3.alloc (.cells #[.string ⟨#[98, 108, 111, 99, 107, 32, 51, 32, 100, 105, 114, 101, 99, 116, 111, 114, 121]⟩, .string ⟨#[100, 105, 114, 116, 121, 32, 49]⟩] 9) := ⟨_, rfl⟩
  rw [← hw4] at k4 ⊢
  have hB34 : Below w3.heap.size w3 w4 := by rw [hw4]; exact (Below.refl _ _).alloc (Nat.le_refl _) _
  have hB4 := hB3.trans (hB34.mono hB3.size)
  have hr4 : w4.ownsRow (w1.heap.size + 1) 5 1 (.slice (some ⟨G, 0, none⟩) 23552 cap) 23552 (bytesL f 23552) := own_below o3 hB34
  refine (HRL.out _ _ G cap (HT.out.below hB4) hr4).mono ?_
  rintro e w5 ⟨A, c, rfl, hs5, hb5⟩
  have hB5 := hB4.trans (hb5.mono hB4.size)
  have ks := (strs_blk k4).below hb5 (Nat.le_refl _)
  have SM := sm_c want4 A (some ⟨w3.heap.size, 0, none⟩) c 2 w5 hs5 ks (by decide)
  rw [show want4.length = 2 from rfl] at SM
  have z3 : w3.heap.size = w2.heap.size := by rw [hw3]; simp
  rw [z3] at SM
  clear z3
  have HSM := Lib.hid SM; have HB5 := Lib.hid hB5
  clear SM hB5 hb5 hs5 ks p1 p2 hw3 hw4 o3 hB3 hr4 k4 hB34 hB4 hB2 lG
  go_wp2_with (go_at_call 6; refine HSM.out.mono ?_; rintro e w6 ⟨rfl, hb6⟩)
  go_ret
  exact ⟨rfl, HB5.out.trans (hb6.mono HB5.out.size)⟩
set_option maxRecDepth 100000 in
set_option maxHeartbeats 4000000 in
theorem one_5 (n : Nat) (h1 : 1 ≤ n) (hn : n ≤ 9) (w : World) (hT : TabG w) : Calls Tryz.prog 3 #[.int .i64 n, .int .i64 5] w fun e w' => e = .returned (.bool true) ∧ Below w.heap.size w w' := by
  have AL := rpalive_c w hT
  have TR := fun W => tree_c n hn W
  have C := case5 n hn h1
  have RL := fun W base G cap hTW ho => C.lines (by decide) (by decide) (by decide) (by decide) W base G cap hTW ho
  rw [show (3 + 20) * 1024 = 23552 from rfl] at RL
  rw [show want5.length = 3 from rfl] at RL
  obtain ⟨f, hf⟩ : ∃ f, f = (stB (trF 20 n) 2119 255) := ⟨_, rfl⟩
  rw [← hf] at RL
  have HAL := Lib.hid AL; have HTR := Lib.hid TR; have HRL := Lib.hid RL; have HT := Lib.hid hT; have HF := Lib.hid hf
  have d0 : decide ((n : Int) < 1) = false := by simp; omega
  have d1 : decide (9 < (n : Int)) = false := by simp; omega
  clear AL TR RL hT hf C
  go_enter Tryz.func3, Tryz.ntmps3
  go_wp2_with (first
    | (go_at_call 4; refine HAL.out.mono ?_; rintro e w1 ⟨rfl, hb1⟩; have hz1 := hb1.size; have HB1 := Lib.hid hb1; clear hb1)
    | (go_at_call 5; refine (HTR.out _).mono ?_; rintro e w2 ⟨G, cap, rfl, ho2, hb2⟩; obtain ⟨p1, p2⟩ := own_get ho2 (i := 2119) (by decide); obtain ⟨l1, l2, l3, l4⟩ := own_len ho2; unfold maxLen at l4; have hz2 := hb2.size; have HO2 := Lib.hid ho2; have HB2 := Lib.hid hb2; clear ho2 hb2)
    | fail)
  have hB2 : Below w.heap.size w w2 := (HB1.out.alloc hz1 _).trans (HB2.out.mono (by simp; omega))
  have o3 : (w2.setCell ⟨G, 2119, none⟩ (.int .u8 255)).ownsRow (w1.heap.size + 1) 5 1 (.slice (some ⟨G, 0, none⟩) 23552 cap) 23552 (bytesL f 23552) := by
    rw [HF.out]
    have o2 := HO2.out
    rw [World.size_alloc] at o2
    exact own_set o2 (i := 2119) (by decide) 255 rfl
  have lG : w.heap.size ≤ G := by have := (own_len HO2.out).1; simp at this; omega
  have hB3 : Below w.heap.size w (w2.setCell ⟨G, 2119, none⟩ (.int .u8 255)) := hB2.setCell (p := ⟨G, 2119, none⟩) lG _
  obtain ⟨w3, hw3⟩ : ∃ W, W = (w2.setCell ⟨G, 2119, none⟩ (.int .u8 255)) := ⟨_, rfl⟩
  rw [← hw3] at o3 hB3 ⊢
  have k4 : Blk 9 (w3.alloc (.cells #[.string ⟨#[98, 108, 111, 99, 107, 32, 50, 32, 105, 110, 111, 100, 101, 115]⟩, .string ⟨#[115, 105, 122, 101, 32, 50, 32, 52, 50, 55, 56, 49, 57, 48, 48, 57, 48, 32, 54, 55, 51, 55, 57, 50, 48, 48]⟩, .string ⟨#[100, 105, 114, 116, 121, 32, 50]⟩] 9)) w3.heap.size (want5.map Value.string) := Blk.newL (want5.map Value.string)
  obtain ⟨w4, hw4⟩ : ∃ W, W = w3.alloc (.cells #[.string ⟨#[98, 108, 111, 99, 107, 32, 50, 32, 105, 110, 111, 100, 101, 115]⟩, .string ⟨#[115, 105, 122, 101, 32, 50, 32, 52, 50, 55, 56, 49, 57, 48, 48, 57, 48, 32, 54, 55, 51, 55, 57, 50, 48, 48]⟩, .string ⟨#[100, 105, 114, 116, 121, 32, 50]⟩] 9) := ⟨_, rfl⟩
  rw [← hw4] at k4 ⊢
  have hB34 : Below w3.heap.size w3 w4 := by rw [hw4]; exact (Below.refl _ _).alloc (Nat.le_refl _) _
  have hB4 := hB3.trans (hB34.mono hB3.size)
  have hr4 : w4.ownsRow (w1.heap.size + 1) 5 1 (.slice (some ⟨G, 0, none⟩) 23552 cap) 23552 (bytesL f 23552) := own_below o3 hB34
  refine (HRL.out _ _ G cap (HT.out.below hB4) hr4).mono ?_
  rintro e w5 ⟨A, c, rfl, hs5, hb5⟩
  have hB5 := hB4.trans (hb5.mono hB4.size)
  have ks := (strs_blk k4).below hb5 (Nat.le_refl _)
  have SM := sm_c want5 A (some ⟨w3.heap.size, 0, none⟩) c 3 w5 hs5 ks (by decide)
  rw [show want5.length = 3 from rfl] at SM
  have z3 : w3.heap.size = w2.heap.size := by rw [hw3]; simp
  rw [z3] at SM
  clear z3
  have HSM := Lib.hid SM; have HB5 := Lib.hid hB5
  clear SM hB5 hb5 hs5 ks p1 p2 hw3 hw4 o3 hB3 hr4 k4 hB34 hB4 hB2 lG
  go_wp2_with (go_at_call 6; refine HSM.out.mono ?_; rintro e w6 ⟨rfl, hb6⟩)
  go_ret
  exact ⟨rfl, HB5.out.trans (hb6.mono HB5.out.size)⟩
set_option maxRecDepth 100000 in
set_option maxHeartbeats 4000000 in
theorem one_6 (n : Nat) (h1 : 1 ≤ n) (hn : n ≤ 9) (i : Int) (k0 : ((i : Int) == 0) = false) (k1 : ((i : Int) == 1) = false) (k2 : ((i : Int) == 2) = false) (k3 : ((i : Int) == 3) = false) (k4 : ((i : Int) == 4) = false) (k5 : ((i : Int) == 5) = false) (w : World) (hT : TabG w) : Calls Tryz.prog 3 #[.int .i64 n, .int .i64 i] w fun e w' => e = .returned (.bool true) ∧ Below w.heap.size w w' := by
  have AL := rpalive_c w hT
  have TR := fun W => tree_c n hn W
  have C := caseC n hn
  have RL := fun W base G cap hTW ho => C.lines (by decide) (by decide) (by decide) (by decide) W base G cap hTW ho
  rw [show (3 + 20) * 1024 = 23552 from rfl] at RL
  rw [show wantC.length = 1 from rfl] at RL
  obtain ⟨f, hf⟩ : ∃ f, f = (trF 20 n) := ⟨_, rfl⟩
  rw [← hf] at RL
  have HAL := Lib.hid AL; have HTR := Lib.hid TR; have HRL := Lib.hid RL; have HT := Lib.hid hT; have HF := Lib.hid hf
  have d0 : decide ((n : Int) < 1) = false := by simp; omega
  have d1 : decide (9 < (n : Int)) = false := by simp; omega
  clear AL TR RL hT hf C
  go_enter Tryz.func3, Tryz.ntmps3
  go_wp2_with (first
    | (go_at_call 4; refine HAL.out.mono ?_; rintro e w1 ⟨rfl, hb1⟩; have hz1 := hb1.size; have HB1 := Lib.hid hb1; clear hb1)
    | (go_at_call 5; refine (HTR.out _).mono ?_; rintro e w2 ⟨G, cap, rfl, ho2, hb2⟩; obtain ⟨l1, l2, l3, l4⟩ := own_len ho2; unfold maxLen at l4; have hz2 := hb2.size; have HO2 := Lib.hid ho2; have HB2 := Lib.hid hb2; clear ho2 hb2)
    | fail)
  have hB2 : Below w.heap.size w w2 := (HB1.out.alloc hz1 _).trans (HB2.out.mono (by simp; omega))
  have o3 : w2.ownsRow (w1.heap.size + 1) 5 1 (.slice (some ⟨G, 0, none⟩) 23552 cap) 23552 (bytesL f 23552) := by
    rw [HF.out]
    have o2 := HO2.out
    rw [World.size_alloc] at o2
    exact o2
  have lG : w.heap.size ≤ G := by have := (own_len HO2.out).1; simp at this; omega
  have hB3 : Below w.heap.size w w2 := hB2
  obtain ⟨w3, hw3⟩ : ∃ W, W = w2 := ⟨_, rfl⟩
  rw [← hw3] at o3 hB3 ⊢
  have k4 : Blk 9 (w3.alloc (.cells #[.string ⟨#[99, 108, 101, 97, 110]⟩] 9)) w3.heap.size (wantC.map Value.string) := Blk.newL (wantC.map Value.string)
  obtain ⟨w4, hw4⟩ : ∃ W, W = w3.alloc (.cells #[.string ⟨#[99, 108, 101, 97, 110]⟩] 9) := ⟨_, rfl⟩
  rw [← hw4] at k4 ⊢
  have hB34 : Below w3.heap.size w3 w4 := by rw [hw4]; exact (Below.refl _ _).alloc (Nat.le_refl _) _
  have hB4 := hB3.trans (hB34.mono hB3.size)
  have hr4 : w4.ownsRow (w1.heap.size + 1) 5 1 (.slice (some ⟨G, 0, none⟩) 23552 cap) 23552 (bytesL f 23552) := own_below o3 hB34
  refine (HRL.out _ _ G cap (HT.out.below hB4) hr4).mono ?_
  rintro e w5 ⟨A, c, rfl, hs5, hb5⟩
  have hB5 := hB4.trans (hb5.mono hB4.size)
  have ks := (strs_blk k4).below hb5 (Nat.le_refl _)
  have SM := sm_c wantC A (some ⟨w3.heap.size, 0, none⟩) c 1 w5 hs5 ks (by decide)
  rw [show wantC.length = 1 from rfl] at SM
  have HSM := Lib.hid SM; have HB5 := Lib.hid hB5
  clear SM hB5 hb5 hs5 ks hw3 hw4 o3 hB3 hr4 k4 hB34 hB4 hB2 lG
  go_wp2_with (go_at_call 6; refine HSM.out.mono ?_; rintro e w6 ⟨rfl, hb6⟩)
  go_ret
  exact ⟨rfl, HB5.out.trans (hb6.mono HB5.out.size)⟩
theorem one_any (n i : Int) (w : World) (hT : TabG w) : Calls Tryz.prog 3 #[.int .i64 n, .int .i64 i] w fun e w' => e = .returned (.bool true) ∧ Below w.heap.size w w' := by
  by_cases hb : n < 1 ∨ 9 < n
  · exact one_bad n i w hT hb
  · obtain ⟨n, rfl⟩ : ∃ m : Nat, n = m := ⟨n.toNat, by omega⟩
    by_cases e0 : i = 0
    · subst e0; exact one_0 n (by omega) (by omega) w hT
    by_cases e1 : i = 1
    · subst e1; exact one_1 n (by omega) (by omega) w hT
    by_cases e2 : i = 2
    · subst e2; exact one_2 n (by omega) (by omega) w hT
    by_cases e3 : i = 3
    · subst e3; exact one_3 n (by omega) (by omega) w hT
    by_cases e4 : i = 4
    · subst e4; exact one_4 n (by omega) (by omega) w hT
    by_cases e5 : i = 5
    · subst e5; exact one_5 n (by omega) (by omega) w hT
    exact one_6 n (by omega) (by omega) i (by simpa using e0) (by simpa using e1) (by simpa using e2) (by simpa using e3) (by simpa using e4) (by simpa using e5) w hT
end Go.Proofs.YtbeabehebenocaaGreatDoor
end

section
/- ReportOne answers true whatever its input, and its input reads as it did. No condition beyond the tables. -/
namespace Go.Proofs.YtbeabehebenocaaGreatDoor
open Go.ChangeShapes Go.WideShapes Go.ChangeAt Go.RowKit
set_option maxRecDepth 100000

abbrev laidL : List (String × DataW Unit) := [("math/bits.deBruijn32tab", Rows.laid_math_bits_deBruijn32tab), ("math/bits.deBruijn64tab", Rows.laid_math_bits_deBruijn64tab), ("internal/strconv.uint64pow10", Rows.laid_internal_strconv_uint64pow10)]
theorem tab_of {w : World} (hL : laidMet Tryz.prog laidL w) : TabG w :=
  Lib.tabIs_of_head (g := 0) (t := 149) (e := 142) (n := 20) (rest := []) (by kernel_rfl) (by kernel_rfl) (by kernel_rfl) (by kernel_rfl) (by kernel_rfl) (by kernel_rfl) hL.tail.tail

/-! ### one start that fits -/
def cellsOfLaid : DataW Unit → Array Value
  | .agg ds => (ds.map fun | .lit (.int k z) => Value.int k z | _ => .nilFunc).toArray
  | _ => #[]
noncomputable def laidWorld (os : Os) : World :=
  let w0 := World.holding Tryz.prog os ⟨#[], #[], []⟩
  let put := fun (h : Array Obj) (g : Nat) (cs : Array Value) => h.modify g fun
      | .cells _ t frozen => .cells cs t frozen
      | o => o
  { w0 with heap := put (put (put w0.heap 0 (cellsOfLaid Rows.laid_internal_strconv_uint64pow10)) 1 (cellsOfLaid Rows.laid_math_bits_deBruijn32tab)) 2 (cellsOfLaid Rows.laid_math_bits_deBruijn64tab) }

theorem oneLifted (os : Os) (started : os.Started) (H : Type) (enc : TypeId × Value → H) :
    ReturnsInHanded {} Tryz.checked os 3 .any (fun w args => (Rows.reportOneSpec.pre enc Tryz.prog Tryz.f3 Rows.reportOneRow.domain false w args ∧ laidMet Tryz.prog laidL w) ∧ sizedMet enc Tryz.prog Tryz.f3 (OpenSpec.ofChange Rows.reportOneSpec) false w args)
      (Rows.reportOneSpec.post enc Tryz.prog Tryz.f3 false true false false) := by
  refine returnsInHanded_of_change_and (C := Tryz.checked) (X := fun w _ => laidMet Tryz.prog laidL w) (fun _ _ _ hh h => h.of_heap hh) ownKnobNone started (by kernel_rfl) Tryz.func3
    (ChangeSpec.witness_at (enc := enc) (C := Tryz.checked) (os := os) (X := fun w _ => laidMet Tryz.prog laidL w) false (laidWorld os) #[.int .i64 0, .int .i64 0] 8 rfl (by kernel_rfl) (by kernel_rfl) (by kernel_rfl) (by kernel_rfl) (by kernel_rfl) (laidMet_of_run' 8 (by kernel_rfl) (by kernel_rfl))) ?_
  intro W base args ds gs before hval0 hW _ _ hL _
  have hval : ∀ (j : Nat) t v, Tryz.f3.params[j]? = some t → args[j]? = some v → Value.okWide Tryz.prog W .any base t v := hval0
  have hW' := hW
  obtain ⟨p, q, hA0, hV, rfl, hfz, hnd⟩ := hW
  have hA : DataW.TrodAll enc Tryz.prog W 0 (fun _ => true) true Tryz.f3.params.toList args.toList ds p := hA0
  rw [Tryz.params3] at hA hval
  obtain ⟨v0, vs0, d0, ds0, p0, q0, hargs, rfl, rfl, h0, r0⟩ := trodAll_cons hA
  obtain ⟨v1, vs1, d1, ds1, p1, q1, rfl, rfl, rfl, h1, r1⟩ := trodAll_cons r0
  obtain ⟨rfl, rfl, rfl⟩ := trodAll_nil r1
  obtain rfl : args = #[v0, v1] := by cases args; simp_all
  obtain ⟨rfl, rfl⟩ := trodVars_none hV
  obtain ⟨x0, rfl, rfl, rfl, wx0⟩ := open_int Tryz.underlying3 (hval 0 3 v0 rfl rfl) h0
  obtain ⟨x1, rfl, rfl, rfl, wx1⟩ := open_int Tryz.underlying3 (hval 1 3 v1 rfl rfl) h1
  clear hA0 hval0
  simp only [List.append_nil] at hW'
  refine (one_any x0 x1 W (tab_of hL)).mono fun e W' ⟨he, hb⟩ => ?_
  subst he
  refine ⟨_, rfl, still_post (pa := _) hW' hb (fun _ _ _ => trodAll_mk1 (shut_bool Tryz.underlying4 true)) (fun sp hsp => ?_) (fun _ _ => rfl) (ok_one (by kernel_rfl) rfl (okWide_bool_mk Tryz.underlying4 true))⟩
  exact trodAll_mk2 (p := []) (p' := []) (shut_int Tryz.underlying3 wx0) (shut_int Tryz.underlying3 wx1)

theorem one_said : Rows.ReportOneSaid :=
  OpenClaim.holds_of_wide 3 Tryz.f3 rfl rfl rfl rfl rfl rfl rfl ⟨rfl, rfl, rfl, rfl, rfl⟩ rfl rfl rfl rfl rfl (by kernel_rfl) Tryz.func3 (by kernel_rfl)
    (of_decide_eq_true (by kernel_rfl)) (by unfold Func.isWrapper; first | (rw [if_pos (by decide +kernel)]; kernel_rfl) | (rw [if_neg (by decide +kernel)]; exact ⟨rfl, rfl⟩))
    (fun os started H enc _ => oneLifted os started H enc)
end Go.Proofs.YtbeabehebenocaaGreatDoor
end
