/- Part of the road to RpCard: RefD, RefE, RefF, Img, RDm, As, Put, Whole. -/
import Derived.Lib.AppendStr
import Derived.RangeFuncNested
import Derived.Test.YtbeabehebenocaaGreatDoorRpo04
import Derived.Test.YtbeabehebenocaaGreatDoorRpo03
import Derived.Test.YtbeabehebenocaaGreatDoorRpo01
set_option linter.all false
set_option linter.unusedSimpArgs false
set_option linter.unusedVariables false
set_option linter.unusedSectionVars false
section
/- The reference's inodes, packed. -/
namespace Go.Proofs.YtbeabehebenocaaGreatDoor
open Go.RowKit

set_option maxRecDepth 100000 in
set_option maxHeartbeats 4000000 in
theorem rpino_c (i : InoN) (hr : InoR i) (hk : i 0 ≠ 0 ∧ i 0 ≤ 2) (w : World) :
    Calls Tryz.prog 11 #[inoV i] w fun e w' => ∃ G cap, e = .returned (.tuple #[.slice (some ⟨G, 0, none⟩) 64 cap, .bool true]) ∧ w'.ownsRow w.heap.size 5 1 (.slice (some ⟨G, 0, none⟩) 64 cap) 64 (bytesL (inoF i) 64) ∧ Below w.heap.size w w' := by
  obtain ⟨hk0, hk2⟩ := hk
  have l1 := hr.l; have l2 := hr.s
  have l11 := hr.p 11 (by omega) (by omega); have l12 := hr.p 12 (by omega) (by omega)
  have HR := Lib.hid hr
  have e02 : bytesL (catF 0 (fun _ => 0) (byteN (i 0))) (0 + 2) = bytesL (byteN (i 0)) 2 := bytesL_congr fun k _ => by simp [catF]
  have d0 : decide ((i 0 : Int) < 0) = false := by simp
  have d1 : decide ((2 : Int) < (i 0 : Int)) = false := by simp; omega
  have d2 : (((i 0 : Nat) : Int) == 0) = false := by simp; omega
  have bx := inoL_new w i 40
  obtain ⟨c0, c1, c2, c3, c4, c5, c6, c7, c8, c9, c10, c11, c12⟩ := cells13 bx
  have F2 := rfits2_c (i 1) l1
  have F4a := rfits4_c (i 2) l2
  have F4b := rfits4_c (i 11) l11
  have F4c := rfits4_c (i 12) l12
  have HF2 := Lib.hid F2; have HFa := Lib.hid F4a; have HFb := Lib.hid F4b; have HFc := Lib.hid F4c; have HBX := Lib.hid bx
  unfold inoV
  clear hr F2 F4a F4b F4c bx c3 c4 c5 c6 c7 c8 c9 c10
  go_enter Tryz.func11, Tryz.ntmps11
  go_wp2_with (go_at_call 23; first
    | (with_reducible refine (HF2.out _).mono ?_; rintro e w1 ⟨rfl, rfl⟩)
    | (with_reducible refine (HFa.out _).mono ?_; rintro e w1 ⟨rfl, rfl⟩)
    | (with_reducible refine (HFb.out _).mono ?_; rintro e w1 ⟨rfl, rfl⟩)
    | (with_reducible refine (HFc.out _).mono ?_; rintro e w1 ⟨rfl, rfl⟩))
  have hk0 := HBX.out.drew
  have hB0 : Below w.heap.size w (w.alloc (.cells #[.int .i64 (i 0 : Nat), .int .i64 (i 1 : Nat), .int .i64 (i 2 : Nat), .int .i64 (i 3 : Nat), .int .i64 (i 4 : Nat), .int .i64 (i 5 : Nat), .int .i64 (i 6 : Nat), .int .i64 (i 7 : Nat), .int .i64 (i 8 : Nat), .int .i64 (i 9 : Nat), .int .i64 (i 10 : Nat), .int .i64 (i 11 : Nat), .int .i64 (i 12 : Nat)] 40)).drew := ((Below.refl _ w).alloc (Nat.le_refl _) _).drew
  have hs0 : w.heap.size + 1 ≤ (w.alloc (.cells #[.int .i64 (i 0 : Nat), .int .i64 (i 1 : Nat), .int .i64 (i 2 : Nat), .int .i64 (i 3 : Nat), .int .i64 (i 4 : Nat), .int .i64 (i 5 : Nat), .int .i64 (i 6 : Nat), .int .i64 (i 7 : Nat), .int .i64 (i 8 : Nat), .int .i64 (i 9 : Nat), .int .i64 (i 10 : Nat), .int .i64 (i 11 : Nat), .int .i64 (i 12 : Nat)] 40)).drew.heap.size := by simp
  refine wp_region_held_drew (S := (fun w' => w'.cell? ⟨w.heap.size, 0, none⟩ = some (.int .i64 (i 0 : Nat)) ∧ w'.cell? ⟨w.heap.size, 1, none⟩ = some (.int .i64 (i 1 : Nat)) ∧ w'.cell? ⟨w.heap.size, 2, none⟩ = some (.int .i64 (i 2 : Nat)))) (by kernel_rfl) ⟨hk0.cell 0, hk0.cell 1, hk0.cell 2⟩ (fun hHeld => ?_)
  refine tkA (i := 0) (oi := ⟨_, _, _, _, _, _⟩) ?_
  simp only [putA, List.set]
  refine tkA (i := 1) (oi := ⟨_, _, _, _, _, _⟩) ?_
  simp only [putA, List.set]
  refine tkA (i := 3) (oi := ⟨_, _, _, _, _, _⟩) ?_
  simp only [putA, List.set]
  refine tkA (i := 4) (oi := ⟨_, _, _, _, _, _⟩) ?_
  simp only [putA, List.set]
  refine tkA (i := 6) (oi := ⟨_, _, _, _, _, _⟩) ?_
  simp only [putA, List.set]
  refine tkA (i := 7) (oi := ⟨_, _, _, _, _, _⟩) ?_
  simp only [putA, List.set]
  generalize (w.alloc (.cells #[.int .i64 (i 0 : Nat), .int .i64 (i 1 : Nat), .int .i64 (i 2 : Nat), .int .i64 (i 3 : Nat), .int .i64 (i 4 : Nat), .int .i64 (i 5 : Nat), .int .i64 (i 6 : Nat), .int .i64 (i 7 : Nat), .int .i64 (i 8 : Nat), .int .i64 (i 9 : Nat), .int .i64 (i 10 : Nat), .int .i64 (i 11 : Nat), .int .i64 (i 12 : Nat)] 40)).drew = W0 at hk0 hB0 hs0 hHeld ⊢
  refine wpAnyH_ready (rs := [2]) (by kernel_rfl) (by simp) ?_
  refine AllReadyH.cons rfl (fun K hK => ?_) AllReadyH.nil
  go_simp
  go_at_call 24
  refine (rput2_c (w.heap.size + 1) (0) (i 0) 2 _ (fun _ => 0) _ (by omega) (by omega) (by omega) (by omega) (by omega) (.inl (World.ownsRow_nil _ _ _ _))).mono ?_
  rintro e w2 ⟨v2, rfl, ho2, hs2, hm2⟩
  have hz2 := hm2.size
  have hB2 := Below.mods hB0 hm2 (fun i hi e => (by cases e)) (by omega)
  have hk2 := hk0.mods hm2 (fun e => (by cases e))
  rw [e02] at ho2
  go_simp
  refine hK.out _ _ ?_ (fun hHeld => ?_)
  · exact ⟨hk2.cell 0, hk2.cell 1, hk2.cell 2⟩
  clear hK K
  refine wpAnyH_ready (rs := [5]) (by kernel_rfl) (by simp) ?_
  refine AllReadyH.cons rfl (fun K hK => ?_) AllReadyH.nil
  go_simp
  go_at_call 24
  refine (rput2_c (w.heap.size + 1) (2) (i 1) 2 _ (byteN (i 0)) _ (by omega) (by omega) (by omega) (by omega) (by omega) (.inl ho2)).mono ?_
  rintro e w5 ⟨v5, rfl, ho5, hs5, hm5⟩
  have hz5 := hm5.size
  have hB5 := Below.mods hB2 hm5 (fun i hi e => (by have h0 := own_base ho2 _ e; omega)) (by omega)
  have hk5 := hk2.mods hm5 (fun e => (by have h0 := own_base ho2 _ e; omega))
  go_simp
  refine hK.out _ _ ?_ (fun hHeld => ?_)
  · exact ⟨hk5.cell 0, hk5.cell 1, hk5.cell 2⟩
  clear hK K
  refine wpAnyH_ready (rs := [8]) (by kernel_rfl) (by simp) ?_
  refine AllReadyH.cons rfl (fun K hK => ?_) AllReadyH.nil
  go_simp
  go_at_call 24
  refine (rput2_c (w.heap.size + 1) (4) (i 2) 4 _ (catF 2 (byteN (i 0)) (byteN (i 1))) _ (by omega) (by omega) (by omega) (by omega) (by omega) (.inl ho5)).mono ?_
  rintro e w8 ⟨v8, rfl, ho8, hs8, hm8⟩
  have hz8 := hm8.size
  have hB8 := Below.mods hB5 hm8 (fun i hi e => (by have h0 := own_base ho5 _ e; omega)) (by omega)
  have hk8 := hk5.mods hm8 (fun e => (by have h0 := own_base ho5 _ e; omega))
  go_simp
  refine hK.out _ _ ?_ (fun hHeld => ?_)
  · exact ⟨hk8.cell 0, hk8.cell 1, hk8.cell 2⟩
  clear hK K
  refine tkA (i := 9) (oi := ⟨_, _, _, _, _, _⟩) ?_
  simp only [putA, List.set]
  refine wpAnyH_done (by kernel_rfl) ?_ _
  have hzz : w.heap.size + 1 ≤ w8.heap.size := by omega
  replace ho8 : w8.ownsRow (w.heap.size + 1) 5 1 v8 8 (bytesL (inoK i 0) 8) := ho8
  have lk8 := hk8.lt
  clear hHeld hk0 hk2 hk5 hB0 hB2 hB5 hm2 hm5 hm8 hs2 hs5 hs8 ho2 ho5 hs0 hz2 hz5 hz8 c0 c1 c2 c11 c12 d0 d1 d2
  obtain ⟨g8, cap8, rfl⟩ := own_has ho8 (by omega)
  go_wp2
  go_loopw [4, 5] (fun v j' wr => ∃ (j G cap : Nat), j ≤ 8 ∧ j' = .int .i64 j ∧ v = .slice (some ⟨G, 0, none⟩) (8 + 4 * j) cap ∧ wr.ownsRow (w.heap.size + 1) 5 1 (.slice (some ⟨G, 0, none⟩) (8 + 4 * j) cap) (8 + 4 * j) (bytesL (inoK i j) (8 + 4 * j)) ∧ Blk 40 wr w.heap.size (inoL i) ∧ Below w.heap.size w wr ∧ w.heap.size + 1 ≤ wr.heap.size) (fun _ j' _ => 8 - (intOf j').toNat)
  case atStart => exact ⟨0, _, _, by omega, rfl, rfl, ho8, hk8, hB8, hzz⟩
  case round =>
    obtain ⟨j, G, cap, hj, rfl, rfl, ho, hkb, hBw, hzw⟩ := hrel
    by_cases hlt : j < 8
    · have hc := hkb.cell (3 + j)
      rw [inoL_get _ _ (by omega)] at hc
      have lp := HR.out.p (3 + j) (by omega) (by omega)
      have F4 := rfits4_c (i (3 + j)) lp
      have RP := fun W hW hO => rput2_c (w.heap.size + 1) (8 + 4 * j) (i (3 + j)) 4 (.slice (some ⟨G, 0, none⟩) (8 + 4 * j) cap) (inoK i j) W (by omega) (by omega) lp (by omega) hW hO
      have HF4 := Lib.hid F4; have HRP := Lib.hid RP; have HO := Lib.hid ho; have HK := Lib.hid hkb; have HBW := Lib.hid hBw
      have lkb := hkb.lt
      clear F4 RP ho hkb hBw
      go_wp2_with (first
        | (go_at_call 23; refine (HF4.out _).mono ?_; rintro e w1 ⟨rfl, rfl⟩)
        | (go_at_call 24; refine (HRP.out _ hzw (.inl HO.out)).mono ?_; rintro e w3 ⟨v3, rfl, ho3, hs3, hm3⟩))
      go_roundw
      case rel =>
        obtain ⟨g3, cap3, rfl⟩ := own_has ho3 (by omega)
        have hz3 := hm3.size
        exact ⟨j + 1, g3, cap3, by omega, by go_num, rfl, ho3, HK.out.mods hm3 (fun e => by have h0 := own_base HO.out _ e; omega), Below.mods HBW.out hm3 (fun q hq e => by have h0 := own_base HO.out _ e; omega) (by omega), by omega⟩
      case measure => simp [intOf]; omega
    · obtain rfl : j = 8 := by omega
      have HO := Lib.hid ho; have HBW := Lib.hid hBw
      have e11 := hkb.cell 11; have e12 := hkb.cell 12
      rw [inoL_get _ _ (by omega)] at e11 e12
      have l9 := hkb.lt
      clear ho hlt
      go_wp2
      refine wp_region_held_drew (S := (fun w' => w'.cell? ⟨w.heap.size, 11, none⟩ = some (.int .i64 (i 11 : Nat)) ∧ w'.cell? ⟨w.heap.size, 12, none⟩ = some (.int .i64 (i 12 : Nat)))) (by kernel_rfl) ⟨e11, e12⟩ (fun hHeld => ?_)
      refine tkA (i := 0) (oi := ⟨_, _, _, _, _, _⟩) ?_
      simp only [putA, List.set]
      refine tkA (i := 1) (oi := ⟨_, _, _, _, _, _⟩) ?_
      simp only [putA, List.set]
      refine tkA (i := 2) (oi := ⟨_, _, _, _, _, _⟩) ?_
      simp only [putA, List.set]
      refine tkA (i := 4) (oi := ⟨_, _, _, _, _, _⟩) ?_
      simp only [putA, List.set]
      refine tkA (i := 5) (oi := ⟨_, _, _, _, _, _⟩) ?_
      simp only [putA, List.set]
      have hk0 := hkb.drew
      have hB0 := hBw.drew
      have HO2 := own_below HO.out (Below.refl _ wr).drew
      have hs0 : w.heap.size + 1 ≤ wr.drew.heap.size := hzw
      clear hkb hBw
      generalize wr.drew = W0 at hk0 hB0 hs0 HO2 hHeld ⊢
      refine wpAnyH_ready (rs := [3]) (by kernel_rfl) (by simp) ?_
      refine AllReadyH.cons rfl (fun K hK => ?_) AllReadyH.nil
      go_simp
      go_at_call 24
      refine (rput2_c (w.heap.size + 1) (40) (i 11) 4 _ (inoK i 8) _ (by omega) (by omega) (by omega) (by omega) (by omega) (.inl HO2)).mono ?_
      rintro e w3 ⟨v3, rfl, ho3, hs3, hm3⟩
      have hz3 := hm3.size
      have hB3 := Below.mods hB0 hm3 (fun i hi e => (by have h0 := own_base HO2 _ e; omega)) (by omega)
      have hk3 := hk0.mods hm3 (fun e => (by have h0 := own_base HO2 _ e; omega))
      go_simp
      refine hK.out _ _ ?_ (fun hHeld => ?_)
      · exact ⟨hk3.cell 11, hk3.cell 12⟩
      clear hK K
      refine wpAnyH_ready (rs := [6]) (by kernel_rfl) (by simp) ?_
      refine AllReadyH.cons rfl (fun K hK => ?_) AllReadyH.nil
      go_simp
      go_at_call 24
      refine (rput2_c (w.heap.size + 1) (44) (i 12) 4 _ (inoK i 9) _ (by omega) (by omega) (by omega) (by omega) (by omega) (.inl ho3)).mono ?_
      rintro e w6 ⟨v6, rfl, ho6, hs6, hm6⟩
      have hz6 := hm6.size
      have hB6 := Below.mods hB3 hm6 (fun i hi e => (by have h0 := own_base ho3 _ e; omega)) (by omega)
      have hk6 := hk3.mods hm6 (fun e => (by have h0 := own_base ho3 _ e; omega))
      go_simp
      refine hK.out _ _ ?_ (fun hHeld => ?_)
      · exact ⟨hk6.cell 11, hk6.cell 12⟩
      clear hK K
      refine wpAnyH_ready (rs := [7]) (by kernel_rfl) (by simp) ?_
      refine AllReadyH.cons rfl (fun K hK => ?_) AllReadyH.nil
      go_simp
      go_at_call 25
      refine (rfill_c (w.heap.size + 1) 48 64 _ (inoK i 10) _ (by omega) (by omega) (by omega) (by omega) ho6).mono ?_
      rintro e w7 ⟨v7, rfl, ho7, hs7, hm7⟩
      have hz7 := hm7.size
      have hB7 := Below.mods hB6 hm7 (fun q hq e => by have h0 := own_base ho6 _ e; omega) (by omega)
      have hk7 := hk6.mods hm7 (fun e => by have h0 := own_base ho6 _ e; omega)
      go_simp
      refine hK.out _ _ ?_ (fun hHeld => ?_)
      · exact ⟨hk7.cell 11, hk7.cell 12⟩
      clear hK K
      refine tkA (i := 8) (oi := ⟨_, _, _, _, _, _⟩) ?_
      simp only [putA, List.set]
      refine tkA (i := 9) (oi := ⟨_, _, _, _, _, _⟩) ?_
      simp only [putA, List.set]
      refine wpAnyH_done (by kernel_rfl) ?_ _
      obtain ⟨g7, cap7, rfl⟩ := own_has ho7 (by omega)
      have HO7 := Lib.hid ho7; have HB7 := Lib.hid hB7
      clear hHeld hk0 hk3 hk6 hk7 hB0 hB3 hB6 hB7 hm3 hm6 hm7 hs3 hs6 hs7 ho3 ho6 ho7 HO2
      go_wp2
      go_ret2
      exact ⟨_, _, rfl, own_mono HO7.out (by omega), HB7.out⟩
end Go.Proofs.YtbeabehebenocaaGreatDoor
end

section
/- The reference's entries, packed. -/
namespace Go.Proofs.YtbeabehebenocaaGreatDoor
open Go.RowKit
open Go.Lib (byteCells byteCells_length)

theorem strCells_chr (s : ByteArray) : Lib.strCells s = bytesL (chr s) s.size := byteCells_chr s
/-- append(b, s...) of a string, at a step of a region that draws its order -/
theorem step_app_str {P : Program} {ops : Array Oper} {o : Oper} {a : Act} {w : World} {K : Act → World → Prop} {Q : Exit → Act → World → Prop} {E : Prop} (hgd : o.guard = none) (sl x : Operand) (t u : TypeId)
    (ho : o.op = .call { callee := .builtin .append, args := #[sl, x], argTypes := #[t, u] })
    (base : Nat) (e : TypeId) (i : TypeInfo) (ht : P.underlying t = some (.slice e)) (hu : P.underlying u = some .string) (hi : P.info? e = some i) (hz : i.zero = some (.int .u8 0)) (hsize : i.size = 1) (hby : i.bytes = 1)
    (v : Value) (n : Nat) (f : Nat → Nat) (hs : a.eval sl = v) (hown : w.ownsRow base e 1 v n (bytesL f n)) (s : ByteArray) (hx : a.eval x = .string s) (hb : n + s.size ≤ 1000000) (hbase : base ≤ w.heap.size)
    (h : ∀ v' w', w'.ownsRow base e 1 v' (n + s.size) (bytesL (catF n f (chr s)) (n + s.size)) → Mods (fun k => v.ownBlock = some k) w w' → K (a.put o.dst v') w') :
    if Region.wanted o (yielded ops a.tmps) = true then Oper.wp P o a w K Q else E := by
  have hw : Region.wanted o (yielded ops a.tmps) = true := by simp [Region.wanted, hgd]
  rw [if_pos hw]
  obtain ⟨v', w', hr, h2, h3, h4⟩ := Lib.run_append_own_string (P := P) w base t u o.type e i ht hu hi hz hsize hby v n _ hown s (by unfold maxLen; omega) (by omega) hbase
  rw [strCells_chr, bytesL_append] at h2
  unfold Oper.wp execOp
  simp only [ho, resolve, invoke, builtin, Sem.run_bind, Sem.run_pure, Result.andThen_ok, List.map_toArray, List.map_cons, List.map_nil, hs, hx, hr]
  exact h v' w' h2 ((Mods.refl _ w).grown h3 fun k e _ => e)

set_option maxRecDepth 100000 in
set_option maxHeartbeats 2000000 in
theorem rpent_c (x : Nat) (s : ByteArray) (hx : x ≠ 0) (hx2 : x < 4294967296) (hs : nameOk s = true) (w : World) :
    Calls Tryz.prog 12 #[.agg #[.int .i64 x, .string s]] w fun e w' => ∃ G cap, e = .returned (.tuple #[.slice (some ⟨G, 0, none⟩) 32 cap, .bool true]) ∧ w'.ownsRow w.heap.size 5 1 (.slice (some ⟨G, 0, none⟩) 32 cap) 32 (bytesL (entF x s) 32) ∧ Below w.heap.size w w' := by
  obtain ⟨i0, hi0, hz0, hz1, hz2⟩ := info_parts info8
  have hsz : s.size ≤ 27 := entOk_size (ino := x) (by simp [entOk, hx, hs])
  have hs0 : 0 < s.size := by
    have h := hs
    simp only [nameOk, Bool.and_eq_true, decide_eq_true_eq] at h; exact h.1
  have d2 : (((x : Nat) : Int) == 0) = false := by simp; omega
  have NM := rname_c s (by omega)
  rw [hs] at NM
  have FT := rfits4_c x hx2
  have HNM := Lib.hid NM; have HFT := Lib.hid FT
  have bx : Blk 43 (w.alloc (.cells #[.int .i64 (x : Nat), .string s] 43)) w.heap.size [.int .i64 (x : Nat), .string s] := Blk.newL _
  have e02 : bytesL (catF 0 (fun _ => 0) (byteN x)) (0 + 4) = bytesL (byteN x) 4 := bytesL_congr fun k _ => by simp [catF]
  have HBX := Lib.hid bx; have HE02 := Lib.hid e02
  clear NM FT hs hx bx e02
  go_enter Tryz.func12, Tryz.ntmps12
  go_wp2_with (first
    | (go_at_call 26; refine (HNM.out _).mono ?_; rintro e w1 ⟨rfl, rfl⟩)
    | (go_at_call 23; refine (HFT.out _).mono ?_; rintro e w1 ⟨rfl, rfl⟩))
  have hk0 := HBX.out.drew
  have hB0 : Below w.heap.size w (w.alloc (.cells #[.int .i64 (x : Nat), .string s] 43)).drew := ((Below.refl _ w).alloc (Nat.le_refl _) _).drew
  have hs0' : w.heap.size + 1 ≤ (w.alloc (.cells #[.int .i64 (x : Nat), .string s] 43)).drew.heap.size := by simp
  refine wp_region_held_drew (S := (fun w' => w'.cell? ⟨w.heap.size, 0, none⟩ = some (.int .i64 (x : Nat)) ∧ w'.cell? ⟨w.heap.size, 1, none⟩ = some (.string s))) (by kernel_rfl) ⟨hk0.cell 0, hk0.cell 1⟩ (fun hHeld => ?_)
  refine tkA (i := 0) (oi := ⟨_, _, _, _, _, _⟩) ?_
  simp only [putA, List.set]
  refine tkA (i := 1) (oi := ⟨_, _, _, _, _, _⟩) ?_
  simp only [putA, List.set]
  refine tkA (i := 3) (oi := ⟨_, _, _, _, _, _⟩) ?_
  simp only [putA, List.set]
  refine tkA (i := 4) (oi := ⟨_, _, _, _, _, _⟩) ?_
  simp only [putA, List.set]
  refine tkA (i := 5) (oi := ⟨_, _, _, _, _, _⟩) ?_
  simp only [putA, List.set]
  refine tkA (i := 7) (oi := ⟨_, _, _, _, _, _⟩) ?_
  simp only [putA, List.set]
  refine tkA (i := 8) (oi := ⟨_, _, _, _, _, _⟩) ?_
  simp only [putA, List.set]
  generalize (w.alloc (.cells #[.int .i64 (x : Nat), .string s] 43)).drew = W0 at hk0 hB0 hs0' hHeld ⊢
  refine wpAnyH_ready (rs := [2]) (by kernel_rfl) (by simp) ?_
  refine AllReadyH.cons rfl (fun K hK => ?_) AllReadyH.nil
  go_simp
  go_at_call 24
  refine (rput2_c (w.heap.size + 1) 0 x 4 _ (fun _ => 0) _ (by omega) (by omega) hx2 (by omega) hs0' (.inl (World.ownsRow_nil _ _ _ _))).mono ?_
  rintro e w2 ⟨v2, rfl, ho2, hs2, hm2⟩
  rw [HE02.out] at ho2
  have hz2' := hm2.size
  have hB2 := Below.mods hB0 hm2 (fun i hi e => by cases e) (by omega)
  have hk2 := hk0.mods hm2 (fun e => by cases e)
  go_simp
  refine hK.out _ _ ?_ (fun hHeld => ?_)
  · exact ⟨hk2.cell 0, hk2.cell 1⟩
  clear hK K
  refine wpAnyH_ready (rs := [6]) (by kernel_rfl) (by simp) ?_
  refine AllReadyH.cons rfl (fun K hK => ?_) AllReadyH.nil
  go_simp
  go_at_call 24
  refine (rput2_c (w.heap.size + 1) 4 s.size 1 _ (byteN x) _ (by omega) (by omega) (by omega) (by omega) (by omega) (.inl ho2)).mono ?_
  rintro e w6 ⟨v6, rfl, ho6, hs6, hm6⟩
  have hz6 := hm6.size
  have hB6 := Below.mods hB2 hm6 (fun i hi e => by have h0 := own_base ho2 _ e; omega) (by omega)
  have hk6 := hk2.mods hm6 (fun e => by have h0 := own_base ho2 _ e; omega)
  go_simp
  refine hK.out _ _ ?_ (fun hHeld => ?_)
  · exact ⟨hk6.cell 0, hk6.cell 1⟩
  clear hK K
  refine wpAnyH_ready (rs := [9]) (by kernel_rfl) (by simp) ?_
  refine AllReadyH.cons rfl (fun K hK => ?_) AllReadyH.nil
  refine step_app_str rfl _ _ 25 9 rfl (w.heap.size + 1) 5 i0 Tryz.underlying25 Tryz.underlying9 hi0 hz0 hz1 hz2 v6 5 _ (by rfl) ho6 s (by rfl) (by omega) (by omega) ?_
  intro v9 w9 ho9 hm9
  have hz9 := hm9.size
  have hB9 := Below.mods hB6 hm9 (fun i hi e => by have h0 := own_base ho6 _ e; omega) (by omega)
  have hk9 := hk6.mods hm9 (fun e => by have h0 := own_base ho6 _ e; omega)
  simp only [Act.put, List.setIfInBounds_toArray, List.set_cons_zero, List.set_cons_succ]
  refine hK.out _ _ ?_ (fun hHeld => ?_)
  · exact ⟨hk9.cell 0, hk9.cell 1⟩
  clear hK K
  refine wpAnyH_ready (rs := [10]) (by kernel_rfl) (by simp) ?_
  refine AllReadyH.cons rfl (fun K hK => ?_) AllReadyH.nil
  go_simp
  go_at_call 25
  refine (rfill_c (w.heap.size + 1) (5 + s.size) 32 _ _ _ (by omega) (by omega) (by omega) (by omega) ho9).mono ?_
  rintro e w10 ⟨v10, rfl, ho10, hs10, hm10⟩
  have hB10 := Below.mods hB9 hm10 (fun i hi e => by have h0 := own_base ho9 _ e; omega) (by omega)
  have hk10 := hk9.mods hm10 (fun e => by have h0 := own_base ho9 _ e; omega)
  go_simp
  refine hK.out _ _ ?_ (fun hHeld => ?_)
  · exact ⟨hk10.cell 0, hk10.cell 1⟩
  clear hK K
  refine tkA (i := 11) (oi := ⟨_, _, _, _, _, _⟩) ?_
  simp only [putA, List.set]
  refine tkA (i := 12) (oi := ⟨_, _, _, _, _, _⟩) ?_
  simp only [putA, List.set]
  refine wpAnyH_done (by kernel_rfl) ?_ _
  obtain ⟨g7, cap7, rfl⟩ := own_has ho10 (by omega)
  have e2 : bytesL (catF (5 + s.size) (catF (4 + 1) (catF 4 (byteN x) (byteN s.size)) (chr s)) fun _ => 0) 32 = bytesL (entF x s) 32 := bytesL_congr fun k hk => by
    unfold entF putF catF
    by_cases h1 : k < 4
    · rw [if_pos (by omega), if_pos (by omega), if_pos h1, if_neg (by omega)]; dsimp only; rw [if_pos h1]
    · by_cases h2 : k = 4
      · subst h2
        rw [if_pos (by omega), if_pos (by omega), if_neg (by omega), if_neg (by omega)]
        show s.size / 256 ^ 0 % 256 = s.size
        simp; omega
      · by_cases h3 : k < 5 + s.size
        · rw [if_pos h3, if_neg (by omega), if_pos (by omega)]
        · rw [if_neg h3, if_neg (by omega)]; dsimp only; rw [if_neg h1, if_neg h2]
  replace ho10 : w10.ownsRow (w.heap.size + 1) 5 1 (.slice (some ⟨g7, 0, none⟩) 32 cap7) 32 (bytesL (entF x s) 32) := by rw [← e2]; exact ho10
  have HO10 := Lib.hid ho10; have HB10 := Lib.hid hB10
  clear hHeld hk0 hk2 hk6 hk9 hk10 hB0 hB2 hB6 hB9 hB10 hm2 hm6 hm9 hm10 hs2 hs6 hs10 ho2 ho6 ho9 ho10 e2
  go_wp2
  go_ret2
  exact ⟨_, _, rfl, own_mono HO10.out (by omega), HB10.out⟩
end Go.Proofs.YtbeabehebenocaaGreatDoor
end

section
/- The reference's blocks of entries, packed. -/
namespace Go.Proofs.YtbeabehebenocaaGreatDoor
open Go.RowKit

set_option maxRecDepth 100000 in
set_option maxHeartbeats 2000000 in
theorem rpents_c (lb n cap : Nat) (E : Nat → Nat × ByteArray) (w : World) (hn : n ≤ 32) (hn0 : 0 < n) (hE : ∀ k, k < n → (E k).1 ≠ 0 ∧ (E k).1 < 4294967296 ∧ nameOk (E k).2 = true) (h : RdE w lb n E) :
    Calls Tryz.prog 19 #[.slice (some ⟨lb, 0, none⟩) n cap] w fun e w' => ∃ G cap, e = .returned (.tuple #[.slice (some ⟨G, 0, none⟩) 1024 cap, .bool true]) ∧ w'.ownsRow w.heap.size 5 1 (.slice (some ⟨G, 0, none⟩) 1024 cap) 1024 (bytesL (pbF E n) 1024) ∧ Below w.heap.size w w' := by
  obtain ⟨i0, hi0, hz0, hz1, hz2⟩ := info_parts info8
  have hlb := h.lt hn0
  have hd : decide (32 < n) = false := by simp; omega
  have HR := Lib.hid h
  have HE := Lib.hid hE
  clear h hE
  go_enter Tryz.func19, Tryz.ntmps19
  go_wp2
  go_loopw [4, 5] (fun v i wr => ∃ k : Nat, k ≤ n ∧ i = .int .i64 k ∧ wr.ownsRow w.heap.size 5 1 v (32 * k) (bytesL (pbF E k) (32 * k)) ∧ Below w.heap.size w wr) (fun _ i _ => n - (intOf i).toNat)
  case atStart => exact ⟨0, by omega, rfl, World.ownsRow_nil _ _ _ _, Below.refl _ _⟩
  case round =>
    obtain ⟨k, hk, rfl, hown, hB⟩ := hrel
    have hsz := hB.size
    by_cases hlt : k < n
    · obtain ⟨c0, c1⟩ := (HR.out.below hB hlb) k hlt
      obtain ⟨x1, x2, x3⟩ := HE.out k hlt
      have PE := fun W => rpent_c (E k).1 (E k).2 x1 x2 x3 W
      have HPE := Lib.hid PE; have HO := Lib.hid hown; have HB := Lib.hid hB
      have hlw : lb < wr.heap.size := by omega
      have hk32 : 32 * k + 32 ≤ 1024 := by omega
      clear x1 x2 x3 PE hown hB
      go_wp2_with (first
        | (go_at_call 12; refine (HPE.out _).mono ?_; rintro e w2 ⟨g2, cap2, rfl, ho2, hb2⟩; have hr2 := own_rdB ho2; have hO2 := own_below HO.out hb2; have hz2' := hb2.size)
        | (at_builtin; refine app_bytes rfl _ _ 25 rfl w.heap.size 5 i0 Tryz.underlying25 hi0 hz0 hz1 hz2 _ (32 * k) (pbF E k) rfl (by exact .inl hO2) g2 0 32 cap2 _ rfl hr2 (by omega) (by omega) (by omega) ?_; intro g5 cap5 w3 ho5 hgr5 hat5))
      go_roundw
      case rel =>
        have hm3 : Mods (fun q => w.heap.size ≤ q) w2 w3 := (Mods.refl _ w2).grown hgr5 fun q e _ => own_base hO2 q e
        refine ⟨k + 1, by omega, by go_num, ?_, Below.mods (HB.out.trans (hb2.mono hsz)) hm3 (fun i hi e => by omega) (by omega)⟩
        rw [pbF_succ] at ho5
        exact ho5
      case measure => simp [intOf]; omega
    · obtain rfl : k = n := by omega
      have HO := Lib.hid hown; have HB := Lib.hid hB
      clear hown hB hlt
      obtain ⟨g9, cap9, hv⟩ := own_has HO.out (by omega)
      subst hv
      go_wp2_with (go_at_call 25; refine (rfill_c w.heap.size (32 * k) 1024 _ (pbF E k) _ (by omega) (by omega) (by omega) (by omega) HO.out).mono ?_; rintro e w3 ⟨v3, rfl, ho3, hs3, hm3⟩)
      obtain ⟨g3, cap3, rfl⟩ := own_has ho3 (by omega)
      go_ret2
      refine ⟨g3, cap3, rfl, ?_, Below.mods HB.out hm3 (fun i hi e => by have h0 := own_base HO.out _ e; omega) (by omega)⟩
      have e1 : bytesL (catF (32 * k) (pbF E k) fun _ => 0) 1024 = bytesL (pbF E k) 1024 := bytesL_congr fun j _ => by
        unfold catF pbF
        by_cases hj : j < 32 * k
        · simp [hj]
        · simp [hj]
      rw [← e1]
      exact ho3
end Go.Proofs.YtbeabehebenocaaGreatDoor
end

section
/- Images: blocks, data blocks, inodes. -/
namespace Go.Proofs.YtbeabehebenocaaGreatDoor
open Go.RowKit

/-- an image -/
structure ImgOk (g : Geo) (b o N cap : Nat) (f : Nat → Nat) (w : World) : Prop where
  ok : g.Ok
  n : N = g.total * 1024
  nc : N ≤ cap
  capb : cap ≤ 9223372036854775807
  rd : RdB w b o N f
  byte : ∀ k, f k < 256
theorem ImgOk.lt {g : Geo} {b o N cap : Nat} {f : Nat → Nat} {w : World} (h : ImgOk g b o N cap f w) : b < w.heap.size := lt_of_cell (h.rd 0 (by have := h.ok.total_pos; have := h.n; omega))
theorem ImgOk.below {g : Geo} {b o N cap C : Nat} {f : Nat → Nat} {w w' : World} (h : ImgOk g b o N cap f w) (hb : Below C w w') (hC : b < C) : ImgOk g b o N cap f w' :=
  ⟨h.ok, h.n, h.nc, h.capb, fun k hk => by rw [hb.cell (p := ⟨b, o + k, none⟩) hC]; exact h.rd k hk, h.byte⟩
theorem ImgOk.blk {g : Geo} {b o N cap : Nat} {f : Nat → Nat} {w : World} (h : ImgOk g b o N cap f w) {n : Nat} (hn : n < g.total) : RdB w b (o + n * 1024) 1024 (fun k => f (n * 1024 + k)) := h.rd.sub (n * 1024) 1024 (by rw [h.n]; omega)

theorem iblock_c (g : Geo) (hg : g.Ok) (b o N cap n : Nat) (hN : N = g.total * 1024) (hcap : N ≤ cap) (hcb : cap ≤ 9223372036854775807) (hn : n < g.total) (w : World) :
    Calls Tryz.prog 35 #[.agg #[.int .i64 g.gr, .int .i64 g.ino, .int .i64 g.da, .slice (some ⟨b, o, none⟩) N cap], .int .i64 n] w fun e w' => e = .returned (.slice (some ⟨b, o + n * 1024, none⟩) 1024 1024) ∧ Below w.heap.size w w' := by
  have ht := hg.total_le
  go_enter Tryz.func35, Tryz.ntmps35
  go_wp2
  go_ret
  rw [show (n + 1) * 1024 - n * 1024 = 1024 by omega]
  exact ⟨rfl, (Below.refl _ _).alloc (Nat.le_refl _) _⟩

theorem idata_c (g : Geo) (hg : g.Ok) (v : Value) (p : Nat) (w : World) :
    Calls Tryz.prog 49 #[.agg #[.int .i64 g.gr, .int .i64 g.ino, .int .i64 g.da, v], .int .i64 p] w fun e w' => e = .returned (.bool (g.dOk p)) ∧ Below w.heap.size w w' := by
  go_enter Tryz.func49, Tryz.ntmps49
  go_wp2_with (go_at_call 61; refine (dataOf_c g hg p _).mono ?_; rintro e w1 ⟨rfl, hb⟩)
  go_ret
  exact ⟨rfl, ((Below.refl _ _).alloc (Nat.le_refl _) _).trans (hb.mono (by simp))⟩

theorem iraw_c (g : Geo) (hg : g.Ok) (b o N cap i : Nat) (hN : N = g.total * 1024) (hcap : N ≤ cap) (hcb : cap ≤ 9223372036854775807) (w : World) :
    Calls Tryz.prog 87 #[.agg #[.int .i64 g.gr, .int .i64 g.ino, .int .i64 g.da, .slice (some ⟨b, o, none⟩) N cap], .int .i64 i] w fun e w' => (g.iOk i = true → e = .returned (.slice (some ⟨b, o + g.iBlk i * 1024 + g.iOff i, none⟩) 64 (1024 - g.iOff i))) ∧ (g.iOk i = false → e = .returned (.slice none 0 0)) ∧ Below w.heap.size w w' := by
  have A := iat_c g hg i
  have HN := Lib.hid hN; clear hN
  cases hk : g.iOk i with
  | false =>
    rw [hk] at A
    have HA := Lib.hid A
    clear A hk
    go_enter Tryz.func87, Tryz.ntmps87
    go_wp2_with (go_at_call 59; refine (HA.out _).mono ?_; rintro e w1 ⟨rfl, hb⟩)
    go_ret
    exact ⟨fun h => by (cases h), fun _ => rfl, ((Below.refl _ _).alloc (Nat.le_refl _) _).trans (hb.mono (by simp))⟩
  | true =>
    obtain ⟨h1, h2, h3⟩ := g.iBlk_lt hg hk
    obtain ⟨q, hq⟩ : ∃ q, q = g.iBlk i := ⟨_, rfl⟩
    obtain ⟨r, hr⟩ : ∃ r, r = g.iOff i := ⟨_, rfl⟩
    rw [hk, ← hq, ← hr] at A
    rw [← hq, ← hr]
    have hq2 : q < g.total := by omega
    have hr2 : r + 64 ≤ 1024 := by omega
    have HA := Lib.hid A
    clear A hk h1 h2 h3 hq hr
    have hn0 : ¬ 1024 = r := by omega
    go_enter Tryz.func87, Tryz.ntmps87
    go_wp2_with (first
      | (go_at_call 59; refine (HA.out _).mono ?_; rintro e w1 ⟨rfl, hb⟩; obtain ⟨hc, hf⟩ := bcell hb; have hz : w.heap.size < w1.heap.size := by (have := hb.size; simp at this; omega))
      | (go_at_call 35; refine (iblock_c g hg b o N cap q HN.out hcap hcb hq2 _).mono ?_; rintro e w2 ⟨rfl, hb2⟩))
    go_ret
    rw [show r + 64 - r = 64 by omega]
    exact ⟨fun _ => rfl, fun h => by (cases h), (((Below.refl _ _).alloc (Nat.le_refl _) _).trans (hb.mono (by simp))).trans (hb2.mono (by omega))⟩

/-- an inode's bytes, an inode as read -/
def rawF (g : Geo) (f : Nat → Nat) (i : Nat) : Nat → Nat := fun k => f (g.iBlk i * 1024 + g.iOff i + k)
def inoGood (g : Geo) (f : Nat → Nat) (i : Nat) : Bool := g.iOk i && iOk (rawF g f i)
def inoAt (g : Geo) (f : Nat → Nat) (i : Nat) : InoN := if inoGood g f i then inoRd (rawF g f i) else noIno
theorem iread_raw {g : Geo} {b o N cap : Nat} {f : Nat → Nat} {w : World} (h : ImgOk g b o N cap f w) {i : Nat} (hi : g.iOk i = true) : RdB w b (o + g.iBlk i * 1024 + g.iOff i) 64 (rawF g f i) := by
  obtain ⟨h1, h2, h3⟩ := g.iBlk_lt h.ok hi
  have := h.rd.sub (g.iBlk i * 1024 + g.iOff i) 64 (by rw [h.n]; have := h.ok.total_pos; omega)
  rw [Nat.add_assoc]
  exact this

set_option maxRecDepth 100000 in
set_option maxHeartbeats 1000000 in
theorem iinode_c (g : Geo) (b o N cap i : Nat) (f : Nat → Nat) (w : World) (h : ImgOk g b o N cap f w) :
    Calls Tryz.prog 68 #[.agg #[.int .i64 g.gr, .int .i64 g.ino, .int .i64 g.da, .slice (some ⟨b, o, none⟩) N cap], .int .i64 i] w fun e w' => e = .returned (.tuple #[inoV (inoAt g f i), .bool (inoGood g f i)]) ∧ Below w.heap.size w w' := by
  have R := fun W => iraw_c g h.ok b o N cap i h.n h.nc h.capb W
  have hbl := h.lt
  have kn := fun (W : World) (A : Option Addr) (n c : Nat) => Lib.run_eql_slice_nil (P := Tryz.prog) W 25 5 A n c 0 0 Tryz.underlying25
  cases hk : g.iOk i with
  | false =>
    have e1 : inoGood g f i = false := by simp [inoGood, hk]
    have e2 : inoAt g f i = noIno := by simp [inoAt, e1]
    rw [e1, e2]
    have HR := Lib.hid R; have HK := Lib.hid hk
    clear R hk e1 e2 h
    go_enter Tryz.func68, Tryz.ntmps68
    go_wp2_with (go_at_call 87; refine (HR.out _).mono ?_; rintro e w1 ⟨-, h2, hb⟩; obtain rfl := h2 HK.out; obtain ⟨hc, hf⟩ := bcell hb; have hz : w.heap.size + 1 < w1.heap.size := by (have := hb.size; simp at this; omega))
    change bodyPost _ _ _ _ _ (put13 w1 (w.heap.size + 1) noIno)
    have hk0 : Blk 40 ((w.alloc (.cells #[.int .i64 g.gr, .int .i64 g.ino, .int .i64 g.da, .slice (some ⟨b, o, none⟩) N cap] 49)).alloc (.cells (inoL noIno).toArray 40)) (w.heap.size + 1) (inoL noIno) := Blk.snd _ _
    have hk := put13_blk (i := noIno) (hk0.below hb (by simp))
    have hbz := put13_below (n := w.heap.size) w1 noIno (B := w.heap.size + 1) (by omega)
    have hB1 : Below w.heap.size w w1 := (((Below.refl _ _).alloc (Nat.le_refl _) _).alloc (by simp) _).trans (hb.mono (by simp; omega))
    generalize put13 w1 (w.heap.size + 1) noIno = W at hk hbz ⊢
    obtain ⟨y0, y1, y2, y3, y4, y5, y6, y7, y8, y9, y10, y11, y12⟩ := cells13 hk
    refine bodyPost_ret (v := .tuple #[inoV noIno, .bool false]) ?_ rfl ?_
    · simp [results, Tryz.results68, go_sem, y0, y1, y2, y3, y4, y5, y6, y7, y8, y9, y10, y11, y12, inoV]
    · exact ⟨rfl, hB1.trans hbz⟩
  | true =>
    have hraw := iread_raw h hk
    have h2 := g.iBlk_lt h.ok hk
    obtain ⟨q, hq⟩ : ∃ q, q = o + g.iBlk i * 1024 + g.iOff i := ⟨_, rfl⟩
    obtain ⟨r, hr⟩ : ∃ r, r = 1024 - g.iOff i := ⟨_, rfl⟩
    have hr1 : 64 ≤ r := by omega
    have hr2 : r ≤ 1024 := by omega
    rw [← hq, ← hr] at R
    rw [← hq] at hraw
    obtain ⟨I, hI⟩ : ∃ I, I = inoAt g f i := ⟨_, rfl⟩
    obtain ⟨z, hz⟩ : ∃ z, z = inoGood g f i := ⟨_, rfl⟩
    have RD : ∀ W, RdB W b q 64 (rawF g f i) → Calls Tryz.prog 88 #[.slice (some ⟨b, q, none⟩) 64 r] W fun e w' => e = .returned (.tuple #[inoV I, .int .i64 (if z = true then 0 else 5)]) ∧ Below W.heap.size W w' := fun W hW => by
      refine (iread_c b q r (rawF g f i) (fun k => h.byte _) W hW hr1 (by omega)).mono ?_
      rintro e w' ⟨h1, h2, h3⟩
      refine ⟨?_, h3⟩
      cases ho : iOk (rawF g f i) with
      | true => rw [h1 ho, hI, hz]; simp [inoAt, inoGood, hk, ho]
      | false => rw [h2 ho, hI, hz]; simp [inoAt, inoGood, hk, ho]
    rw [← hI, ← hz]
    have HR := Lib.hid R; have HD := Lib.hid RD; have HW := Lib.hid hraw; have HK := Lib.hid hk
    clear R RD hraw h2 hq hr hI hz hk h
    unfold inoV at HD ⊢
    cases z
    all_goals
      simp only [Bool.false_eq_true, if_true, if_false] at HD
      go_enter Tryz.func68, Tryz.ntmps68
      go_wp2_with (first
        | (go_at_call 87; refine (HR.out _).mono ?_; rintro e w1 ⟨h1, -, hb⟩; obtain rfl := h1 HK.out; obtain ⟨hc, hf⟩ := bcell hb; have hz : w.heap.size + 1 < w1.heap.size := by (have := hb.size; simp at this; omega))
        | (go_at_call 88; refine (HD.out _ (HW.out.below (((((Below.refl _ w).alloc (Nat.le_refl _) _).alloc (by simp) _)).trans (hb.mono (by simp; omega))))).mono ?_; rintro e w2 ⟨rfl, hb2⟩; obtain ⟨hc2, hf2⟩ := bcell hb2; have hz2 : w.heap.size + 1 < w2.heap.size := by (have := hb2.size; omega)))
      change bodyPost _ _ _ _ _ ((put13 w2 (w.heap.size + 1) I).alloc (.cells (inoL I).toArray 40))
      have hk0 : Blk 40 ((w.alloc (.cells #[.int .i64 g.gr, .int .i64 g.ino, .int .i64 g.da, .slice (some ⟨b, o, none⟩) N cap] 49)).alloc (.cells (inoL noIno).toArray 40)) (w.heap.size + 1) (inoL noIno) := Blk.snd _ _
      have hk := (put13_blk (i := I) ((hk0.below hb (by simp)).below hb2 (by omega))).alloc (.cells (inoL I).toArray 40)
      have hB1 : Below w.heap.size w w2 := ((((Below.refl _ w).alloc (Nat.le_refl _) _).alloc (by simp) _).trans (hb.mono (by simp; omega))).trans (hb2.mono (by omega))
      have hB2 : Below w.heap.size w ((put13 w2 (w.heap.size + 1) I).alloc (.cells (inoL I).toArray 40)) := by
        have h1 := hB1.trans (put13_below (n := w.heap.size) w2 I (B := w.heap.size + 1) (by omega))
        exact h1.alloc h1.size _
      clear hk0 hc hf hc2 hf2
      generalize (put13 w2 (w.heap.size + 1) I).alloc (.cells (inoL I).toArray 40) = W at hk hB2 ⊢
      obtain ⟨y0, y1, y2, y3, y4, y5, y6, y7, y8, y9, y10, y11, y12⟩ := cells13 hk
      refine bodyPost_ret ?_ rfl ⟨rfl, hB2⟩
      simp [results, Tryz.results68, go_sem, y0, y1, y2, y3, y4, y5, y6, y7, y8, y9, y10, y11, y12]
end Go.Proofs.YtbeabehebenocaaGreatDoor
end

section
/- A range over an iterator whose course hangs on what the body did. The body owns some blocks (Dm), the iterator may write blocks of its own beside them; the body never leaves the loop. -/
namespace Go.Proofs.YtbeabehebenocaaGreatDoor
open Go.RowKit Go.Shelf

/-- of the blocks that were there only the body's own (and block l) have changed; what the body owns now it owned before, or it is new -/
structure Turn (Dm : World → Nat → Prop) (l : Nat) (W W' : World) : Prop where
  os : W'.os = W.os
  tape : W'.tape = W.tape
  output : W'.output = W.output
  size : W.heap.size ≤ W'.heap.size
  block : ∀ k, k < W.heap.size → k ≠ l → ¬ Dm W k → W'.heap[k]? = W.heap[k]?
  own : ∀ k, k < W.heap.size → Dm W' k → Dm W k
theorem Turn.trans {Dm : World → Nat → Prop} {l : Nat} {A B C : World} (h : Turn Dm l A B) (k : Turn Dm l B C) : Turn Dm l A C :=
  ⟨k.os.trans h.os, k.tape.trans h.tape, k.output.trans h.output, Nat.le_trans h.size k.size,
   fun i hi hl hn => (k.block i (Nat.lt_of_lt_of_le hi h.size) hl fun hd => hn (h.own i hi hd)).trans (h.block i hi hl hn), fun i hi hd => h.own i hi (k.own i (Nat.lt_of_lt_of_le hi h.size) hd)⟩

/-- the iterator may change blocks that are new since the loop began and none of the body's -/
def Bears {β : Type} (B : Nat) (Dm : World → Nat → Prop) (J : β → World → Prop) : Prop :=
  ∀ s A C row, J s A → A.grownBy C row → (∀ r, row = some r → B ≤ r ∧ ¬ Dm A r) → J s C ∧ ∀ k, Dm C k → Dm A k

def SeqD {α : Type} (F : Fence) (n : Nat) (P : Program) (g : Nat) (lb : Array Value) (encs : α → Array Value) (Fr : Nat → Prop) (Link : List α → World → Prop) (S : List α → Prop) (Gx : α → Prop) (N : Nat) (w : World) : Prop :=
  ∀ (l : Nat) (J : List α → World → Prop) (Dm : World → Nat → Prop) (W : World), Below w.heap.size w W → w.heap.size ≤ l → l < W.heap.size → Bears W.heap.size Dm J → (∀ pre A k, J pre A → Dm A k → k < A.heap.size ∧ ¬ Fr k) → (∀ pre W1, J pre W1 → Link pre W1) →
    (∀ pre x W1, J pre W1 → Gx x → pre.length < N → YieldAt F (n - 1) P l (encs x) W1 fun e W' => e = .returned (.bool true) ∧ J (pre ++ [x]) W' ∧ Turn Dm l W1 W') →
    J [] W → CallsIn F n P g (#[.func (.yield l) #[] #[]] ++ lb) W fun e W' => (∃ v, e = .returned v) ∧ ∃ xs, S xs ∧ J xs W'

set_option maxHeartbeats 400000 in
theorem rangeFunc_dm {F : Fence} {n : Nat} {P : Program} {α : Type} {g : Operand} {ps : Array Tmp} {assign body : Code} {Q : Exit → Act → World → Prop} {a : Act} {w : World}
    (hro : F.round = none) (h1 : 1 ≤ n) {gf : Nat} {lb : Array Value} (hg : a.eval g = .func (.func gf) #[] lb) (hFg : F.fn gf) (eg : ∀ args w, (callFunc gf args).run P w = .ok (.enter gf args) w)
    {encs : α → Array Value} {Fr : Nat → Prop} {Link : List α → World → Prop} {S : List α → Prop} {Gx : α → Prop} {N : Nat} {w0 : World} (hseq : SeqD F (n - 1) P gf lb encs Fr Link S Gx N w0)
    (hb0 : Below w0.heap.size w0 w) (hps : ∀ x, (encs x).size = ps.size)
    (I : List α → World → Prop) (Dm : World → Nat → Prop) (hI : Bears w.heap.size Dm I) (hD : ∀ pre A k, I pre A → Dm A k → k < A.heap.size ∧ ¬ Fr k ∧ (k < w.heap.size ∨ ∃ o : Obj, A.heap[k]? = some o ∧ o.isCells = true))
    (hL : ∀ pre W, I pre W → Link pre W) (h0 : I [] w) (Ax : α → Act → World → Prop) (hAx : ∀ x a', OwnFrom w.heap.size (fun (_ : Unit) W => Ax x a' W))
    (hassign : ∀ (l : Nat) (pre : List α) (x : α) (W : World) (K : Act → World → Prop), I pre W → (∀ a' W', W.grownBy W' none → Ax x a' W' → K a' W') →
      assign.wpIn (F.inRound l) (n - 1 - 1) P (Exit.then K (fun _ _ _ => False)) { tmps := (ps.zip (encs x)).foldl (fun t (p, v) => t.setIfInBounds p v) a.tmps, defers := [] } W)
    (hbody : ∀ (l : Nat) (pre : List α) (x : α) (a' : Act) (W : World), I pre W → Ax x a' W → Gx x → pre.length < N → body.wpIn (F.inRound l) (n - 1 - 1) P (fun e _ W' => e = .normal ∧ Mods (Dm W) W W' ∧ (∀ k, k < W.heap.size → Dm W' k → Dm W k) ∧ I (pre ++ [x]) W') a' W)
    (hdone : ∀ (D : Nat) (xs : List α) (W : World), w.heap.size ≤ D → S xs → I xs W → W.heap[D]? = some (.deferred (some [])) → Q .normal { a with defers := { target := .collected D, args := #[] } :: a.defers } W) :
    (Code.rangeFunc g ps assign body).wpIn F n P Q a w := by
  refine wpIn_rangeFunc ?_
  intro fn hfn
  rw [hro]
  -- the loop lays two blocks: the deferred calls' and, behind it, its own record
  obtain ⟨mk, hmk⟩ : ∃ mk : LoopState → Loop, mk = fun st => { state := st, pending := none, fn := fn, tmps := a.tmps, params := ps, assign := assign, body := body, defers := w.heap.size } := ⟨_, rfl⟩
  have henter := run_enterLoop_outer (P := P) (w := w) fn a.tmps ps assign body
  have hmr : mk .ready = { state := .ready, pending := none, fn := fn, tmps := a.tmps, params := ps, assign := assign, body := body, defers := w.heap.size } := by rw [hmk]
  rw [← hmr] at henter
  obtain ⟨V, hV⟩ : ∃ V, V = (w.alloc (.deferred (some []))).alloc (.loop (mk .ready)) := ⟨_, rfl⟩
  rw [← hV] at henter
  have sV : V.heap.size = w.heap.size + 2 := by rw [hV]; simp
  have recV : V.heap[w.heap.size + 1]? = some (.loop (mk .ready)) := by
    have := heap_alloc_new (w.alloc (.deferred (some []))) (.loop (mk .ready))
    rw [World.size_alloc] at this
    rw [hV]; exact this
  have defV : V.heap[w.heap.size]? = some (.deferred (some [])) := by
    rw [hV, Below.heap_alloc _ _ _ (by simp)]; exact heap_alloc_new w _
  have iAl : ∀ pre A (o : Obj), I pre A → I pre (A.alloc o) ∧ ∀ k, Dm (A.alloc o) k → Dm A k := fun pre A o h => hI pre A _ none h (World.grownBy_alloc A o none) (fun r e => by cases e)
  have iV : I [] V := by rw [hV]; exact (iAl _ _ _ (iAl _ _ _ h0).1).1
  have bV : Below w0.heap.size w0 V := by
    have hs := hb0.size
    rw [hV]; exact (hb0.alloc hs _).alloc (by simp; omega) _
  -- a block that is no cells, new since the loop, is none of the body's
  have nd : ∀ pre A k (o : Obj), I pre A → w.heap.size ≤ k → A.heap[k]? = some o → o.isCells = false → ¬ Dm A k := fun pre A k o hi hk ho hc hd => by
    rcases (hD pre A k hi hd).2.2 with h | ⟨o', h2, h3⟩
    · omega
    · rw [ho] at h2; cases h2; rw [hc] at h3; cases h3
  -- what holds between the rounds
  obtain ⟨J, hJ⟩ : ∃ J : List α → World → Prop, J = fun pre W => I pre W ∧ W.heap[w.heap.size + 1]? = some (.loop (mk .ready)) ∧ W.heap[w.heap.size]? = some (.deferred (some [])) := ⟨_, rfl⟩
  have jA : Bears V.heap.size Dm J := by
    intro s A B row hs hgr hrow
    rw [hJ] at hs ⊢
    have keep : ∀ k o, A.heap[k]? = some o → k < V.heap.size → B.heap[k]? = some o := fun k o hk hlt => by
      rw [hgr.block k (Array.getElem?_eq_some_iff.1 hk).1 (fun e => by have := (hrow k e.symm).1; omega)]; exact hk
    have hi := hI s A B row hs.1 hgr (fun r e => ⟨by have := (hrow r e).1; omega, (hrow r e).2⟩)
    exact ⟨⟨hi.1, keep _ _ hs.2.1 (by omega), keep _ _ hs.2.2 (by omega)⟩, hi.2⟩
  have call := hseq (w.heap.size + 1) J Dm V bV (by have := hb0.size; omega) (by omega) jA (fun pre A k h hd => by rw [hJ] at h; have := hD pre A k h.1 hd; exact ⟨this.1, this.2.1⟩) (fun pre W1 h => by rw [hJ] at h; exact hL pre W1 h.1) ?round (by rw [hJ]; exact ⟨iV, recV, defV⟩)
  case round =>
    intro pre x W hj hgx hlen
    rw [hJ] at hj
    obtain ⟨hi, hrec, hdef⟩ := hj
    have hrl := (Array.getElem?_eq_some_iff.1 hrec).1
    have hy := run_yield (P := P) (args := encs x) hrec (by rw [hmk]; exact hps x)
    obtain ⟨busy, hbusy⟩ : ∃ r : Loop, r = { mk .ready with state := .busy } := ⟨_, rfl⟩
    have hy2 : (Instr.yield (w.heap.size + 1) (encs x)).run P W = .ok (.round (w.heap.size + 1) fn ((ps.zip (encs x)).foldl (fun t (p, v) => t.setIfInBounds p v) a.tmps) assign body) W := by rw [hy, hmk]
    refine ⟨fn, _, assign, body, hy2, roundIn_of_wpIn hfn (hassign _ pre x W _ hi fun a' Wa hga hax => ?_)⟩
    have hia := hI pre W Wa none hi hga (fun r e => by cases e)
    have hrec1 : Wa.heap[w.heap.size + 1]? = some (.loop (mk .ready)) := (hga.block _ hrl (by simp)).trans hrec
    have hdef1 : Wa.heap[w.heap.size]? = some (.deferred (some [])) := (hga.block _ (Array.getElem?_eq_some_iff.1 hdef).1 (by simp)).trans hdef
    have hrl1 := (Array.getElem?_eq_some_iff.1 hrec1).1
    have hbegin := run_beginRound (P := P) hrec1 (by rw [hmk])
    rw [← hbusy] at hbegin
    refine ⟨_, hbegin, ?_⟩
    have rec2 : (Wa.putObj (w.heap.size + 1) (.loop busy)).heap[w.heap.size + 1]? = some (.loop busy) := World.putObj_heap_same hrl1
    have def2 : (Wa.putObj (w.heap.size + 1) (.loop busy)).heap[w.heap.size]? = some (.deferred (some [])) := (World.putObj_heap_other (by omega)).trans hdef1
    have hi2 := hI pre Wa _ (some (w.heap.size + 1)) hia.1 (grownBy_putObj' Wa (w.heap.size + 1) (.loop busy)) (fun r e => by cases e; exact ⟨by omega, nd pre Wa _ _ hia.1 (by omega) hrec1 rfl⟩)
    have ax2 : Ax x a' (Wa.putObj (w.heap.size + 1) (.loop busy)) := (hAx x a').putObj (s := ()) _ hax (by omega) hrec1 rfl
    have t2 : Turn Dm (w.heap.size + 1) W (Wa.putObj (w.heap.size + 1) (.loop busy)) := ⟨hga.os, hga.tape, hga.output, Nat.le_trans hga.size (grownBy_putObj' Wa (w.heap.size + 1) (.loop busy)).size, fun k hk hl hn => (World.putObj_heap_other hl).trans (hga.block k hk (by simp)), fun k hk hd => hia.2 k (hi2.2 k hd)⟩
    refine wpIn_mono (hbody _ pre x a' _ hi2.1 ax2 hgx hlen) ?_
    rintro e a3 W3 ⟨rfl, hm3, ho3, hi3⟩
    have rec3 : W3.heap[w.heap.size + 1]? = some (.loop busy) := (hm3.block _ (Array.getElem?_eq_some_iff.1 rec2).1 (nd pre _ _ _ hi2.1 (by omega) rec2 rfl)).trans rec2
    have def3 : W3.heap[w.heap.size]? = some (.deferred (some [])) := (hm3.block _ (Array.getElem?_eq_some_iff.1 def2).1 (nd pre _ _ _ hi2.1 (by omega) def2 rfl)).trans def2
    have hend := run_endRound (P := P) none rec3
    have hst : ({ busy with state := .ready, pending := none } : Loop) = mk .ready := by rw [hbusy, hmk]
    simp only [Option.isNone_none, if_true, hst] at hend
    have hi4 := hI _ W3 _ (some (w.heap.size + 1)) hi3 (grownBy_putObj' W3 (w.heap.size + 1) (.loop (mk .ready))) (fun r e => by cases e; exact ⟨by omega, nd _ W3 _ _ hi3 (by omega) rec3 rfl⟩)
    have t3 : Turn Dm (w.heap.size + 1) (Wa.putObj (w.heap.size + 1) (.loop busy)) W3 := ⟨hm3.os, hm3.tape, hm3.output, hm3.size, fun k hk _ hn => hm3.block k hk hn, ho3⟩
    have t4 : Turn Dm (w.heap.size + 1) W3 (W3.putObj (w.heap.size + 1) (.loop (mk .ready))) := ⟨rfl, rfl, rfl, (grownBy_putObj' W3 (w.heap.size + 1) (.loop (mk .ready))).size, fun k _ hl _ => World.putObj_heap_other hl, fun k _ hd => hi4.2 k hd⟩
    refine ⟨_, _, hend, rfl, ?_, (t2.trans t3).trans t4⟩
    rw [hJ]
    exact ⟨hi4.1, World.putObj_heap_same (Array.getElem?_eq_some_iff.1 rec3).1, (World.putObj_heap_other (by omega)).trans def3⟩
  refine ⟨w.heap.size + 1, [{ target := .collected w.heap.size, args := #[] }], V, { target := .fn (.func gf) lb, args := #[.func (.yield (w.heap.size + 1)) #[] #[]] }, V, gf, #[.func (.yield (w.heap.size + 1)) #[] #[]] ++ lb, V, henter, ?_, ?_, ?_, fun _ => h1, ?_⟩
  · simp only [resolve, hg]
    simp [go_sem]
  · intro f' hf'
    simp [Target.leads] at hf'
    subst hf'; exact hFg
  · simp [invoke, go_sem, eg]
  · refine call.mono ?_
    rintro e W2 ⟨⟨v, rfl⟩, xs, hS, hj⟩
    rw [hJ] at hj
    obtain ⟨hi, hrec, hdef⟩ := hj
    have hend := run_endLoop (P := P) hrec (by rw [hmk]; simp)
    rw [show (mk .ready).pending = none by rw [hmk]] at hend
    have hfin := hdone w.heap.size xs (W2.putObj (w.heap.size + 1) (.loop { mk .ready with state := .exhausted, pending := none })) (Nat.le_refl _) hS (hI _ W2 _ (some (w.heap.size + 1)) hi (grownBy_putObj' W2 _ _) (fun r e => by cases e; exact ⟨by omega, nd _ W2 _ _ hi (by omega) hrec rfl⟩)).1 ((World.putObj_heap_other (by omega)).trans hdef)
    refine ⟨none, _, hend, ?_⟩
    exact hfin
end Go.Proofs.YtbeabehebenocaaGreatDoor
end

section
/- An inode as the mender reads it. -/
namespace Go.Proofs.YtbeabehebenocaaGreatDoor
open Go.RowKit

set_option maxRecDepth 100000 in
set_option maxHeartbeats 1000000 in
theorem as_c (g : Geo) (X b o N cap i : Nat) (f : Nat → Nat) (w : World) (h : ImgOk g b o N cap f w) (h0 : w.cell? ⟨X, 0, none⟩ = some (.int .i64 g.gr)) (h1 : w.cell? ⟨X, 1, none⟩ = some (.int .i64 g.ino)) (h2 : w.cell? ⟨X, 2, none⟩ = some (.int .i64 g.da)) (h3 : w.cell? ⟨X, 3, none⟩ = some (.slice (some ⟨b, o, none⟩) N cap)) :
    Calls Tryz.prog 48 #[.pointer (some ⟨X, 0, none⟩), .int .i64 i] w fun e w' => e = .returned (inoV (inoAt g f i)) ∧ Below w.heap.size w w' := by
  have hX := lt_of_cell h0
  have hbl := h.lt
  obtain ⟨I, hI⟩ : ∃ I, I = inoAt g f i := ⟨_, rfl⟩
  obtain ⟨z, hz⟩ : ∃ z, z = inoGood g f i := ⟨_, rfl⟩
  have hI0 : z = false → I = noIno := fun e => by rw [hI]; unfold inoAt; rw [← hz, e]; simp
  have C : ∀ W, Below w.heap.size w W → Calls Tryz.prog 68 #[.agg #[.int .i64 g.gr, .int .i64 g.ino, .int .i64 g.da, .slice (some ⟨b, o, none⟩) N cap], .int .i64 i] W fun e w' => e = .returned (.tuple #[inoV I, .bool z]) ∧ Below W.heap.size W w' := fun W hW => by
    have := iinode_c g b o N cap i f W (h.below hW hbl)
    rwa [← hI, ← hz] at this
  rw [← hI]
  have HC := Lib.hid C; have HI0 := Lib.hid hI0
  clear C hI hz hI0 h
  have hk0 : ∀ W : World, Blk 40 (W.alloc (.cells (inoL noIno).toArray 40)) W.heap.size (inoL noIno) := fun W => Blk.newL _
  unfold inoV at HC ⊢
  cases z
  all_goals
    go_enter Tryz.func48, Tryz.ntmps48
    go_wp2_with (go_at_call 68; refine (HC.out _ ((Below.refl _ _).alloc (Nat.le_refl _) _)).mono ?_; rintro e w1 ⟨rfl, hb⟩; obtain ⟨hc, hf⟩ := bcell hb; have hz : w.heap.size < w1.heap.size := by (have := hb.size; simp at this; omega))
  · have e := HI0.out (by first | rfl | trivial)
    change bodyPost _ _ _ _ _ ((put13 w1 w.heap.size noIno).alloc (.cells (inoL I).toArray 40))
    have hk := (put13_blk (i := noIno) ((hk0 w).below hb (by simp))).alloc (.cells (inoL I).toArray 40)
    have hB1 : Below w.heap.size w w1 := ((Below.refl _ w).alloc (Nat.le_refl _) _).trans (hb.mono (by simp))
    have hB2 : Below w.heap.size w ((put13 w1 w.heap.size noIno).alloc (.cells (inoL I).toArray 40)) := by
      have h1 := hB1.trans (put13_below w1 noIno (Nat.le_refl w.heap.size))
      exact h1.alloc h1.size _
    clear hc hf
    generalize (put13 w1 w.heap.size noIno).alloc (.cells (inoL I).toArray 40) = W at hk hB2 ⊢
    obtain ⟨y0, y1, y2, y3, y4, y5, y6, y7, y8, y9, y10, y11, y12⟩ := cells13 hk
    refine bodyPost_ret ?_ rfl ⟨rfl, hB2⟩
    rw [e]
    simp [results, Tryz.results48, go_sem, y0, y1, y2, y3, y4, y5, y6, y7, y8, y9, y10, y11, y12]
  · change bodyPost _ _ _ _ _ ((put13 w1 w.heap.size I).alloc (.cells (inoL I).toArray 40))
    have hk := (put13_blk (i := I) ((hk0 w).below hb (by simp))).alloc (.cells (inoL I).toArray 40)
    have hB1 : Below w.heap.size w w1 := ((Below.refl _ w).alloc (Nat.le_refl _) _).trans (hb.mono (by simp))
    have hB2 : Below w.heap.size w ((put13 w1 w.heap.size I).alloc (.cells (inoL I).toArray 40)) := by
      have h1 := hB1.trans (put13_below w1 I (Nat.le_refl w.heap.size))
      exact h1.alloc h1.size _
    clear hc hf
    generalize (put13 w1 w.heap.size I).alloc (.cells (inoL I).toArray 40) = W at hk hB2 ⊢
    obtain ⟨y0, y1, y2, y3, y4, y5, y6, y7, y8, y9, y10, y11, y12⟩ := cells13 hk
    refine bodyPost_ret ?_ rfl ⟨rfl, hB2⟩
    simp [results, Tryz.results48, go_sem, y0, y1, y2, y3, y4, y5, y6, y7, y8, y9, y10, y11, y12]
end Go.Proofs.YtbeabehebenocaaGreatDoor
end

section
/- Writing into the image that is made. -/
namespace Go.Proofs.YtbeabehebenocaaGreatDoor
open Go.RowKit

theorem take_put {cur : List Value} {N off m : Nat} {f fs : Nat → Nat} (ht : cur.take N = bytesL f N) (hN : N ≤ cur.length) (hfit : off + m ≤ N) :
    (cur.take off ++ (bytesL fs m ++ cur.drop (off + m))).take N = bytesL (putF f off m fs) N := by
  have hc : ∀ k, k < N → cur[k]? = some (.int .u8 ((f k : Nat) : Int)) := fun k hk => by
    have := bytesL_get f N k hk
    rw [← ht, List.getElem?_take_of_lt hk] at this; exact this
  apply List.ext_getElem?
  intro k
  by_cases hk : k < N
  · rw [List.getElem?_take_of_lt hk, bytesL_get _ _ _ hk]
    have l1 : (cur.take off).length = off := by simp; omega
    have l2 : (bytesL fs m).length = m := bytesL_length _ _
    by_cases h1 : k < off
    · rw [List.getElem?_append_left (by omega), List.getElem?_take_of_lt h1, hc k hk]
      have : ¬ (off ≤ k ∧ k < off + m) := fun h => by omega
      simp [putF, this]
    · rw [List.getElem?_append_right (by omega), l1]
      by_cases h2 : k < off + m
      · rw [List.getElem?_append_left (by omega), bytesL_get _ _ _ (by omega)]
        have : off ≤ k ∧ k < off + m := ⟨by omega, h2⟩
        simp [putF, this]
      · rw [List.getElem?_append_right (by omega), l2, List.getElem?_drop, show off + m + (k - off - m) = k by omega, hc k hk]
        have : ¬ (off ≤ k ∧ k < off + m) := fun h => by omega
        simp [putF, this]
  · rw [List.getElem?_eq_none (by simp; omega), List.getElem?_eq_none (by rw [bytesL_length]; omega)]

theorem copy_own {P : Program} {w : World} {ops : Array Oper} {rest : List Oper} {o : Oper} {a : Act} {Q : Exit → Act → World → Prop} (hgd : o.guard = none) (d s : Operand) (dT sT : TypeId)
    (ho : o.op = .call { callee := .builtin .copy, args := #[d, s], argTypes := #[dT, sT] }) (elem : TypeId) (hu : P.underlying dT = some (.slice elem)) (hsz : (P.info? elem).map (·.size) = some 1)
    (g off dLen dCap sb so sLen sCap : Nat) (hd : a.eval d = .slice (some ⟨g, off, none⟩) dLen dCap) (hs : a.eval s = .slice (some ⟨sb, so, none⟩) sLen sCap)
    (base e N cap : Nat) (f fs : Nat → Nat) (hg : w.ownsRow base e 1 (.slice (some ⟨g, 0, none⟩) N cap) N (bytesL f N)) (hN : 0 < N) (m : Nat) (hm : m = Nat.min sLen dLen) (hsrc : RdB w sb so m fs) (hfit : off + m ≤ N)
    (h : ∀ w', w'.ownsRow base e 1 (.slice (some ⟨g, 0, none⟩) N cap) N (bytesL (putF f off m fs) N) → Mods (fun k => k = g) w w' → wpList P ops Q rest (a.put o.dst (goInt m)) w') :
    wpList P ops Q (o :: rest) a w := by
  obtain ⟨hl0, hg⟩ := hg
  rcases hg with ⟨hv, _⟩ | ⟨g', cap', cur, hv, hb, hgb, hc, hm', hcs, ht⟩
  · cases hv
  · cases hv
    rw [Nat.mul_one] at ht
    have hl : (bytesL fs m).length = m := bytesL_length _ _
    have hNl : N ≤ cur.toList.length := by simp; omega
    refine wpList_copy_own hgd d s dT sT ho elem hu hsz g off dLen dCap ⟨sb, so, none⟩ sLen sCap hd hs cur e hgb (bytesL fs m) (by rw [hl, hm]) (rd_news hsrc) (by rw [hl]; simp at hNl; omega) (bytes_one _ _) ?_
    rw [hl]
    refine h _ ⟨by rw [bytesL_length]; omega, .inr ⟨g, cap, _, rfl, hb, setRow_heap w g cur _ e _ hgb, hc, hm', ?_, ?_⟩⟩ ⟨rfl, rfl, rfl, by simp, fun k _ hk => setRow_other w g k _ hk⟩
    · simp [hl]; simp at hNl; omega
    · rw [Nat.mul_one]
      simpa using take_put ht hNl hfit

/-- the mender writes a block -/
theorem xput_c (X sb so sCap g base N cap n : Nat) (f fs : Nat → Nat) (w : World) (h4 : w.cell? ⟨X, 4, none⟩ = some (.slice (some ⟨g, 0, none⟩) N cap)) (hg : w.ownsRow base 5 1 (.slice (some ⟨g, 0, none⟩) N cap) N (bytesL f N)) (hN : N ≤ 1000000000) (hc1 : cap ≤ 9223372036854775807) (hn : n * 1024 + 1024 ≤ N) (hr : RdB w sb so 1024 fs) :
    Calls Tryz.prog 57 #[.pointer (some ⟨X, 0, none⟩), .int .i64 n, .slice (some ⟨sb, so, none⟩) 1024 sCap] w fun e w' => e = .returned (.tuple #[]) ∧ w'.ownsRow base 5 1 (.slice (some ⟨g, 0, none⟩) N cap) N (bytesL (putF f (n * 1024) 1024 fs) N) ∧ Mods (fun k => k = g) w w' := by
  have hX := lt_of_cell h4
  have hcap : N ≤ cap := by
    obtain ⟨_, h⟩ := hg
    rcases h with ⟨h, _⟩ | ⟨_, _, _, h, _, _, h2, _⟩
    · cases h
    · cases h; exact h2
  have e1 : cap ≠ n * 1024 := by omega
  have HG := Lib.hid hg; have HR := Lib.hid hr
  clear hg hr
  go_enter Tryz.func57, Tryz.ntmps57
  go_wp2_with (refine copy_own rfl _ _ 25 25 rfl 5 Tryz.underlying25 (by kernel_rfl) g (n * 1024) _ _ sb so 1024 sCap rfl rfl base 5 N cap f fs HG.out (by omega) 1024 (by show 1024 = min 1024 (N - n * 1024); omega) HR.out (by omega) ?_; intro w1 ho1 hm1)
  go_end0
  exact ⟨rfl, ho1, hm1⟩
end Go.Proofs.YtbeabehebenocaaGreatDoor
end

section
/- Pointers, and how many blocks a directory has without a gap. -/
namespace Go.Proofs.YtbeabehebenocaaGreatDoor
open Go.RowKit

/-- a pointer of an inode -/
structure Ptr where
  lv : Int
  n : Nat
  first : Nat
  tgt : Nat
deriving DecidableEq, Inhabited
def ptrV (p : Ptr) : List Value := [.int .i64 p.lv, .int .i64 p.n, .int .i64 p.first, .int .i64 p.tgt]
/-- memory holds pointers -/
def RdP (w : World) (b : Nat) (L : List Ptr) : Prop := ∀ k p, L[k]? = some p → w.cell? ⟨b, k * 4, none⟩ = some (.int .i64 p.lv) ∧ w.cell? ⟨b, k * 4 + 1, none⟩ = some (.int .i64 p.n) ∧ w.cell? ⟨b, k * 4 + 2, none⟩ = some (.int .i64 p.first) ∧ w.cell? ⟨b, k * 4 + 3, none⟩ = some (.int .i64 p.tgt)
theorem RdP.below {w w' : World} {b C : Nat} {L : List Ptr} (h : RdP w b L) (hb : Below C w w') (hC : b < C) : RdP w' b L := fun k p hk => by
  rw [hb.cell (p := ⟨b, k * 4, none⟩) hC, hb.cell (p := ⟨b, k * 4 + 1, none⟩) hC, hb.cell (p := ⟨b, k * 4 + 2, none⟩) hC, hb.cell (p := ⟨b, k * 4 + 3, none⟩) hC]; exact h k p hk
def wholeStep (m : Nat) (p : Ptr) : Nat := if p.lv = 0 ∧ p.n = m then m + 1 else m
def wholeN (L : List Ptr) : Nat := L.foldl wholeStep 0
theorem wholeN_take (L : List Ptr) (k : Nat) (p : Ptr) (h : L[k]? = some p) : wholeN (L.take (k + 1)) = wholeStep (wholeN (L.take k)) p := by
  unfold wholeN
  rw [List.take_add_one, h]
  simp
theorem wholeN_le (L : List Ptr) : ∀ k, wholeN (L.take k) ≤ k
  | 0 => by simp [wholeN]
  | k + 1 => by
    cases h : L[k]? with
    | none => 
      have hl : L.length ≤ k := List.getElem?_eq_none_iff.1 h
      rw [List.take_of_length_le (by omega), ← List.take_of_length_le hl]
      exact Nat.le_trans (wholeN_le L k) (by omega)
    | some p =>
      rw [wholeN_take L k p h]
      have := wholeN_le L k
      unfold wholeStep; split <;> omega

set_option maxHeartbeats 1000000 in
theorem whole_c (b cap : Nat) (L : List Ptr) (w : World) (hL : L.length ≤ 1000000) (hb : b < w.heap.size) (h : RdP w b L) :
    Calls Tryz.prog 73 #[.slice (some ⟨b, 0, none⟩) L.length cap] w fun e w' => e = .returned (.int .i64 (wholeN L : Nat)) ∧ Below w.heap.size w w' := by
  obtain ⟨n, hn⟩ : ∃ n, n = L.length := ⟨_, rfl⟩
  rw [← hn] at hL ⊢
  have HN := Lib.hid hn; have HR := Lib.hid h
  clear hn h
  go_enter Tryz.func73, Tryz.ntmps73
  go_wp2
  go_loopw [3, 8] (fun m i' wr => ∃ k : Nat, k ≤ n ∧ i' = .int .i64 k ∧ m = .int .i64 (wholeN (L.take k) : Nat) ∧ Below w.heap.size w wr) (fun _ i' _ => n - (intOf i').toNat)
  case atStart => exact ⟨0, by omega, rfl, rfl, Below.refl _ _⟩
  case round =>
    obtain ⟨k, hk, rfl, rfl, hB⟩ := hrel
    have hm := wholeN_le L k
    by_cases hlt : k < n
    · obtain ⟨p, hp⟩ : ∃ p, L[k]? = some p := ⟨L[k]'(by rw [← HN.out]; exact hlt), List.getElem?_eq_getElem _⟩
      obtain ⟨c0, c1, c2, c3⟩ := (HR.out.below hB hb) k p hp
      have hs := hB.size
      have hst := wholeN_take L k p hp
      have HS := Lib.hid hst
      obtain ⟨m, hmm⟩ : ∃ m, m = wholeN (L.take k) := ⟨_, rfl⟩
      rw [← hmm] at HS hm ⊢
      clear hst hp
      by_cases h0 : p.lv = 0
      · have e0 : (p.lv == 0) = true := by simp [h0]
        by_cases h1 : p.n = m
        · have e1 : ((p.n : Int) == (m : Int)) = true := by simp [h1]
          have H := Lib.hid (show wholeStep m p = m + 1 by simp [wholeStep, h0, h1])
          clear h0 h1
          go_wp2
          go_roundw
          case rel => exact ⟨k + 1, by omega, by go_num, by rw [HS.out, H.out]; go_num, hB.alloc hs _⟩
          case measure => simp [intOf]; omega
        · have e1 : ((p.n : Int) == (m : Int)) = false := by simp; omega
          have H := Lib.hid (show wholeStep m p = m by simp [wholeStep, h1])
          clear h0 h1
          go_wp2
          go_roundw
          case rel => exact ⟨k + 1, by omega, by go_num, by rw [HS.out, H.out], hB.alloc hs _⟩
          case measure => simp [intOf]; omega
      · have e0 : (p.lv == 0) = false := by simpa using h0
        have H := Lib.hid (show wholeStep m p = m by simp [wholeStep, h0])
        clear h0
        go_wp2
        go_roundw
        case rel => exact ⟨k + 1, by omega, by go_num, by rw [HS.out, H.out], hB.alloc hs _⟩
        case measure => simp [intOf]; omega
    · obtain rfl : k = n := by omega
      have e : L.take k = L := List.take_of_length_le (by rw [← HN.out]; omega)
      rw [e] at *
      go_wp2
      go_ret
      exact ⟨rfl, hB⟩
end Go.Proofs.YtbeabehebenocaaGreatDoor
end
