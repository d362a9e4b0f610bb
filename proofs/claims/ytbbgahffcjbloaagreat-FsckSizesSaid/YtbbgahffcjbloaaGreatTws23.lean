/- Part of the road to TwRow: RSame, RSplit, RFind, RNds, SzP, TwP, TwY, TwA. -/
import Derived.Test.YtbbgahffcjbloaaGreatTws22
import Derived.Test.YtbbgahffcjbloaaGreatTws16
import Derived.Test.YtbbgahffcjbloaaGreatTws08
import Derived.Test.YtbbgahffcjbloaaGreatTws14
set_option linter.all false
set_option linter.unusedSimpArgs false
set_option linter.unusedVariables false
set_option linter.unusedSectionVars false
section
/- Two trees that are alike: lockgateref20.Same says so. -/
namespace Go.Proofs.YtbbgahffcjbloaaGreat
open Go.RowKit
theorem ndV_get : ∀ (ps : List (Nd × (Value × Value))) (i : Nat) (p : Nd × (Value × Value)), ps[i]? = some p → ∀ k, k < 6 → (ps.flatMap fun p => ndV p.1 p.2)[i * 6 + k]? = (ndV p.1 p.2)[k]?
  | [], i, p, h, k, hk => by simp at h
  | q :: ps, 0, p, h, k, hk => by
    simp only [List.getElem?_cons_zero, Option.some.injEq] at h
    subst h
    rw [List.flatMap_cons, List.getElem?_append_left (by simp [ndV]; omega)]
    congr 1
    omega
  | q :: ps, i + 1, p, h, k, hk => by
    rw [List.getElem?_cons_succ] at h
    rw [List.flatMap_cons, List.getElem?_append_right (by simp [ndV]; omega), ← ndV_get ps i p h k hk]
    congr 1
    simp [ndV]; omega
theorem NodesAt.form {w : World} {base : Nat} {v : Value} {l : List Nd} (h : NodesAt w base v l) : ∃ A c, v = .slice A l.length c := by
  obtain ⟨xs, _, h, _⟩ := h
  exact own_form h
/-- one node's cells -/
theorem NodesAt.node {w : World} {base n c : Nat} {A : Option Addr} {l : List Nd} (h : NodesAt w base (.slice A n c) l) (i : Nat) (nd : Nd) (hi : l[i]? = some nd) : ∃ G x, A = some ⟨G, 0, none⟩ ∧ G < w.heap.size ∧ (∀ k, k < 6 → w.cell? ⟨G, i * 6 + k, none⟩ = (ndV nd x)[k]?) ∧ NodeAt w base nd x := by
  obtain ⟨xs, hx1, ho, hx3⟩ := h
  have hl := (List.getElem?_eq_some_iff.1 hi).1
  obtain ⟨x, hx⟩ : ∃ x, xs[i]? = some x := ⟨_, List.getElem?_eq_getElem (by omega)⟩
  obtain ⟨G, c2, hA, _⟩ := own_some ho (by omega)
  cases hA
  have hz : (l.zip xs)[i]? = some (nd, x) := by rw [List.getElem?_zip_eq_some]; exact ⟨hi, hx⟩
  refine ⟨G, x, rfl, row_lt ho rfl, fun k hk => ?_, hx3 i nd x hi hx⟩
  have hk6 : k < (ndV nd x).length := hk
  have h1 : (ndV nd x)[k]? = some ((ndV nd x)[k]) := List.getElem?_eq_getElem hk6
  have h2 := ndV_get (l.zip xs) i (nd, x) hz k hk
  rw [h1] at h2 ⊢
  exact own_at ho h2
end Go.Proofs.YtbbgahffcjbloaaGreat
end

section
/- The reference's path of one name: lockgateref1.Split. -/
namespace Go.Proofs.YtbbgahffcjbloaaGreat
open Go.RowKit

theorem infoStr : (Tryz.prog.info? 9).map (fun i => (i.zero, i.size, i.bytes)) = some (some (.string ⟨#[]⟩), 1, 16) := by kernel_rfl
set_option maxRecDepth 100000 in
set_option maxHeartbeats 4000000 in
theorem rsplit_g (p nm : ByteArray) (h3 : p.size = 3) (b0 : ((((p[0]'(by omega)).toNat : Nat) : Int) != 47) = false) (b1 : ((((p[1]'(by omega)).toNat : Nat) : Int) != 47) = true) (b2 : ((((p[2]'(by omega)).toNat : Nat) : Int) != 47) = true) (hcut : p.extract 1 3 = nm) (hn : nameOk nm = true) (hs : nm.size ≤ 100) (n1 : (nm.toList == [46]) = false) (n2 : (nm.toList == [46, 46]) = false) (p0 : (p.toList == []) = false) (p1 : (p.toList == [47]) = false) (w : World) : Calls Tryz.prog 29 #[.string p] w fun e w' => ∃ G cap, e = .returned (.tuple #[.slice (some ⟨G, 0, none⟩) 1 cap, .bool true]) ∧ w'.ownsRow w.heap.size 9 1 (.slice (some ⟨G, 0, none⟩) 1 cap) 1 [.string nm] ∧ Below w.heap.size w w' := by
  obtain ⟨j0, hj0, hy0, hy1, hy2⟩ := info_parts infoStr
  have hl := dlen p
  rw [h3] at hl
  have NM := fun W => rname_c nm (by omega) W
  rw [hn] at NM
  have HNM := Lib.hid NM
  clear NM hn
  go_enter Tryz.func29, Tryz.ntmps29
  go_wp2_with fail
  go_loopw [4, 5, 6] (fun o' f' i' wr => ((i' = .int .i64 1 ∨ i' = .int .i64 2 ∨ i' = .int .i64 3) ∧ o' = .slice none 0 0 ∧ f' = .int .i64 1 ∧ wr = w) ∨ (i' = .int .i64 4 ∧ ∃ G cap wq, wq = wr ∧ o' = .slice (some ⟨G, 0, none⟩) 1 cap ∧ wq.ownsRow w.heap.size 9 1 (.slice (some ⟨G, 0, none⟩) 1 cap) 1 [.string nm] ∧ Below w.heap.size w wq)) (fun _ _ i' _ => 4 - (intOf i').toNat)
  case atStart => exact .inl ⟨.inl rfl, rfl, rfl, rfl⟩
  case round =>
    rcases hrel with ⟨hi, rfl, rfl, rfl⟩ | ⟨rfl, G, cap, wq, rfl, rfl, ho, hb⟩
    · rcases hi with rfl | rfl | rfl
      · go_wp2_with fail
        go_roundw
        case rel => exact .inl ⟨.inr (.inl rfl), rfl, rfl, trivial⟩
        case measure => decide
      · go_wp2_with fail
        go_roundw
        case rel => exact .inl ⟨.inr (.inr rfl), rfl, rfl, trivial⟩
        case measure => decide
      · have hsrc : Src wr wr.heap.size 9 1 (.slice none 0 0) 0 [] := .inl (World.ownsRow_nil _ _ _ _)
        have HSRC := Lib.hid hsrc
        clear hsrc
        go_wp2_with (first
          | (go_at_call 44; refine (HNM.out _).mono ?_; rintro e w2 ⟨rfl, rfl⟩)
          | (at_builtin; refine app_own2 [_] rfl _ _ 76 rfl wr.heap.size 9 j0 (.string ⟨#[]⟩) 1 16 Tryz.underlying76 hj0 hy0 hy1 hy2 rfl (by decide) _ 0 [] rfl (by exact HSRC.out) _ rfl (by simp) rfl (by simp [Value.oneCell']) (by unfold maxLen; omega) (by omega) (Nat.le_refl _) ?_
             intro G2 cap2 w4 ho4 hg4 ha4 hl4
             have HO4 := Lib.hid ho4; have HG4 := Lib.hid hg4; have HA4 := Lib.hid ha4
             clear ho4 hg4 ha4))
        have hm : Mods (fun _ => False) wr w4 := (Mods.refl (fun _ => False) wr).grown HG4.out (fun _ e _ => by cases e)
        exact ⟨.inr ⟨rfl, G2, cap2, _, rfl, rfl, HO4.out, Below.mods (Below.refl _ wr) hm (fun _ _ e => e) (Nat.le_refl _)⟩, by decide⟩
    · have HO := Lib.hid ho; have HB := Lib.hid hb
      clear ho hb
      go_wp2_with fail
      go_ret2
      exact ⟨_, _, rfl, HO.out, HB.out⟩
/-- "/f" and a digit -/
def pathN (k : Nat) : ByteArray := (⟨#[47, 102]⟩ : ByteArray) ++ (⟨#[48, 49, 50, 51, 52, 53, 54, 55, 56, 57]⟩ : ByteArray).extract k (k + 1)
theorem pathN_f (k : Nat) (hk : k < 10) : ∃ h : (pathN k).size = 3, (((((pathN k)[0]'(by omega)).toNat : Nat) : Int) != 47) = false ∧ (((((pathN k)[1]'(by omega)).toNat : Nat) : Int) != 47) = true ∧ (((((pathN k)[2]'(by omega)).toNat : Nat) : Int) != 47) = true ∧ (pathN k).extract 1 3 = nameN k ∧ ((pathN k).toList == []) = false ∧ ((pathN k).toList == [47]) = false := by
  match k, hk with
  | 0, _ => exact ⟨rfl, rfl, rfl, rfl, rfl, by rw [ByteArray.toList_eq]; rfl, by rw [ByteArray.toList_eq]; rfl⟩
  | 1, _ => exact ⟨rfl, rfl, rfl, rfl, rfl, by rw [ByteArray.toList_eq]; rfl, by rw [ByteArray.toList_eq]; rfl⟩
  | 2, _ => exact ⟨rfl, rfl, rfl, rfl, rfl, by rw [ByteArray.toList_eq]; rfl, by rw [ByteArray.toList_eq]; rfl⟩
  | 3, _ => exact ⟨rfl, rfl, rfl, rfl, rfl, by rw [ByteArray.toList_eq]; rfl, by rw [ByteArray.toList_eq]; rfl⟩
  | 4, _ => exact ⟨rfl, rfl, rfl, rfl, rfl, by rw [ByteArray.toList_eq]; rfl, by rw [ByteArray.toList_eq]; rfl⟩
  | 5, _ => exact ⟨rfl, rfl, rfl, rfl, rfl, by rw [ByteArray.toList_eq]; rfl, by rw [ByteArray.toList_eq]; rfl⟩
  | 6, _ => exact ⟨rfl, rfl, rfl, rfl, rfl, by rw [ByteArray.toList_eq]; rfl, by rw [ByteArray.toList_eq]; rfl⟩
  | 7, _ => exact ⟨rfl, rfl, rfl, rfl, rfl, by rw [ByteArray.toList_eq]; rfl, by rw [ByteArray.toList_eq]; rfl⟩
  | 8, _ => exact ⟨rfl, rfl, rfl, rfl, rfl, by rw [ByteArray.toList_eq]; rfl, by rw [ByteArray.toList_eq]; rfl⟩
  | 9, _ => exact ⟨rfl, rfl, rfl, rfl, rfl, by rw [ByteArray.toList_eq]; rfl, by rw [ByteArray.toList_eq]; rfl⟩
theorem rsplit_c (k : Nat) (hk : k < 10) (w : World) : Calls Tryz.prog 29 #[.string (pathN k)] w fun e w' => ∃ G cap, e = .returned (.tuple #[.slice (some ⟨G, 0, none⟩) 1 cap, .bool true]) ∧ w'.ownsRow w.heap.size 9 1 (.slice (some ⟨G, 0, none⟩) 1 cap) 1 [.string (nameN k)] ∧ Below w.heap.size w w' := by
  obtain ⟨h3, b0, b1, b2, hc, p0, p1⟩ := pathN_f k hk
  exact rsplit_g (pathN k) (nameN k) h3 b0 b1 b2 hc (nameN_ok ⟨k, hk⟩) (by show (2 : Nat) ≤ 100; decide) (by rw [beq_eq_false_iff_ne]; exact (nameN_ne k).1) (by rw [beq_eq_false_iff_ne]; exact (nameN_ne k).2) p0 p1 w
end Go.Proofs.YtbbgahffcjbloaaGreat
end

section
/- The reference's walk: At, and Find of one name in the root. -/
namespace Go.Proofs.YtbbgahffcjbloaaGreat
open Go.RowKit

set_option maxRecDepth 1000000 in
set_option maxHeartbeats 8000000 in
theorem rat_c (w : World) (v : Value) (l : List Nd) (h : NodesAt w 0 v l) (hl : l.length ≤ 100000) (hno : ∀ i nd, l[i]? = some nd → nd.ino = i + 1) (x : Nat) (hx : x < l.length) :
    Calls Tryz.prog 30 #[v, .int .i64 ((x + 1 : Nat) : Int)] w fun e w' => e = .returned (.int .i64 x) ∧ w = w' := by
  obtain ⟨A, c, rfl⟩ := h.form
  have HN := Lib.hid h; have HNO := Lib.hid hno
  clear h hno
  go_enter Tryz.func30, Tryz.ntmps30
  go_wp2_with fail
  go_loopw [5] (fun i' wr => ∃ i : Nat, i ≤ x ∧ i' = .int .i64 i ∧ wr = w) (fun i' _ => l.length - (intOf i').toNat)
  case atStart => exact ⟨0, Nat.zero_le _, rfl, rfl⟩
  case round =>
    obtain ⟨i, hi, rfl, rfl⟩ := hrel
    have hlt : i < l.length := by omega
    obtain ⟨nd, hnd⟩ : ∃ nd, l[i]? = some nd := ⟨_, List.getElem?_eq_getElem hlt⟩
    obtain ⟨G, y, hA, lG, gc, hy⟩ := HN.out.node i nd hnd
    cases hA
    have hn := HNO.out i nd hnd
    have c0 := gc 0 (by omega)
    simp only [ndV, List.getElem?_cons_zero, Nat.add_zero, hn] at c0
    have hli : (i : Int) < (l.length : Int) := by omega
    clear gc hy hnd hn
    by_cases hix : i = x
    · subst hix
      have e0 : (((i + 1 : Nat) : Int) == ((i + 1 : Nat) : Int)) = true := by simp
      go_wp2_with fail
      go_ret
      exact ⟨rfl, rfl⟩
    · have e0 : (((i + 1 : Nat) : Int) == ((x + 1 : Nat) : Int)) = false := by simp; omega
      go_wp2_with fail
      go_roundw
      case rel => exact ⟨i + 1, by omega, by go_num, trivial⟩
      case measure => simp [intOf]; omega
set_option maxRecDepth 1000000 in
set_option maxHeartbeats 8000000 in
theorem rfind_c (w : World) (v : Value) (l : List Nd) (h : NodesAt w 0 v l) (hl : l.length ≤ 100000) (hno : ∀ i nd, l[i]? = some nd → nd.ino = i + 1) (nd : Nd) (h0 : l[0]? = some nd) (hkd : nd.kind = 2) (k : Nat) (hk : k < 10) (K x : Nat) (hK : nd.slots[K]? = some (x + 1, nameN k)) (hx : x < l.length) (hne : ∀ j e, j < K → nd.slots[j]? = some e → e.1 ≠ 0 ∧ e.2 ≠ nameN k) :
    Calls Tryz.prog 13 #[v, .string (pathN k)] w fun e w' => e = .returned (.tuple #[.int .i64 x, .int .i64 0]) ∧ Below w.heap.size w w' := by
  have SP := rsplit_c k hk w
  have AT : ∀ W, Below w.heap.size w W → ∀ y, y < l.length → Calls Tryz.prog 30 #[v, .int .i64 ((y + 1 : Nat) : Int)] W fun e w' => e = .returned (.int .i64 y) ∧ W = w' := fun W hb y hy => rat_c W v l (h.below hb) hl hno y hy
  have A0 : ∀ W, Below w.heap.size w W → Calls Tryz.prog 30 #[v, .int .i64 1] W fun e w' => e = .returned (.int .i64 0) ∧ W = w' := fun W hb => AT W hb 0 (by have := (List.getElem?_eq_some_iff.1 h0).1; omega)
  obtain ⟨A, c, rfl⟩ := h.form
  obtain ⟨G, y, hA, lG, gc, hy⟩ := h.node 0 nd h0
  cases hA
  obtain ⟨P, S⟩ := y
  have os := hy.slots
  dsimp only at os
  have hKl : K < nd.slots.length := (List.getElem?_eq_some_iff.1 hK).1
  obtain ⟨SG, cs, hS, _⟩ := own_some os (by omega)
  subst hS
  have lS := row_lt os rfl
  have n0 : 0 < l.length := (List.getElem?_eq_some_iff.1 h0).1
  obtain ⟨_, _, _, hsm⟩ := own_len os
  unfold maxLen at hsm
  have hnl : nd.slots.length ≤ 9223372036854775807 := by omega
  have hc := fun W (hb : Below w.heap.size w W) (j : Nat) (hj : j < 6) => (hb.cell (p := ⟨G, 0 * 6 + j, none⟩) lG).trans (gc j hj)
  have c1 := fun W (hb : Below w.heap.size w W) => hc W hb 1 (by omega)
  have c5 := fun W (hb : Below w.heap.size w W) => hc W hb 5 (by omega)
  simp only [ndV, List.getElem?_cons_zero, List.getElem?_cons_succ, Nat.zero_mul, Nat.zero_add, hkd] at c1 c5
  replace c1 : ∀ W, Below w.heap.size w W → W.cell? ⟨G, 1, none⟩ = some (.int .i64 2) := c1
  have sc := fun W (hb : Below w.heap.size w W) (j : Nat) e (he : nd.slots[j]? = some e) => (⟨(hb.cell (p := ⟨SG, j * 2, none⟩) lS).trans (own_at os (entsV_get _ _ _ he).1), (hb.cell (p := ⟨SG, j * 2 + 1, none⟩) lS).trans (own_at os (entsV_get _ _ _ he).2)⟩ : _ ∧ _)
  have HSP := Lib.hid SP; have HAT := Lib.hid AT; have HA0 := Lib.hid A0; have HC1 := Lib.hid c1; have HC5 := Lib.hid c5; have HSC := Lib.hid sc; have HK := Lib.hid hK; have HNE := Lib.hid hne
  clear SP AT A0 c1 c5 sc hK hne hc gc hy os h hsm
  go_enter Tryz.func13, Tryz.ntmps13
  go_wp2_with (first
    | (go_at_call 29; refine HSP.out.mono ?_; rintro e w2 ⟨G2, cap2, rfl, ho2, hb2⟩; have HO2 := Lib.hid ho2; have HB2 := Lib.hid hb2; have hz2 := hb2.size; clear ho2 hb2)
    | (go_at_call 30; refine (HA0.out _ HB2.out).mono ?_; rintro e w3 ⟨rfl, rfl⟩))
  go_loopw [8, 9] (fun a' i' wr => ((a' = .int .i64 0 ∧ i' = .int .i64 0) ∨ (a' = .int .i64 x ∧ i' = .int .i64 1)) ∧ ∃ wq, wq = wr ∧ Below w2.heap.size w2 wq) (fun _ i' _ => 1 - (intOf i').toNat)
  case atStart => exact ⟨.inl ⟨rfl, rfl⟩, _, rfl, Below.refl _ _⟩
  case round =>
    obtain ⟨hi, wx, rfl, hBx⟩ := hrel
    have HBx := Lib.hid hBx
    have hB := HB2.out.trans (hBx.mono hz2)
    have HB := Lib.hid hB
    clear hBx hB
    rcases hi with ⟨rfl, rfl⟩ | ⟨rfl, rfl⟩
    · have b1 := HC1.out wx HB.out
      have b5 := HC5.out wx HB.out
      have lgx : G < wx.heap.size := Nat.lt_of_lt_of_le lG HB.out.size
      go_upto_block 2 with fail
      clear b1 b5
      go_wp2_with fail
      go_loopw [10, 11] (fun n' k' wr => ((n' = .int .i64 (-1) ∧ ∃ j : Nat, j ≤ K ∧ k' = .int .i64 j) ∨ (n' = .int .i64 K ∧ k' = .int .i64 ((K : Int) + 1))) ∧ ∃ wq, wq = wr ∧ Below wx.heap.size wx wq) (fun _ k' _ => K + 1 - (intOf k').toNat)
      case atStart => exact ⟨.inl ⟨rfl, 0, Nat.zero_le _, rfl⟩, _, rfl, Below.refl _ _⟩
      case round =>
        obtain ⟨hi, wk, rfl, hBk⟩ := hrel
        have hB := HB.out.trans (hBk.mono HB.out.size)
        have HBk := Lib.hid hBk
        have HBw := Lib.hid hB
        clear hBk hB
        have b5 := HC5.out wk HBw.out
        have lgk : G < wk.heap.size := Nat.lt_of_lt_of_le lG HBw.out.size
        have lsk : SG < wk.heap.size := Nat.lt_of_lt_of_le lS HBw.out.size
        have o2 := (own_len HO2.out).2.1
        have b2 : wk.cell? ⟨G2, 0, none⟩ = some (.string (nameN k)) := ((HBx.out.trans (HBk.out.mono HBx.out.size)).cell (p := ⟨G2, 0, none⟩) o2).trans (own_at HO2.out rfl)
        rcases hi with ⟨rfl, j, hj, rfl⟩ | ⟨rfl, rfl⟩
        · have hjl : j < nd.slots.length := by omega
          obtain ⟨e, he⟩ : ∃ e, nd.slots[j]? = some e := ⟨_, List.getElem?_eq_getElem hjl⟩
          obtain ⟨r1, r2⟩ := HSC.out wk HBw.out j e he
          have hjl2 : (j : Int) < (nd.slots.length : Int) := by omega
          have lG2 : G2 < wk.heap.size := by have := HBx.out.size; have := HBk.out.size; omega
          by_cases hjK : j = K
          · subst hjK
            have ee : e = (x + 1, nameN k) := by rw [HK.out] at he; exact (Option.some.inj he).symm
            subst ee
            dsimp only at r1 r2
            have e0 : (((x : Int) + 1) != 0) = true := by simp <;> omega
            have e1 := str_dec (nameN k) (nameN k)
            rw [decide_eq_true rfl] at e1
            go_wp2_with fail
            obtain ⟨wa, hwa⟩ : ∃ W, W = wk.alloc (.cells #[.int .i64 ((x : Int) + 1), .string (nameN k)] 59) := ⟨_, rfl⟩
            have ka : Blk 59 wa wk.heap.size [.int .i64 ((x : Int) + 1), .string (nameN k)] := by rw [hwa]; exact Blk.newL _
            have hba : Below wk.heap.size wk wa := by rw [hwa]; exact (Below.refl _ wk).alloc (Nat.le_refl _) _
            rw [← hwa]
            have q0 := ka.cell 0
            have q1 := ka.cell 1
            simp only [List.getElem?_cons_zero, List.getElem?_cons_succ] at q0 q1
            have q2 := (hba.cell (p := ⟨G2, 0, none⟩) lG2).trans b2
            have HBA := Lib.hid hba
            clear hwa ka hba b2 b5 r1 r2
            refine wp_region_held_drew (S := fun (w' : World) => w'.cell? ⟨wk.heap.size, 0, none⟩ = some (.int .i64 ((x : Int) + 1)) ∧ w'.cell? ⟨wk.heap.size, 1, none⟩ = some (.string (nameN k)) ∧ w'.cell? ⟨G2, 0, none⟩ = some (.string (nameN k))) (by kernel_rfl) ⟨q0, q1, q2⟩ (fun hHeld => ?_)
            refine tkA (i := 0) (oi := ⟨_, _, _, _, _, _⟩) ?_
            simp only [putA, List.set]
            refine tkA (i := 1) (oi := ⟨_, _, _, _, _, _⟩) ?_
            simp only [putA, List.set]
            refine tkA (i := 2) (oi := ⟨_, _, _, _, _, _⟩) ?_
            simp only [putA, List.set]
            refine tkA (i := 3) (oi := ⟨_, _, _, _, _, _⟩) ?_
            simp only [putA, List.set]
            refine tkA (i := 4) (oi := ⟨_, _, _, _, _, _⟩) ?_
            simp only [putA, List.set]
            refine tkA (i := 5) (oi := ⟨_, _, _, _, _, _⟩) ?_
            simp only [putA, List.set]
            refine tkA (i := 6) (oi := ⟨_, _, _, _, _, _⟩) ?_
            simp only [putA, List.set]
            refine tkA (i := 7) (oi := ⟨_, _, _, _, _, _⟩) ?_
            simp only [putA, List.set]
            refine tkA (i := 8) (oi := ⟨_, _, _, _, _, _⟩) ?_
            simp only [putA, List.set]
            refine tkA (i := 9) (oi := ⟨_, _, _, _, _, _⟩) ?_
            simp only [putA, List.set]
            refine tkA (i := 10) (oi := ⟨_, _, _, _, _, _⟩) ?_
            simp only [putA, List.set]
            refine tkA (i := 11) (oi := ⟨_, _, _, _, _, _⟩) ?_
            simp only [putA, List.set]
            refine wpAnyH_done (by kernel_rfl) ?_ _
            clear hHeld
            go_wp2_with fail
            go_roundw
            case rel => exact ⟨.inr ⟨rfl, by go_num⟩, _, rfl, HBk.out.trans (HBA.out.drew.mono HBk.out.size)⟩
            case measure => simp [intOf] <;> omega
          · obtain ⟨n1, n2⟩ := HNE.out j e (by omega) he
            have e0 : (((e.1 : Nat) : Int) != 0) = true := by simp <;> omega
            have e1 := str_dec e.2 (nameN k)
            rw [decide_eq_false n2] at e1
            clear n1 n2
            go_wp2_with fail
            obtain ⟨wa, hwa⟩ : ∃ W, W = wk.alloc (.cells #[.int .i64 (e.1 : Nat), .string e.2] 59) := ⟨_, rfl⟩
            have ka : Blk 59 wa wk.heap.size [.int .i64 (e.1 : Nat), .string e.2] := by rw [hwa]; exact Blk.newL _
            have hba : Below wk.heap.size wk wa := by rw [hwa]; exact (Below.refl _ wk).alloc (Nat.le_refl _) _
            rw [← hwa]
            have q0 := ka.cell 0
            have q1 := ka.cell 1
            simp only [List.getElem?_cons_zero, List.getElem?_cons_succ] at q0 q1
            have q2 := (hba.cell (p := ⟨G2, 0, none⟩) lG2).trans b2
            have HBA := Lib.hid hba
            clear hwa ka hba b2 b5 r1 r2
            refine wp_region_held_drew (S := fun (w' : World) => w'.cell? ⟨wk.heap.size, 0, none⟩ = some (.int .i64 (e.1 : Nat)) ∧ w'.cell? ⟨wk.heap.size, 1, none⟩ = some (.string e.2) ∧ w'.cell? ⟨G2, 0, none⟩ = some (.string (nameN k))) (by kernel_rfl) ⟨q0, q1, q2⟩ (fun hHeld => ?_)
            refine tkA (i := 0) (oi := ⟨_, _, _, _, _, _⟩) ?_
            simp only [putA, List.set]
            refine tkA (i := 1) (oi := ⟨_, _, _, _, _, _⟩) ?_
            simp only [putA, List.set]
            refine tkA (i := 2) (oi := ⟨_, _, _, _, _, _⟩) ?_
            simp only [putA, List.set]
            refine tkA (i := 3) (oi := ⟨_, _, _, _, _, _⟩) ?_
            simp only [putA, List.set]
            refine tkA (i := 4) (oi := ⟨_, _, _, _, _, _⟩) ?_
            simp only [putA, List.set]
            refine tkA (i := 5) (oi := ⟨_, _, _, _, _, _⟩) ?_
            simp only [putA, List.set]
            refine tkA (i := 6) (oi := ⟨_, _, _, _, _, _⟩) ?_
            simp only [putA, List.set]
            refine tkA (i := 7) (oi := ⟨_, _, _, _, _, _⟩) ?_
            simp only [putA, List.set]
            refine tkA (i := 8) (oi := ⟨_, _, _, _, _, _⟩) ?_
            simp only [putA, List.set]
            refine tkA (i := 9) (oi := ⟨_, _, _, _, _, _⟩) ?_
            simp only [putA, List.set]
            refine tkA (i := 10) (oi := ⟨_, _, _, _, _, _⟩) ?_
            simp only [putA, List.set]
            refine tkA (i := 11) (oi := ⟨_, _, _, _, _, _⟩) ?_
            simp only [putA, List.set]
            refine wpAnyH_done (by kernel_rfl) ?_ _
            clear hHeld
            go_wp2_with fail
            go_roundw
            case rel => exact ⟨.inl ⟨rfl, j + 1, by omega, by go_num⟩, _, rfl, HBk.out.trans (HBA.out.drew.mono HBk.out.size)⟩
            case measure => simp [intOf] <;> omega
        · obtain ⟨r1, r2⟩ := HSC.out wk HBw.out K _ HK.out
          have rr : wk.cell? ⟨SG, K * 2, none⟩ = some (.int .i64 ((x : Int) + 1)) := r1
          have AX := HAT.out wk HBw.out x hx
          rw [show ((x + 1 : Nat) : Int) = (x : Int) + 1 by omega] at AX
          have HAX := Lib.hid AX
          clear AX r1 r2
          have t1 : ((K : Int) < 0) = False := by simp
          by_cases hq : K + 1 < nd.slots.length
          · have hq2 : (K : Int) + 1 < (nd.slots.length : Int) := by omega
            clear hq
            go_wp2_with (go_at_call 30; refine HAX.out.mono ?_; rintro e w3 ⟨rfl, rfl⟩)
            go_roundw
            case rel => exact ⟨.inr ⟨rfl, rfl⟩, _, rfl, HBx.out.trans (HBk.out.mono HBx.out.size)⟩
            case measure => decide
          · have hq2 : ¬ (K : Int) + 1 < (nd.slots.length : Int) := by omega
            clear hq
            go_wp2_with (go_at_call 30; refine HAX.out.mono ?_; rintro e w3 ⟨rfl, rfl⟩)
            go_roundw
            case rel => exact ⟨.inr ⟨rfl, rfl⟩, _, rfl, HBx.out.trans (HBk.out.mono HBx.out.size)⟩
            case measure => decide
    · go_wp2_with fail
      go_ret2
      exact ⟨rfl, HB.out⟩
end Go.Proofs.YtbbgahffcjbloaaGreat
end

section
/- The reference's tree of an image that is wholly right: the root's node, and a node for each file. -/
namespace Go.Proofs.YtbbgahffcjbloaaGreat
open Go.RowKit

def tkS (g : Geo) (f : Nat → Nat) (cs : Nat → Nat → Bool) (n y : Nat) : RT := if y = 0 then ⟨rootIR g f, [rowN n 32], 1, [3]⟩ else fileR g f cs (y - 1)
theorem ndF_kind (f : Nat → Nat) (x : Nat) (t : RT) : (ndF f x t).kind = t.i 0 := rfl
theorem ndF_size (f : Nat → Nat) (x : Nat) (t : RT) : (ndF f x t).size = t.i 2 := rfl
theorem ndF_blocks (f : Nat → Nat) (x : Nat) (t : RT) : (ndF f x t).blocks = if t.i 0 = 1 then partsK f t.i 8 else [] := rfl
theorem ndF_slots (f : Nat → Nat) (x : Nat) (t : RT) : (ndF f x t).slots = slotsK t t.dir.length := rfl
section
variable {m n : Nat} {cs : Nat → Nat → Bool} {J : Nat → InoN} {f : Nat → Nat}
theorem SimpB.nodes (B : SimpB m n cs J f) (hn : n ≤ 9) (hm : 0 < m) : rawK f (fixR (geo1 m) f) 16 = (List.range (n + 1)).map fun y => ndF f (y + 1) (tkS (geo1 m) f cs n y) := by
  rw [(B.simp hn).fix hn hm]
  have K : ∀ x, x ≤ 16 → rawK f ⟨cs n, TS (geo1 m) f cs n 32 n, [1], false⟩ x = (List.range (min x (n + 1))).map fun y => ndF f (y + 1) (tkS (geo1 m) f cs n y) := by
    intro x
    induction x with
    | zero => intro _; rw [Nat.zero_min]; rfl
    | succ x ih =>
      intro hx
      have ih := ih (by omega)
      unfold rawK
      dsimp only
      rw [B.taken hn hm x]
      by_cases h : x ≤ n
      · rw [if_pos h]
        dsimp only
        rw [ih, Nat.min_eq_left (by omega), Nat.min_eq_left (by omega), List.range_succ, List.map_append]
        rfl
      · rw [if_neg h]
        dsimp only
        rw [ih, Nat.min_eq_right (by omega), Nat.min_eq_right (by omega)]
  rw [K 16 (Nat.le_refl _), Nat.min_eq_right (by omega)]
theorem SimpB.nd_get (B : SimpB m n cs J f) (hn : n ≤ 9) (hm : 0 < m) {i : Nat} {nd : Nd} (h : (rawK f (fixR (geo1 m) f) 16)[i]? = some nd) : i ≤ n ∧ nd = ndF f (i + 1) (tkS (geo1 m) f cs n i) := by
  rw [B.nodes hn hm] at h
  have hi : i < n + 1 := by have := (List.getElem?_eq_some_iff.1 h).1; simpa using this
  rw [List.getElem?_map, List.getElem?_range hi] at h
  exact ⟨by omega, (Option.some.inj h).symm⟩
theorem SimpB.nd_at (B : SimpB m n cs J f) (hn : n ≤ 9) (hm : 0 < m) {i : Nat} (hi : i ≤ n) : (rawK f (fixR (geo1 m) f) 16)[i]? = some (ndF f (i + 1) (tkS (geo1 m) f cs n i)) := by
  rw [B.nodes hn hm, List.getElem?_map, List.getElem?_range (by omega)]; rfl
theorem SimpB.nd_length (B : SimpB m n cs J f) (hn : n ≤ 9) (hm : 0 < m) : (rawK f (fixR (geo1 m) f) 16).length = n + 1 := by
  rw [B.nodes hn hm, List.length_map, List.length_range]
/-- a file's inode -/
theorem SimpB.nd_ino (B : SimpB m n cs J f) (hn : n ≤ 9) (hm : 0 < m) {k : Nat} (hk : k < n) : ∀ j, j < 13 → (tkS (geo1 m) f cs n (k + 1)).i j = J (k + 1) j := fun j hj => by
  unfold tkS
  rw [if_neg (by omega), show k + 1 - 1 = k by omega]
  exact B.fileI_ hn k hk j hj
theorem rowN_get (n d j : Nat) (hj : j < d) : (rowN n d)[j]? = some (entN n j) := by
  unfold rowN
  rw [List.getElem?_map, List.getElem?_range hj]; rfl
theorem SimpB.find (B : SimpB m n cs J f) (hn : n ≤ 9) (hm : 0 < m) (w : World) (v : Value) (hv : NodesAt w 0 v (rawK f (fixR (geo1 m) f) 16)) (k : Nat) (hk : k < n) :
    Calls Tryz.prog 13 #[v, .string (pathN k)] w fun e w' => e = .returned (.tuple #[.int .i64 ((k + 1 : Nat) : Int), .int .i64 0]) ∧ Below w.heap.size w w' := by
  have hl := B.nd_length hn hm
  have sl : ∀ j, j < 30 → (ndF f 1 (tkS (geo1 m) f cs n 0)).slots[j]? = some (entN n (j + 2)) := fun j hj => by
    rw [ndF_slots]
    unfold tkS
    rw [if_pos rfl]
    show ([] ++ (rowN n 32).drop 2)[j]? = _
    rw [List.nil_append, List.getElem?_drop, rowN_get n 32 (2 + j) (by omega), show 2 + j = j + 2 by omega]
  refine rfind_c w v _ hv (by omega) (fun i nd h => ?_) _ (B.nd_at hn hm (Nat.zero_le _)) ?_ k (by omega) k (k + 1) ?_ (by omega) (fun j e hj he => ?_)
  · obtain ⟨_, rfl⟩ := B.nd_get hn hm h; rfl
  · have := B.rootI_ hn hm 0 (by omega)
    rw [B.root] at this
    rw [ndF_kind]
    unfold tkS
    rw [if_pos rfl]
    dsimp only
    rw [this]; rfl
  · rw [sl k (by omega), entN_file n (k + 2) (by omega) (by omega)]; rfl
  · rw [sl j (by omega), entN_file n (j + 2) (by omega) (by omega)] at he
    obtain rfl := Option.some.inj he
    refine ⟨by show j + 2 ≠ 0; omega, fun q => ?_⟩
    have := nameN_inj ⟨j, by omega⟩ ⟨k, by omega⟩ q
    simp at this; omega
theorem SimpB.fnode (B : SimpB m n cs J f) (hn : n ≤ 9) (hm : 0 < m) (k : Nat) (hk : k < n) : ∃ nd i, (rawK f (fixR (geo1 m) f) 16)[k + 1]? = some nd ∧ nd.size = J (k + 1) 2 ∧ (∀ j, j < 13 → i j = J (k + 1) j) ∧ nd.blocks = partsK f i 8 := by
  have hi := B.nd_ino hn hm hk
  refine ⟨_, _, B.nd_at hn hm (i := k + 1) (by omega), ?_, hi, ?_⟩
  · rw [ndF_size, hi 2 (by omega)]
  · rw [ndF_blocks, hi 0 (by omega), if_pos (B.f0 k hk)]
end
/-- how many blocks of one pointer -/
theorem partsK_one (f : Nat → Nat) {i : InoN} {a : Nat} (hz : ∀ j, j < 8 → j ≠ a → i (3 + j) = 0) : ∀ k, k ≤ 8 → (partsK f i k).length = if a < k ∧ i (3 + a) ≠ 0 then 1 else 0
  | 0, _ => by rw [if_neg (by omega)]; rfl
  | k + 1, hk => by
    have ih := partsK_one f hz k (by omega)
    unfold partsK
    by_cases h : i (3 + k) = 0
    · rw [if_pos h, ih]
      by_cases h2 : a < k ∧ i (3 + a) ≠ 0
      · rw [if_pos h2, if_pos ⟨by omega, h2.2⟩]
      · rw [if_neg h2, if_neg (fun q => h2 ⟨by
          have : a ≠ k := fun e => q.2 (by rw [e]; exact h)
          omega, q.2⟩)]
    · rw [if_neg h, List.length_append, ih]
      have e : k = a := Decidable.byContradiction fun q => h (hz k (by omega) q)
      subst e
      rw [if_neg (by omega), if_pos ⟨by omega, h⟩]
      rfl
section
variable {g : Geo} {I : InoN} {c : Nat → Bool} {a : Nat}
/-- one pointer alone -/
theorem kS_lo (hd : g.dOk 0 = false) (hz : ∀ j, j < 8 → j ≠ a → I (3 + j) = 0) : ∀ k, k ≤ a → k ≤ 8 → kS g I c k = ([], c)
  | 0, _, _ => rfl
  | k + 1, h, h8 => by
    have ih := kS_lo hd hz k (by omega) (by omega)
    have hk : kept g I c k = false := by
      unfold kept keepOk
      dsimp only
      rw [hz k (by omega) (by omega), hd]; simp
    rw [kS_succ, if_neg (by rw [hk]; decide), ih]
theorem kept_at (ha : a < 8) (hd : g.dOk 0 = false) (hz : ∀ j, j < 8 → j ≠ a → I (3 + j) = 0) : kept g I c a = (decide (a < countN (I 2)) && (g.dOk (I (3 + a)) && !c (I (3 + a)))) := by
  unfold kept
  rw [kS_lo hd hz a (Nat.le_refl _) (by omega)]
  rfl
theorem kS_one (ha : a < 8) (hd : g.dOk 0 = false) (hz : ∀ j, j < 8 → j ≠ a → I (3 + j) = 0) : (kS g I c 8).2 = fun x => c x || (kept g I c a && decide (x = I (3 + a))) := by
  have K : ∀ k, k ≤ 8 → a < k → (kS g I c k).2 = fun x => c x || (kept g I c a && decide (x = I (3 + a))) := by
    intro k
    induction k with
    | zero => intro _ h; omega
    | succ k ih =>
      intro h8 hk
      rw [kS_succ]
      by_cases e : k = a
      · subst e
        by_cases q : kept g I c k = true
        · rw [if_pos q, q]
          dsimp only
          rw [kS_lo hd hz k (Nat.le_refl _) (by omega)]
          funext x
          rw [Bool.true_and]
        · rw [if_neg q, kS_lo hd hz k (Nat.le_refl _) (by omega)]
          funext x
          rw [Bool.eq_false_iff.2 q, Bool.false_and, Bool.or_false]
      · have hq : kept g I c k = false := by
          unfold kept keepOk
          dsimp only
          rw [hz k (by omega) e, hd]; simp
        rw [if_neg (by rw [hq]; decide)]
        exact ih (by omega) (by omega)
  exact K 8 (Nat.le_refl _) ha
end
section
variable {m n : Nat} {h : Nat → Nat}
/-- what is kept of a file with one pointer -/
def keptG (m : Nat) (h : Nat → Nat) (k a : Nat) : Bool := kept (geo1 m) (capI (inoAt (geo1 m) h (k + 2))) (cG (geo1 m) h k) a
theorem capI_ptr (I : InoN) (j : Nat) : capI I (3 + j) = I (3 + j) := by unfold capI; rw [if_neg (by omega)]
theorem LikeG.slot_at (L : LikeG m n h) (k : Nat) (hk : k < n) (j : Nat) (hj : j < 8) : jG m h (k + 1) (3 + j) = if keptG m h k j = true then inoAt (geo1 m) h (k + 2) (3 + j) else 0 := by
  have e : jG m h (k + 1) (3 + j) = (atF (pG (geo1 m) h k) j).getD 0 := by
    unfold jG outI
    rw [if_neg (by omega), if_neg (by omega), if_neg (by omega), if_neg (by omega), if_pos (by omega), show 3 + j - 3 = j by omega]
    rfl
  rw [e, (L.pG_ k hk).1, kS_at]
  unfold keptG
  by_cases q : kept (geo1 m) (capI (inoAt (geo1 m) h (k + 2))) (cG (geo1 m) h k) j = true
  · rw [if_pos ⟨hj, q⟩, if_pos q, capI_ptr]; rfl
  · rw [if_neg (fun r => q r.2), if_neg q]; rfl
theorem LikeG.keptOne (L : LikeG m n h) (k : Nat) (a : Nat) (ha : a < 8) (hz : ∀ j, j < 8 → j ≠ a → inoAt (geo1 m) h (k + 2) (3 + j) = 0) : keptG m h k a = (decide (a < countN (capI (inoAt (geo1 m) h (k + 2)) 2)) && ((geo1 m).dOk (inoAt (geo1 m) h (k + 2) (3 + a)) && !cG (geo1 m) h k (inoAt (geo1 m) h (k + 2) (3 + a)))) := by
  unfold keptG
  rw [kept_at ha rfl (fun j h1 h2 => by rw [capI_ptr]; exact hz j h1 h2), capI_ptr]
theorem LikeG.claimOne (L : LikeG m n h) (k : Nat) (hk : k < n) (a : Nat) (ha : a < 8) (hz : ∀ j, j < 8 → j ≠ a → inoAt (geo1 m) h (k + 2) (3 + j) = 0) : cG (geo1 m) h (k + 1) = fun x => cG (geo1 m) h k x || (keptG m h k a && decide (x = inoAt (geo1 m) h (k + 2) (3 + a))) := by
  rw [(L.pG_ k hk).2, kS_one ha rfl (fun j h1 h2 => by rw [capI_ptr]; exact hz j h1 h2), capI_ptr]
  rfl
/-- a file's node -/
theorem LikeG.node (L : LikeG m n h) (hn : n ≤ 9) (h8 : 8 ≤ m) (h1000 : m ≤ 1000) (k : Nat) (hk : k < n) (a : Nat) (ha : a < 8) (hz : ∀ j, j < 8 → j ≠ a → inoAt (geo1 m) h (k + 2) (3 + j) = 0) (h0 : inoAt (geo1 m) h (k + 2) (3 + a) ≠ 0) :
    ∃ nd, (rawK (repO (geo1 m) h 3) (fixR (geo1 m) (repO (geo1 m) h 3)) 16)[k + 1]? = some nd ∧ nd.size = capI (inoAt (geo1 m) h (k + 2)) 2 ∧ nd.blocks.length = if keptG m h k a = true then 1 else 0 := by
  have B := L.simpB hn h8 h1000
  have hm : 0 < m := by omega
  obtain ⟨nd, i, h1, h2, h3, h4⟩ := B.fnode hn hm k hk
  refine ⟨nd, h1, ?_, ?_⟩
  · rw [h2]; unfold jG; rw [if_neg (by omega)]; rfl
  · have s := fun j (hj : j < 8) => (h3 (3 + j) (by omega)).trans (L.slot_at k hk j hj)
    rw [h4, partsK_one _ (a := a) (fun j h1 h2 => by rw [s j h1, hz j h1 h2]; split <;> rfl) 8 (Nat.le_refl _), s a ha]
    by_cases q : keptG m h k a = true
    · rw [if_pos q, if_pos q, if_pos ⟨ha, h0⟩]
    · rw [if_neg q, if_neg q, if_neg (fun r => r.2 rfl)]
end
end Go.Proofs.YtbbgahffcjbloaaGreat
end

section
/- FsckSizes: the pure side. -/
namespace Go.Proofs.YtbbgahffcjbloaaGreat
open Go.RowKit

theorem likeG_of {m n : Nat} {h : Nat → Nat} (hn : n ≤ 9) (byte : ∀ k, h k < 256) (sup : ∀ k, k < 1024 → h k = superF (geo1 m) k) (J : Nat → InoN) (root : ∀ j, j < 13 → J 0 j = rootI j) (r : ∀ x, x ≤ n → InoR (J x) ∧ inoOk (J x) = true)
    (ino : ∀ x, x ≤ n → ∀ k, k < 64 → h (2048 + 64 * x + k) = inoF (J x) k) (f0 : ∀ k, k < n → J (k + 1) 0 = 1 ∧ J (k + 1) 11 = 0 ∧ J (k + 1) 12 = 0) (ents : ∀ j, 2 ≤ j → j < 32 → ∀ k, k < 32 → h (3072 + 32 * j + k) = entF (entN n j).1 (entN n j).2 k) : LikeG m n h ∧ ∀ x, x ≤ n → ∀ j, j < 13 → inoAt (geo1 m) h (x + 1) j = J x j := by
  have I : ∀ x, x ≤ n → ∀ j, j < 13 → inoAt (geo1 m) h (x + 1) j = J x j := fun x hx => inoAt_of (g := geo1 m) (f := h) (x := x + 1) (J := J x) (geo1_ino m x (by omega)) (r x hx).1 (r x hx).2 (fun k hk => by rw [rawF_at m x (by omega)]; exact ino x hx k hk)
  have I0 : ∀ j, j < 13 → inoAt (geo1 m) h 1 j = rootI j := fun j hj => (I 0 (by omega) j hj).trans (root j hj)
  refine ⟨⟨byte, sup, I0 0 (by omega), I0 2 (by omega), I0 3 (by omega), fun j h1 h2 => ?_, fun k hk => ?_, fun k hk => ?_, fun k hk => ?_, fun k hk => ?_, fun j h1 h2 => ?_⟩, I⟩
  · rw [I0 j h2]; unfold rootI; rw [if_neg (by omega), if_neg (by omega), if_neg (by omega), if_neg (by omega)]
  · rw [I (k + 1) (by omega) 0 (by omega)]; exact (f0 k hk).1
  · rw [I (k + 1) (by omega) 11 (by omega), (f0 k hk).2.1]; rfl
  · rw [I (k + 1) (by omega) 12 (by omega), (f0 k hk).2.2]; rfl
  · rw [rootE_of hn (by omega) (ents (k + 2) (by omega) (by omega)), entN_file n (k + 2) (by omega) (by omega)]; rfl
  · rw [rootE_of hn h2 (ents j (by omega) h2), entN_no n j h1]
/-- Repair of such an image, and the reference's tree of what it hands back -/
theorem lrepG_c {m n N : Nat} {h : Nat → Nat} (hn : n ≤ 9) (h8 : 8 ≤ m) (h1000 : m ≤ 1000) (hN : N = (3 + m) * 1024) (L : LikeG m n h) (W : World) (base G cap : Nat) (ho : W.ownsRow base 5 1 (.slice (some ⟨G, 0, none⟩) N cap) N (bytesL h N)) :
    Calls Tryz.prog 11 #[.slice (some ⟨G, 0, none⟩) N cap] W fun e w' => ∃ G' cap' v, e = .returned (.tuple #[.slice (some ⟨G', 0, none⟩) N cap', v, .bool true]) ∧
      w'.ownsRow W.heap.size 5 1 (.slice (some ⟨G', 0, none⟩) N cap') N (bytesL (repO (geo1 m) h 3) N) ∧
      w'.ownsRow W.heap.size 3 1 v (unlike h (repO (geo1 m) h 3) (3 + m)).length ((unlike h (repO (geo1 m) h 3) (3 + m)).map fun n => .int .i64 (n : Nat)) ∧ Below W.heap.size W w' := by
  obtain ⟨s1, s2⟩ := L.supOk h8 h1000
  obtain ⟨l1, l2, l3, l4⟩ := own_len ho
  unfold maxLen at l4
  have et : (geo1 m).total = 3 + m := by show 1 + 1 * (1 + 1 + m) = 3 + m; omega
  have := frep_c (geo1 m) G 0 N cap 3 h W s1.symm (own_rdB ho) L.byte (by rw [et]; exact hN) l3 (by omega) (by rw [hN]; exact L.ofOk h8 h1000) (L.ok hn h8 h1000)
  rw [et] at this
  exact this
theorem simp_raw {n : Nat} {cs : Nat → Nat → Bool} {J : Nat → InoN} {f : Nat → Nat} (B : SimpB 20 n cs J f) (hn : n ≤ 9) (W : World) (base G cap : Nat) (ho : W.ownsRow base 5 1 (.slice (some ⟨G, 0, none⟩) 23552 cap) 23552 (bytesL f 23552)) :
    Calls Tryz.prog 12 #[.slice (some ⟨G, 0, none⟩) 23552 cap] W fun e w' => ∃ v, e = .returned (.tuple #[v, .int .i64 0]) ∧ NodesAt w' W.heap.size v (rawK f (fixR (geo1 20) f) 16) ∧ Below W.heap.size W w' := by
  obtain ⟨l1, l2, l3, l4⟩ := own_len ho
  unfold maxLen at l4
  exact rraw_c (geo1 20) f G 0 23552 cap W ⟨geo1_ok (by decide) (by decide), rfl, l3, by omega, own_rdB ho, B.byte⟩ (B.raw hn (by decide) (by decide))
/-- a file's inode with one pointer -/
def oneI (s a P : Nat) : InoN := fun j => if j = 0 then 1 else if j = 1 then 1 else if j = 2 then s else if j = 3 + a then P else 0
theorem oneI_r {s a P : Nat} (hs : s < 4294967296) (hP : P < 4294967296) : InoR (oneI s a P) :=
  ⟨by show (1 : Nat) < 65536; decide, by show (1 : Nat) < 65536; decide, hs, fun j h1 h2 => by
    unfold oneI
    rw [if_neg (by omega), if_neg (by omega), if_neg (by omega)]
    split <;> omega⟩
theorem oneI_ok (s a P : Nat) : inoOk (oneI s a P) = true := rfl
theorem oneI_ptr (s a P j : Nat) : oneI s a P (3 + j) = if j = a then P else 0 := by
  unfold oneI
  rw [if_neg (by omega), if_neg (by omega), if_neg (by omega)]
  by_cases h : j = a
  · rw [if_pos (by omega), if_pos h]
  · rw [if_neg (by omega), if_neg h]
/-- the Tree of one file, its size and its pointer's place changed; the first j bytes of the size -/
def hS (s a j : Nat) : Nat → Nat := fun q => if 2116 ≤ q ∧ q < 2116 + j then byteN s (q - 2116) else if q = 2120 + 4 * a then 4 else if q = 2120 then 0 else trF 20 1 q
end Go.Proofs.YtbbgahffcjbloaaGreat
end

section
/- FsckTwins: the pure side. -/
namespace Go.Proofs.YtbbgahffcjbloaaGreat
open Go.RowKit

/-- the files' pointers: that of b is a's -/
def twP (a b k : Nat) : Nat := if k = b then 4 + a else 4 + k
def hT (n a b : Nat) : Nat → Nat := fun q => if q = 2048 + 64 * (b + 1) + 8 then 4 + a else trF 20 n q
theorem hT_lt {n a b : Nat} (hn : n ≤ 9) (ha : a < n) (q : Nat) : hT n a b q < 256 := by
  unfold hT
  split
  · omega
  · exact trF_lt 20 n (by omega) q
theorem fileI_one (k : Nat) : ∀ j, fileI k j = oneI 10 0 (4 + k) j := fun j => rfl
theorem hT_like {n a b : Nat} (hn : n ≤ 9) (ha : a < n) (hb : b < n) : LikeG 20 n (hT n a b) ∧ ∀ k, k < n → ∀ j, j < 13 → inoAt (geo1 20) (hT n a b) (k + 2) j = oneI 10 0 (twP a b k) j := by
  have hP : ∀ k, k < n → twP a b k < 256 := fun k hk => by unfold twP; split <;> omega
  have far : ∀ q, q ≠ 2048 + 64 * (b + 1) + 8 → hT n a b q = trF 20 n q := fun q hq => by unfold hT; rw [if_neg hq]
  have := likeG_of (m := 20) (n := n) (h := hT n a b) hn (hT_lt hn ha) (fun k hk => by rw [far _ (by omega)]; exact trF_sup 20 n (by omega) k hk) (fun x => if x = 0 then rootI else oneI 10 0 (twP a b (x - 1))) (fun j _ => rfl) (fun x hx => by
    by_cases h0 : x = 0
    · subst h0; exact ⟨rootI_r, rfl⟩
    · simp only [if_neg h0]; exact ⟨oneI_r (by decide) (by have := hP (x - 1) (by omega); omega), oneI_ok _ _ _⟩) (fun x hx k hk => by
    have tr := trF_row 20 n hn x (by omega) k hk
    rw [if_pos hx] at tr
    by_cases h0 : x = 0
    · subst h0
      rw [far _ (by omega), tr]; rfl
    · obtain ⟨y, rfl⟩ : ∃ y, x = y + 1 := ⟨x - 1, by omega⟩
      have e1 : treeI (y + 1) = oneI 10 0 (4 + y) := by unfold treeI; rw [if_neg h0, show y + 1 - 1 = y by omega]; funext j; exact fileI_one y j
      rw [e1] at tr
      simp only [if_neg h0, show y + 1 - 1 = y by omega]
      by_cases hy : y = b
      · subst hy
        have e2 : twP a y y = 4 + a := if_pos rfl
        rw [e2]
        by_cases h8 : k = 8
        · subst h8
          unfold hT
          rw [if_pos (by omega)]
          have := inoF_at (oneI 10 0 (4 + a)) 0 0 (by decide) (by decide)
          rw [show 8 + 4 * 0 + 0 = 8 from rfl] at this
          rw [this]
          show 4 + a = byteN (4 + a) 0
          simp [byteN]; omega
        · rw [far _ (by omega), tr]
          by_cases h1 : k < 8
          · rw [inoF_lo _ _ h1, inoF_lo _ _ h1]; rfl
          · by_cases h48 : k < 48
            · obtain ⟨c, j, rfl, hc, hj⟩ : ∃ c j, k = 8 + 4 * c + j ∧ c < 10 ∧ j < 4 := ⟨(k - 8) / 4, (k - 8) % 4, by omega, by omega, by omega⟩
              rw [inoF_at _ _ _ hc hj, inoF_at _ _ _ hc hj, oneI_ptr, oneI_ptr]
              by_cases h3 : c = 0
              · rw [if_pos h3, if_pos h3]
                have z : ∀ v, v < 256 → byteN v j = 0 := fun v hv => by
                  unfold byteN
                  have hj0 : j ≠ 0 := by omega
                  obtain ⟨i, rfl⟩ : ∃ i, j = i + 1 := ⟨j - 1, by omega⟩
                  rw [Nat.pow_succ, Nat.div_eq_of_lt]
                  have := Nat.one_le_two_pow (n := 0)
                  have h1 : 1 ≤ 256 ^ i := Nat.one_le_pow _ _ (by decide)
                  omega
                rw [z _ (by omega), z _ (by omega)]
              · rw [if_neg h3, if_neg h3]
            · unfold inoF catF; rw [if_neg h48, if_neg h48]
      · have e2 : twP a b y = 4 + y := if_neg hy
        rw [e2, far _ (by omega), tr]) (fun k hk => by
    simp only [if_neg (show ¬ k + 1 = 0 by omega)]
    exact ⟨rfl, by
      show oneI 10 0 _ (3 + 8) = 0
      rw [oneI_ptr, if_neg (by omega)], by
      show oneI 10 0 _ (3 + 9) = 0
      rw [oneI_ptr, if_neg (by omega)]⟩) (fun j h1 h2 k hk => by rw [far _ (by omega)]; exact trF_erow 20 n hn j h2 k hk)
  refine ⟨this.1, fun k hk j hj => ?_⟩
  have h2 := this.2 (k + 1) (by omega) j hj
  simp only [if_neg (show ¬ k + 1 = 0 by omega), show k + 1 - 1 = k by omega] at h2
  exact h2
section
variable {n a b : Nat}
theorem hT_kept (hn : n ≤ 9) (ha : a < n) (hb : b < n) (k : Nat) (hk : k < n) : keptG 20 (hT n a b) k 0 = !cG (geo1 20) (hT n a b) k (twP a b k) := by
  obtain ⟨L, I⟩ := hT_like (a := a) (b := b) hn ha hb
  have hz : ∀ j, j < 8 → j ≠ 0 → inoAt (geo1 20) (hT n a b) (k + 2) (3 + j) = 0 := fun j h1 h2 => by rw [I k hk (3 + j) (by omega), oneI_ptr, if_neg h2]
  have hp : inoAt (geo1 20) (hT n a b) (k + 2) (3 + 0) = twP a b k := by rw [I k hk (3 + 0) (by omega), oneI_ptr, if_pos rfl]
  have e2 : capI (inoAt (geo1 20) (hT n a b) (k + 2)) 2 = 10 := by
    unfold capI; rw [if_pos rfl, I k hk 2 (by decide)]; rfl
  rw [L.keptOne k 0 (by decide) hz, e2, hp, dOk_one (by unfold twP; split <;> omega) (by unfold twP; split <;> omega)]
  rfl
theorem hT_claims (hn : n ≤ 9) (ha : a < n) (hb : b < n) : ∀ k, k ≤ n → ∀ x, cG (geo1 20) (hT n a b) k x = true ↔ x = 3 ∨ ∃ j, j < k ∧ x = twP a b j
  | 0, _, x => by
    show cN 0 x = true ↔ _
    unfold cN
    rw [Bool.or_eq_true, decide_eq_true_eq, decide_eq_true_eq]
    constructor
    · rintro (h | h)
      · exact .inl h
      · omega
    · rintro (h | ⟨j, hj, _⟩)
      · exact .inl h
      · omega
  | k + 1, hk, x => by
    have ih := hT_claims hn ha hb k (by omega)
    obtain ⟨L, I⟩ := hT_like (a := a) (b := b) hn ha hb
    have hz : ∀ j, j < 8 → j ≠ 0 → inoAt (geo1 20) (hT n a b) (k + 2) (3 + j) = 0 := fun j h1 h2 => by rw [I k (by omega) (3 + j) (by omega), oneI_ptr, if_neg h2]
    have hp : inoAt (geo1 20) (hT n a b) (k + 2) (3 + 0) = twP a b k := by rw [I k (by omega) (3 + 0) (by omega), oneI_ptr, if_pos rfl]
    rw [L.claimOne k (by omega) 0 (by decide) hz, hp, hT_kept hn ha hb k (by omega)]
    dsimp only
    rw [Bool.or_eq_true, Bool.and_eq_true, Bool.not_eq_true', decide_eq_true_eq, ih x]
    constructor
    · rintro ((h | ⟨j, hj, e⟩) | ⟨_, e⟩)
      · exact .inl h
      · exact .inr ⟨j, by omega, e⟩
      · exact .inr ⟨k, by omega, e⟩
    · rintro (h | ⟨j, hj, e⟩)
      · exact .inl (.inl h)
      · by_cases hjk : j = k
        · subst hjk
          by_cases q : cG (geo1 20) (hT n a b) j (twP a b j) = true
          · left
            have := (ih (twP a b j)).1 q
            rwa [e]
          · exact .inr ⟨by simpa using q, e⟩
        · exact .inl (.inr ⟨j, by omega, e⟩)
/-- the one that is named first keeps the block -/
theorem hT_two (hn : n ≤ 9) (ha : a < n) (hb : b < n) (hab : a ≠ b) : keptG 20 (hT n a b) (min a b) 0 = true ∧ keptG 20 (hT n a b) (max a b) 0 = false := by
  refine ⟨?_, ?_⟩
  · rw [hT_kept hn ha hb _ (by omega), Bool.not_eq_true']
    rw [Bool.eq_false_iff]
    intro q
    have := (hT_claims hn ha hb (min a b) (by omega) _).1 q
    rcases this with h | ⟨j, hj, h⟩
    · unfold twP at h; split at h <;> omega
    · unfold twP at h; split at h <;> split at h <;> omega
  · rw [hT_kept hn ha hb _ (by omega), Bool.not_eq_false']
    refine (hT_claims hn ha hb (max a b) (by omega) _).2 (.inr ⟨min a b, by omega, ?_⟩)
    unfold twP
    split <;> split <;> omega
theorem hT_node (hn : n ≤ 9) (ha : a < n) (hb : b < n) (k : Nat) (hk : k < n) : ∃ nd, (rawK (repO (geo1 20) (hT n a b) 3) (fixR (geo1 20) (repO (geo1 20) (hT n a b) 3)) 16)[k + 1]? = some nd ∧ nd.size = 10 ∧ nd.blocks.length = if keptG 20 (hT n a b) k 0 = true then 1 else 0 := by
  obtain ⟨L, I⟩ := hT_like (a := a) (b := b) hn ha hb
  have hz : ∀ j, j < 8 → j ≠ 0 → inoAt (geo1 20) (hT n a b) (k + 2) (3 + j) = 0 := fun j h1 h2 => by rw [I k hk (3 + j) (by omega), oneI_ptr, if_neg h2]
  have hp : inoAt (geo1 20) (hT n a b) (k + 2) (3 + 0) = twP a b k := by rw [I k hk (3 + 0) (by omega), oneI_ptr, if_pos rfl]
  have e2 : capI (inoAt (geo1 20) (hT n a b) (k + 2)) 2 = 10 := by
    unfold capI; rw [if_pos rfl, I k hk 2 (by decide)]; rfl
  obtain ⟨nd, h1, h2, h3⟩ := L.node hn (by decide) (by decide) k hk 0 (by decide) hz (by rw [hp]; unfold twP; split <;> omega)
  exact ⟨nd, h1, h2.trans e2, h3⟩
end
end Go.Proofs.YtbbgahffcjbloaaGreat
end

section
/- FsckTwins: the walk. -/
namespace Go.Proofs.YtbbgahffcjbloaaGreat
open Go.RowKit

/-- a node's cells: its size, its blocks -/
theorem node_cells {w : World} {NG c : Nat} {l : List Nd} (h : NodesAt w 0 (.slice (some ⟨NG, 0, none⟩) l.length c) l) (i : Nat) (nd : Nd) (hi : l[i]? = some nd) : NG < w.heap.size ∧ w.cell? ⟨NG, i * 6 + 3, none⟩ = some (.int .i64 (nd.size : Nat)) ∧ ∃ pa pc, w.cell? ⟨NG, i * 6 + 4, none⟩ = some (.slice pa nd.blocks.length pc) := by
  obtain ⟨G, y, hA, lG, gc, hy⟩ := h.node i nd hi
  cases hA
  obtain ⟨P, S⟩ := y
  obtain ⟨pa, pc, hpe⟩ := hy.parts.form
  dsimp only at hpe
  subst hpe
  have c3 := gc 3 (by omega)
  have c4 := gc 4 (by omega)
  simp only [ndV, List.getElem?_cons_zero, List.getElem?_cons_succ] at c3 c4
  exact ⟨lG, c3, pa, pc, c4⟩
set_option maxRecDepth 1000000 in
set_option maxHeartbeats 8000000 in
theorem twins_yes (n a b : Nat) (w : World) (hn : n ≤ 9) (ha : a < n) (hb : b < n) (hab : a ≠ b) : Calls Tryz.prog 7 #[.int .i64 n, .int .i64 a, .int .i64 b] w fun e w' => e = .returned (.bool true) ∧ Below w.heap.size w w' := by
  have AL := alive_c
  have TR := tree_c n hn
  obtain ⟨L, _⟩ := hT_like (a := a) (b := b) hn ha hb
  have B := L.simpB hn (by decide) (by decide)
  have DK : ∀ (W : World), Calls Tryz.prog 19 #[.agg #[.int .i64 1, .int .i64 1, .int .i64 20], .int .i64 ((a : Int) + 1)] W fun e w' => e = .returned (.tuple #[.int .i64 ((4 + a : Nat) : Int), .bool true]) ∧ Below W.heap.size W w' := fun W => by
    have h := rdata_c (geo1 20) (geo1_ok (by decide) (by decide)) (a + 1) (by show a + 1 < 1 * 20; omega) W
    rw [Geo.one_data (g := geo1 20) (n := a + 1) (by show a + 1 < 20; omega), show 2 + (geo1 20).ino + (a + 1) = 4 + a by show 2 + 1 + (a + 1) = 4 + a; omega] at h
    exact h
  have RP := fun W base G cap ho => lrepG_c (m := 20) (n := n) (N := 23552) (h := hT n a b) hn (by decide) (by decide) (by decide) L W base G cap ho
  have RW := fun W base G cap ho => simp_raw B hn W base G cap ho
  have FA := fun W v hv => B.find hn (by decide) W v hv a ha
  have FB := fun W v hv => B.find hn (by decide) W v hv b hb
  obtain ⟨na, n1, n2, n3⟩ := hT_node hn ha hb (min a b) (by omega)
  obtain ⟨nb, m1, m2, m3⟩ := hT_node hn ha hb (max a b) (by omega)
  obtain ⟨k1, k2⟩ := hT_two hn ha hb hab
  rw [k1, if_pos rfl] at n3
  rw [k2, if_neg (by decide)] at m3
  have hLL := B.nd_length hn (by decide)
  clear k1 k2 L B
  generalize rawK (repO (geo1 20) (hT n a b) 3) (fixR (geo1 20) (repO (geo1 20) (hT n a b) 3)) 16 = LL at RW FA FB n1 m1 hLL
  unfold pathN at FA FB
  have gk : ∀ W : World, Blk 24 (W.alloc (.cells #[.int .i64 1, .int .i64 1, .int .i64 20] 24)) W.heap.size [.int .i64 1, .int .i64 1, .int .i64 20] := fun W => Blk.newL _
  have e1 : ((a + 1 : Nat) : Int) = (a : Int) + 1 := by omega
  have e2 : ((b + 1 : Nat) : Int) = (b : Int) + 1 := by omega
  rw [e1] at FA
  rw [e2] at FB
  have HAL := Lib.hid AL; have HTR := Lib.hid TR; have HDK := Lib.hid DK; have HRP := Lib.hid RP; have HRW := Lib.hid RW; have HFA := Lib.hid FA; have HFB := Lib.hid FB; have HGK := Lib.hid gk; have HN1 := Lib.hid n1; have HN2 := Lib.hid n2; have HN3 := Lib.hid n3; have HM1 := Lib.hid m1; have HM2 := Lib.hid m2; have HM3 := Lib.hid m3; have HLL := Lib.hid hLL
  have d0 : decide ((n : Int) < 2) = false := by simp; omega
  have d1 : decide ((9 : Int) < (n : Int)) = false := by simp; omega
  have d2 : decide ((a : Int) < 0) = false := by simp
  have d3 : decide ((b : Int) < 0) = false := by simp
  have d4 : decide ((n : Int) ≤ (a : Int)) = false := by simp; omega
  have d5 : decide ((n : Int) ≤ (b : Int)) = false := by simp; omega
  have d6 : ((a : Int) == (b : Int)) = false := by simp; omega
  clear AL TR DK RP RW FA FB gk n1 n2 n3 m1 m2 m3 hLL e1 e2
  go_enter Tryz.func7, Tryz.ntmps7
  go_upto_region 7 with (first
    | (go_at_call 9; refine (HAL.out _).mono ?_; rintro e w1 ⟨rfl, hb1⟩; have HB1 := Lib.hid hb1; have hz1 := hb1.size; have k1 := HGK.out w1; have c0 := k1.cell 0; have c1 := k1.cell 1; have c2 := k1.cell 2; simp only [List.getElem?_cons_zero, List.getElem?_cons_succ] at c0 c1 c2; have HK1 := Lib.hid k1; clear hb1 k1)
    | (go_at_call 10; refine (HTR.out _).mono ?_; rintro e w2 ⟨G, cap, rfl, ho2, hb2⟩; have hz2 := hb2.size; have hk2 := HK1.out.below hb2 (by simp); have g0 := hk2.cell 0; have g1 := hk2.cell 1; have g2 := hk2.cell 2; simp only [List.getElem?_cons_zero, List.getElem?_cons_succ] at g0 g1 g2; have HO2 := Lib.hid ho2; have HB2 := Lib.hid hb2; clear ho2 hb2 hk2)
    | (go_at_call 19; refine (HDK.out _).mono ?_; rintro e w3 ⟨rfl, hb3⟩; have hz3 := hb3.size; have HB3 := Lib.hid hb3; clear hb3))
  obtain ⟨l1, l2, l3, l4⟩ := own_len HO2.out
  unfold maxLen at l4
  have hwG : w.heap.size ≤ G := by simp at l1; omega
  have hB3 : Below w.heap.size w w3 := ((HB1.out.alloc hz1 _).trans (HB2.out.mono (by simp; omega))).trans (HB3.out.mono (by simp at hz2; omega))
  have ho3 := own_below (own_mono HO2.out (base' := w.heap.size) (by simp; omega)) HB3.out
  obtain ⟨p1, p2⟩ := own_get ho3 (i := 2048 + 64 * (b + 1) + 8) (by omega)
  have lq3 : G < w3.heap.size := (own_len ho3).2.1
  have HO := Lib.hid ho3; have HBW := Lib.hid hB3
  clear ho3 hB3 c0 c1 c2 g0 g1 g2 HO2 HB2 HB1 HB3 HK1
  go_upto_region 8 with fail
  have s1 := own_set HO.out (i := 2048 + 64 * (b + 1) + 8) (by omega) (4 + a) (u := .int .u8 (4 + (a : Int))) (by congr 1)
  have hB4 : Below w.heap.size w (w3.setCell ⟨G, 2048 + 64 * (b + 1) + 8, none⟩ (.int .u8 (4 + (a : Int)))) := HBW.out.setCell (p := ⟨G, _, none⟩) hwG _
  replace s1 : World.ownsRow _ w.heap.size 5 1 (.slice (some ⟨G, 0, none⟩) 23552 cap) 23552 (bytesL (hT n a b) 23552) := s1
  obtain ⟨w4, hw4⟩ : ∃ W, W = w3.setCell ⟨G, 2048 + 64 * (b + 1) + 8, none⟩ (.int .u8 (4 + (a : Int))) := ⟨_, rfl⟩
  rw [← hw4] at s1 hB4 ⊢
  have HS1 := Lib.hid s1; have HB4 := Lib.hid hB4
  have hz4 := hB4.size
  clear s1 hB4 hw4 p1 p2 HO HBW lq3
  go_upto_if 127 with (first
    | (go_at_call 11; refine (HRP.out _ _ _ _ HS1.out).mono ?_; rintro e w5 ⟨G5, cap5, v5, rfl, ho5, hv5, hb5⟩; obtain ⟨A5, c5, rfl⟩ := own_slice hv5; have hz5 := hb5.size; have HO5 := Lib.hid ho5; have HB5 := Lib.hid hb5; clear ho5 hv5 hb5)
    | (go_at_call 12; refine (HRW.out _ _ _ _ HO5.out).mono ?_; rintro e w6 ⟨v6, rfl, hn6, hb6⟩; have hz6 := hb6.size; have HN6 := Lib.hid (hn6.lower (Nat.zero_le _)); have HB6 := Lib.hid hb6; clear hn6 hb6)
    | (go_at_call 13; with_reducible refine (HFA.out w6 v6 HN6.out).mono ?_; rintro e w7 ⟨rfl, hb7⟩; have hz7 := hb7.size; have HN7 := Lib.hid (HN6.out.below hb7); have HB7 := Lib.hid hb7; clear hb7)
    | (go_at_call 13; with_reducible refine (HFB.out w7 v6 HN7.out).mono ?_; rintro e w8 ⟨rfl, hb8⟩; have hz8 := hb8.size; have HN8 := Lib.hid (HN7.out.below hb8); have HB8 := Lib.hid hb8; clear hb8))
  have hB8 : Below w.heap.size w w8 := (((HB4.out.trans (HB5.out.mono (by omega))).trans (HB6.out.mono (by omega))).trans (HB7.out.mono (by omega))).trans (HB8.out.mono (by omega))
  have HB9 := Lib.hid hB8
  obtain ⟨A6, c6, rfl⟩ := HN8.out.form
  obtain ⟨NG, _, hA, _⟩ := HN8.out.node _ na HN1.out
  subst hA
  clear hB8
  by_cases hba : b < a
  · have t0 : decide ((b : Int) < (a : Int)) = true := by simp; omega
    have mn : min a b = b := by omega
    have mx : max a b = a := by omega
    have x1 := HN1.out
    have x2 := HM1.out
    rw [mn] at x1
    rw [mx] at x2
    obtain ⟨lG, _, pa, pc, c4⟩ := node_cells HN8.out (b + 1) na x1
    obtain ⟨_, d3', pb, qc, d4'⟩ := node_cells HN8.out (a + 1) nb x2
    rw [HN3.out] at c4
    rw [HM2.out] at d3'
    rw [HM3.out] at d4'
    have i1 : (b : Int) + 1 < (LL.length : Int) := by have := HLL.out; omega
    have i2 : (a : Int) + 1 < (LL.length : Int) := by have := HLL.out; omega
    clear x1 x2 mn mx
    go_wp2_with fail
    go_ret
    exact ⟨rfl, HB9.out⟩
  · have t0 : decide ((b : Int) < (a : Int)) = false := by simp; omega
    have mn : min a b = a := by omega
    have mx : max a b = b := by omega
    have x1 := HN1.out
    have x2 := HM1.out
    rw [mn] at x1
    rw [mx] at x2
    obtain ⟨lG, _, pa, pc, c4⟩ := node_cells HN8.out (a + 1) na x1
    obtain ⟨_, d3', pb, qc, d4'⟩ := node_cells HN8.out (b + 1) nb x2
    rw [HN3.out] at c4
    rw [HM2.out] at d3'
    rw [HM3.out] at d4'
    have i1 : (a : Int) + 1 < (LL.length : Int) := by have := HLL.out; omega
    have i2 : (b : Int) + 1 < (LL.length : Int) := by have := HLL.out; omega
    clear x1 x2 mn mx
    go_wp2_with fail
    go_ret
    exact ⟨rfl, HB9.out⟩
end Go.Proofs.YtbbgahffcjbloaaGreat
end

section
/- FsckTwins: whatever the input. -/
namespace Go.Proofs.YtbbgahffcjbloaaGreat
open Go.RowKit

theorem twins_any (n a b : Int) (w : World) : Calls Tryz.prog 7 #[.int .i64 n, .int .i64 a, .int .i64 b] w fun e w' => e = .returned (.bool true) ∧ Below w.heap.size w w' := by
  by_cases hb : n < 2 ∨ 9 < n ∨ a < 0 ∨ b < 0 ∨ n ≤ a ∨ n ≤ b ∨ a = b
  · exact twins_no n a b w hb
  · obtain ⟨n', rfl⟩ : ∃ k : Nat, n = k := ⟨n.toNat, by omega⟩
    obtain ⟨a', rfl⟩ : ∃ k : Nat, a = k := ⟨a.toNat, by omega⟩
    obtain ⟨b', rfl⟩ : ∃ k : Nat, b = k := ⟨b.toNat, by omega⟩
    exact twins_yes n' a' b' w (by omega) (by omega) (by omega) (by omega)
end Go.Proofs.YtbbgahffcjbloaaGreat
end
