/- For every n, at and junk FsckHeads answers true, and its arguments read as they did. No condition. -/
import Derived.Test.YtolbahfbhcpgdaaHeads16
set_option linter.all false
set_option linter.unusedSimpArgs false
set_option linter.unusedVariables false
set_option linter.unusedSectionVars false
namespace Go.Proofs.Ytolbahfbhcpgdaa
open Go.ChangeShapes Go.WideShapes Go.ChangeAt Go.RowKit

theorem trodAll_none_mk {H : Type} {enc : TypeId × Value → H} {P : Program} {w : World} {base : Nat} {sp : Nat → Bool} {hd : Bool} : DataW.TrodAll enc P w base sp hd [] [] [] [] := rfl

theorem heads_any (n a : Int) (A : Option Addr) (l c : Nat) (w : World) (hA : l ≠ 0 → ∃ jb jo jf, A = some ⟨jb, jo, none⟩ ∧ (∀ k, jf k < 256) ∧ RdB w jb jo l jf) : Calls Try.prog 3 #[.int .i64 n, .int .i64 a, .slice A l c] w fun e w' => e = .returned (.bool true) ∧ Below w.heap.size w w' := by
  by_cases hb : n < 0 ∨ 9 < n ∨ a < 0 ∨ 1023 < a ∨ 1024 < l
  · exact heads_no n a _ A l c rfl w hb
  · obtain ⟨n', rfl⟩ : ∃ k : Nat, n = k := ⟨n.toNat, by omega⟩
    obtain ⟨a', rfl⟩ : ∃ k : Nat, a = k := ⟨a.toNat, by omega⟩
    by_cases hl : l = 0
    · subst hl; exact heads_zero n' a' c A w (by omega) (by omega)
    · obtain ⟨jb, jo, jf, rfl, h1, h2⟩ := hA hl
      exact heads_yes n' a' jb jo l c jf w (by omega) (by omega) (by omega) h1 h2

set_option maxRecDepth 100000 in
theorem headsLifted (os : Os) (started : os.Started) (H : Type) (enc : TypeId × Value → H) :
    ReturnsInHanded {} Try.checked os 3 .any (Rows.fsckHeadsSpec.pre6 enc Try.prog Try.f3 Rows.fsckHeadsRow.domain false) (Rows.fsckHeadsSpec.post enc Try.prog Try.f3 false true false false) := by
  refine returnsInHanded_of_change (C := Try.checked) ownKnobNone started (by kernel_rfl) Try.func3
    (ChangeSpec.witness6 (enc := enc) (C := Try.checked) false ⟨#[], #[.int .i64 0, .int .i64 0, .slice none 0 0], []⟩ 8 (by kernel_rfl) (by kernel_rfl) (by kernel_rfl) (by kernel_rfl)) ?_
  intro W base args ds gs before hval0 hW hcnd _
  have hval : ∀ (j : Nat) t v, Try.f3.params[j]? = some t → args[j]? = some v → Value.okWide Try.prog W .any base t v := hval0
  have hW' := hW
  obtain ⟨p, q, hA0, hV, rfl, hfz, hnd⟩ := hW
  have hA : DataW.TrodAll enc Try.prog W 0 (fun _ => true) true Try.f3.params.toList args.toList ds p := hA0
  rw [Try.params3] at hA hval
  obtain ⟨v0, vs0, d0, ds0, p0, q0, hargs, rfl, rfl, h0, r0⟩ := trodAll_cons hA
  obtain ⟨v1, vs1, d1, ds1, p1, q1, rfl, rfl, rfl, h1, r1⟩ := trodAll_cons r0
  obtain ⟨v2, vs2, d2, ds2, p2, q2, rfl, rfl, rfl, h2, r2⟩ := trodAll_cons r1
  obtain ⟨rfl, rfl, rfl⟩ := trodAll_nil r2
  obtain rfl : args = #[v0, v1, v2] := by cases args; simp_all
  obtain ⟨rfl, rfl⟩ := trodVars_none hV
  obtain ⟨n, rfl, rfl, rfl, wn⟩ := open_int Try.underlying3 (hval 0 3 v0 rfl rfl) h0
  obtain ⟨a, rfl, rfl, rfl, wa⟩ := open_int Try.underlying3 (hval 1 3 v1 rfl rfl) h1
  obtain ⟨A0, l, c, rfl⟩ := okWide_slice Try.underlying22 (hval 2 22 v2 rfl rfl)
  obtain ⟨fuel, hf⟩ := h2
  clear hA0 hval0
  simp only [List.append_nil] at hW'
  have wt : (Lit.bool true).wf = true := rfl
  rcases open_ints Try.underlying22 Try.underlying5 cells8 hf with ⟨hcs, hx⟩ | ⟨a', len', cap', zs, hcs, _, hl, hm, hz, hx, hcell, hwz⟩
  · simp [Value.cells] at hcs
    obtain ⟨rfl, rfl, rfl⟩ := hcs
    simp only [Prod.mk.injEq] at hx
    obtain ⟨rfl, rfl⟩ := hx
    refine (heads_any n a none 0 0 W (fun h => absurd rfl h)).mono fun e W' ⟨he, hb⟩ => ?_
    subst he
    refine ⟨_, rfl, still_post (pa := _) hW' hb (fun _ _ _ => trodAll_mk1 (shut_bool Try.underlying4 true)) (fun sp hsp => ?_) (fun _ _ => rfl) (ok_one (by kernel_rfl) rfl (okWide_bool_mk Try.underlying4 true))⟩
    exact trodAll_cons_mk (p := []) (shut_int Try.underlying3 wn) (trodAll_cons_mk (p := []) (shut_int Try.underlying3 wa) (trodAll_cons_mk (p := []) (shut_slice_nil Try.underlying22) trodAll_none_mk))
  · simp [Value.cells] at hcs
    obtain ⟨rfl, rfl, rfl⟩ := hcs
    simp only [Prod.mk.injEq] at hx
    obtain ⟨rfl, rfl⟩ := hx
    simp only [if_true] at hz
    have hlt : ∀ i, i < zs.length → a'.block < W.heap.size := fun i hi => hW'.lt (.cell a'.block (a'.off + i)) (by simp; exact MemPlace.mem_row.2 ⟨i, hi, rfl⟩)
    refine (heads_any n a (some a') l c W fun hl0 => ?_).mono fun e W' ⟨he, hb⟩ => ?_
    · obtain ⟨jb, jo, spot⟩ := a'
      have hspot : spot = none := by simpa [Addr.add] using World.cell?_spot (hcell 0 (by omega))
      subst hspot
      refine ⟨jb, jo, fun k => (zs.getD k 0).toNat, rfl, fun k => ?_, fun k hk => ?_⟩
      · by_cases hk : k < zs.length
        · have h1 : zs.getD k 0 = zs[k] := by simp [List.getD, hk]
          have := bounds_u8 (hwz _ (List.getElem_mem hk))
          simp only [h1]; omega
        · simp [List.getD, hk]
      · have hk' : k < zs.length := by omega
        have h1 : zs.getD k 0 = zs[k] := by simp [List.getD, hk']
        have := bounds_u8 (hwz _ (List.getElem_mem hk'))
        rw [← add_plain, hcell k hk']
        simp only [Option.some.injEq, Value.int.injEq, true_and]
        rw [h1]; omega
    · subst he
      have hcell' : ∀ i, i < zs.length → W'.cell? (a'.add i) = some (.int .u8 (zs.getD i 0)) := fun i hi => by rw [hb.cell (p := a'.add i) (by rw [block_add]; exact hlt i hi)]; exact hcell i hi
      refine ⟨_, rfl, still_post (pa := _) hW' hb (fun _ _ _ => trodAll_mk1 (shut_bool Try.underlying4 true)) (fun sp hsp => ?_) (fun _ _ => rfl) (ok_one (by kernel_rfl) rfl (okWide_bool_mk Try.underlying4 true))⟩
      refine trodAll_cons_mk (p := []) (shut_int Try.underlying3 wn) (trodAll_cons_mk (p := []) (shut_int Try.underlying3 wa) (trodAll_mk1 (p := MemPlace.row a' zs.length) ?_))
      by_cases hz0 : zs.length = 0
      · have hc0 : c = 0 := by omega
        have hl0 : l = 0 := by omega
        subst hc0; subst hl0
        have t0 := shut_ints (enc := enc) (w := W') (base := 0) (spare := sp) (held := true) (a := a') (len := 0) (cap := 0) (zs := zs) 0 Try.underlying22 Try.underlying5 cells8 (Nat.zero_le _) (Nat.le_refl _) hm (by simp [hz0]) hcell' hwz
        refine ⟨2, ?_⟩; simp [Value.cells] at t0 ⊢; exact t0
      · have hspb : sp a'.block = true := hsp (.cell a'.block a'.off) (by simp; exact MemPlace.mem_row.2 ⟨0, by omega, by simp⟩)
        have t0 := shut_ints (enc := enc) (w := W') (base := 0) (spare := sp) (held := true) (a := a') (len := l) (cap := c) (zs := zs) 0 Try.underlying22 Try.underlying5 cells8 (Nat.zero_le _) hl hm (by simp [hspb, hz]) hcell' hwz
        refine ⟨2, ?_⟩; simp [Value.cells] at t0 ⊢; exact t0

theorem heads_holds : Rows.FsckHeadsSaid :=
  OpenClaim.holds_of_wide 3 Try.f3 rfl rfl rfl rfl rfl rfl rfl ⟨rfl, rfl, rfl, rfl, rfl⟩ rfl rfl rfl rfl rfl (by kernel_rfl) Try.func3 (by kernel_rfl)
    (of_decide_eq_true (by kernel_rfl)) (by unfold Func.isWrapper; first | (rw [if_pos (by decide +kernel)]; kernel_rfl) | (rw [if_neg (by decide +kernel)]; exact ⟨rfl, rfl⟩))
    (fun os started H enc _ => headsLifted os started H enc)
end Go.Proofs.Ytolbahfbhcpgdaa
