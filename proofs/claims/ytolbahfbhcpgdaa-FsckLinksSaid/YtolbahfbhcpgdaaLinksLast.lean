/- For every n and links FsckLinks answers true, and its arguments read as they did. No condition. -/
import Derived.Test.YtolbahfbhcpgdaaHeads16
import Derived.Test.YtolbahfbhcpgdaaLinks01
set_option linter.all false
set_option linter.unusedSimpArgs false
set_option linter.unusedVariables false
set_option linter.unusedSectionVars false
namespace Go.Proofs.Ytolbahfbhcpgdaa
open Go.ChangeShapes Go.WideShapes Go.ChangeAt Go.RowKit

theorem trodAll_none_mk1 {H : Type} {enc : TypeId × Value → H} {P : Program} {w : World} {base : Nat} {sp : Nat → Bool} {hd : Bool} : DataW.TrodAll enc P w base sp hd [] [] [] [] := rfl

theorem links_any (n : Int) (A : Option Addr) (l c : Nat) (Z : Nat → Int) (w : World) (hA : l ≠ 0 → ∃ lb lo, A = some ⟨lb, lo, none⟩ ∧ ∀ i, i < l → w.cell? ⟨lb, lo + i, none⟩ = some (.int .i64 (Z i))) : Calls Try.prog 4 #[.int .i64 n, .slice A l c] w fun e w' => e = .returned (.bool true) ∧ Below w.heap.size w w' := by
  by_cases hb : n < 0 ∨ 9 < n ∨ n + 1 < l
  · exact links_no n A l c w hb
  · obtain ⟨n', rfl⟩ : ∃ k : Nat, n = k := ⟨n.toNat, by omega⟩
    exact links_yes n' l c A Z w (by omega) (by omega) hA

set_option maxRecDepth 100000 in
theorem linksLifted (os : Os) (started : os.Started) (H : Type) (enc : TypeId × Value → H) :
    ReturnsInHanded {} Try.checked os 4 .any (Rows.fsckLinksSpec.pre6 enc Try.prog Try.f4 Rows.fsckLinksRow.domain false) (Rows.fsckLinksSpec.post enc Try.prog Try.f4 false true false false) := by
  refine returnsInHanded_of_change (C := Try.checked) ownKnobNone started (by kernel_rfl) Try.func4
    (ChangeSpec.witness6 (enc := enc) (C := Try.checked) false ⟨#[], #[.int .i64 0, .slice none 0 0], []⟩ 8 (by kernel_rfl) (by kernel_rfl) (by kernel_rfl) (by kernel_rfl)) ?_
  intro W base args ds gs before hval0 hW hcnd _
  have hval : ∀ (j : Nat) t v, Try.f4.params[j]? = some t → args[j]? = some v → Value.okWide Try.prog W .any base t v := hval0
  have hW' := hW
  obtain ⟨p, q, hA0, hV, rfl, hfz, hnd⟩ := hW
  have hA : DataW.TrodAll enc Try.prog W 0 (fun _ => true) true Try.f4.params.toList args.toList ds p := hA0
  rw [Try.params4] at hA hval
  obtain ⟨v0, vs0, d0, ds0, p0, q0, hargs, rfl, rfl, h0, r0⟩ := trodAll_cons hA
  obtain ⟨v1, vs1, d1, ds1, p1, q1, rfl, rfl, rfl, h1, r1⟩ := trodAll_cons r0
  obtain ⟨rfl, rfl, rfl⟩ := trodAll_nil r1
  obtain rfl : args = #[v0, v1] := by cases args; simp_all
  obtain ⟨rfl, rfl⟩ := trodVars_none hV
  obtain ⟨n, rfl, rfl, rfl, wn⟩ := open_int Try.underlying3 (hval 0 3 v0 rfl rfl) h0
  obtain ⟨A0, l, c, rfl⟩ := okWide_slice Try.underlying27 (hval 1 27 v1 rfl rfl)
  obtain ⟨fuel, hf⟩ := h1
  clear hA0 hval0
  simp only [List.append_nil] at hW'
  have wt : (Lit.bool true).wf = true := rfl
  rcases open_ints Try.underlying27 Try.underlying3 cellsI hf with ⟨hcs, hx⟩ | ⟨a', len', cap', zs, hcs, _, hl, hm, hz, hx, hcell, hwz⟩
  · simp [Value.cells] at hcs
    obtain ⟨rfl, rfl, rfl⟩ := hcs
    simp only [Prod.mk.injEq] at hx
    obtain ⟨rfl, rfl⟩ := hx
    refine (links_any n none 0 0 (fun _ => 0) W (fun h => absurd rfl h)).mono fun e W' ⟨he, hb⟩ => ?_
    subst he
    refine ⟨_, rfl, still_post (pa := _) hW' hb (fun _ _ _ => trodAll_mk1 (shut_bool Try.underlying4 true)) (fun sp hsp => ?_) (fun _ _ => rfl) (ok_one (by kernel_rfl) rfl (okWide_bool_mk Try.underlying4 true))⟩
    exact trodAll_cons_mk (p := []) (shut_int Try.underlying3 wn) (trodAll_cons_mk (p := []) (shut_slice_nil Try.underlying27) trodAll_none_mk1)
  · simp [Value.cells] at hcs
    obtain ⟨rfl, rfl, rfl⟩ := hcs
    simp only [Prod.mk.injEq] at hx
    obtain ⟨rfl, rfl⟩ := hx
    simp only [if_true] at hz
    have hlt : ∀ i, i < zs.length → a'.block < W.heap.size := fun i hi => hW'.lt (.cell a'.block (a'.off + i)) (by simp; exact MemPlace.mem_row.2 ⟨i, hi, rfl⟩)
    refine (links_any n (some a') l c (fun k => zs.getD k 0) W fun hl0 => ?_).mono fun e W' ⟨he, hb⟩ => ?_
    · obtain ⟨jb, jo, spot⟩ := a'
      have hspot : spot = none := by simpa [Addr.add] using World.cell?_spot (hcell 0 (by omega))
      subst hspot
      exact ⟨jb, jo, rfl, fun k hk => by rw [← add_plain]; exact hcell k (by omega)⟩
    · subst he
      have hcell' : ∀ i, i < zs.length → W'.cell? (a'.add i) = some (.int .i64 (zs.getD i 0)) := fun i hi => by rw [hb.cell (p := a'.add i) (by rw [block_add]; exact hlt i hi)]; exact hcell i hi
      refine ⟨_, rfl, still_post (pa := _) hW' hb (fun _ _ _ => trodAll_mk1 (shut_bool Try.underlying4 true)) (fun sp hsp => ?_) (fun _ _ => rfl) (ok_one (by kernel_rfl) rfl (okWide_bool_mk Try.underlying4 true))⟩
      refine trodAll_cons_mk (p := []) (shut_int Try.underlying3 wn) (trodAll_mk1 (p := MemPlace.row a' zs.length) ?_)
      by_cases hz0 : zs.length = 0
      · have hc0 : c = 0 := by omega
        have hl0 : l = 0 := by omega
        subst hc0; subst hl0
        have t0 := shut_ints (enc := enc) (w := W') (base := 0) (spare := sp) (held := true) (a := a') (len := 0) (cap := 0) (zs := zs) 0 Try.underlying27 Try.underlying3 cellsI (Nat.zero_le _) (Nat.le_refl _) hm (by simp [hz0]) hcell' hwz
        refine ⟨2, ?_⟩; simp [Value.cells] at t0 ⊢; exact t0
      · have hspb : sp a'.block = true := hsp (.cell a'.block a'.off) (by simp; exact MemPlace.mem_row.2 ⟨0, by omega, by simp⟩)
        have t0 := shut_ints (enc := enc) (w := W') (base := 0) (spare := sp) (held := true) (a := a') (len := l) (cap := c) (zs := zs) 0 Try.underlying27 Try.underlying3 cellsI (Nat.zero_le _) hl hm (by simp [hspb, hz]) hcell' hwz
        refine ⟨2, ?_⟩; simp [Value.cells] at t0 ⊢; exact t0

theorem links_holds : Rows.FsckLinksSaid :=
  OpenClaim.holds_of_wide 4 Try.f4 rfl rfl rfl rfl rfl rfl rfl ⟨rfl, rfl, rfl, rfl, rfl⟩ rfl rfl rfl rfl rfl (by kernel_rfl) Try.func4 (by kernel_rfl)
    (of_decide_eq_true (by kernel_rfl)) (by unfold Func.isWrapper; first | (rw [if_pos (by decide +kernel)]; kernel_rfl) | (rw [if_neg (by decide +kernel)]; exact ⟨rfl, rfl⟩))
    (fun os started H enc _ => linksLifted os started H enc)
end Go.Proofs.Ytolbahfbhcpgdaa
