/- Part of the road to ClDataRow: ClLawD. -/
import Derived.Test.YtlkeegmpjjoicaaDoorPrt03
set_option linter.all false
set_option linter.unusedSimpArgs false
set_option linter.unusedVariables false
set_option linter.unusedSectionVars false
section
/- CallsData, walked. -/
namespace Go.Proofs.YtlkeegmpjjoicaaDoor
open Go.RowKit

set_option maxRecDepth 100000 in
set_option maxHeartbeats 4000000 in
theorem law_data_far (l : List UInt8) (off : Int) (va : Option Addr) (vc : Nat) (w : World) (hG : Gl w) (h : 2000 < l.length) :
    Calls Tryd.prog 5 #[.slice va l.length vc, .int .i64 off] w fun e w' => e = .returned (.bool true) ∧ Below w.heap.size w w' := by
  have t1 : decide (2000 < (l.length : Int)) = true := by simp; omega
  have HG := Lib.hid hG
  clear hG
  go_enter Tryd.func5, Tryd.ntmps5
  go_wp2_with (go_at_call 6; refine (alive_c _ HG.out).mono ?_; rintro e w2 ⟨rfl, hb2⟩; have HB2 := Lib.hid hb2; clear hb2)
  go_ret
  exact ⟨rfl, HB2.out⟩
def cD (l : List UInt8) (off : Int) : CV := ⟨8, ⟨#[47, 120]⟩, ⟨#[]⟩, off, 0, l⟩
theorem read_d (l : List UInt8) (off : Int) (ho : intOk off) (h : l.length ≤ 2000) (w : World) (hG : Gl w) :
    Calls Tryd.prog 9 #[.string (baL (printL (cD l off)))] w fun e w' => ∃ va vc, e = .returned (.tuple #[.agg #[.int .i64 8, .string ⟨#[47, 120]⟩, .string ⟨#[]⟩, .int .i64 off, .int .i64 0, .slice va l.length vc], .int .i64 0]) ∧ SlB w' (.slice va l.length vc) l ∧ Below w.heap.size w w' :=
  read_k (cD l off) ⟨by show (2 : Nat) ≤ _; omega, by show (0 : Nat) ≤ _; omega, ho.1, ho.2, by show _ ≤ (0 : Int); omega, by show (0 : Int) ≤ _; omega, by show l.length ≤ _; omega⟩ (by show intOk 8; unfold intOk; omega) rfl w hG
theorem print_d (l : List UInt8) (off : Int) (ho : intOk off) (h : l.length ≤ 2000) (v : Value) (w : World) (hG : Gl w) (hv : SlB w v l) :
    Calls Tryd.prog 7 #[.agg #[.int .i64 8, .string ⟨#[47, 120]⟩, .string ⟨#[]⟩, .int .i64 off, .int .i64 0, v]] w fun e w' => e = .returned (.string (baL (printL (cD l off)))) ∧ Below w.heap.size w w' :=
  print_c (cD l off) ⟨by show (2 : Nat) ≤ _; omega, by show (0 : Nat) ≤ _; omega, ho.1, ho.2, by show _ ≤ (0 : Int); omega, by show (0 : Int) ≤ _; omega, by show l.length ≤ _; omega⟩ (by show intOk 8; unfold intOk; omega) v w hG hv
theorem same_d (l : List UInt8) (off : Int) (va vb : Value) (w : World) (ha : SlB w va l) (hb : SlB w vb l) :
    Calls Tryd.prog 11 #[.agg #[.int .i64 8, .string ⟨#[47, 120]⟩, .string ⟨#[]⟩, .int .i64 off, .int .i64 0, va], .agg #[.int .i64 8, .string ⟨#[47, 120]⟩, .string ⟨#[]⟩, .int .i64 off, .int .i64 0, vb]] w fun e w' => e = .returned (.bool true) ∧ Below w.heap.size w w' :=
  same_c (cD l off) va vb w ha hb
theorem dat_size (l : List UInt8) : (baL (datL l)).size = if l = [] then 1 else 2 * l.length := by
  rw [← sz, baL_toList]
  unfold datL
  split
  · rfl
  · exact hexL_length l
set_option maxRecDepth 100000 in
set_option maxHeartbeats 4000000 in
theorem law_data_near (l : List UInt8) (off : Int) (ho : intOk off) (va : Option Addr) (vc : Nat) (w : World) (hG : Gl w) (hv : SlB w (.slice va l.length vc) l) (h : l.length ≤ 2000) :
    Calls Tryd.prog 5 #[.slice va l.length vc, .int .i64 off] w fun e w' => e = .returned (.bool true) ∧ Below w.heap.size w w' := by
  have t1 : decide (2000 < (l.length : Int)) = false := by simp; omega
  have HG := Lib.hid hG; have HV := Lib.hid hv; have HO := Lib.hid ho
  have hsz := dat_size l
  have n1 : ¬ 9223372036854775807 < 5 + (baL (datL l)).size := by rw [hsz]; split <;> omega
  have HS := Lib.hid hsz
  clear hG hv ho hsz
  go_enter Tryd.func5, Tryd.ntmps5
  go_wp2_with (first
    | (go_at_call 6; refine (alive_c _ HG.out).mono ?_; rintro e w2 ⟨rfl, hb2⟩; obtain ⟨Wc, hWc⟩ : ∃ Wc, Wc = w2.alloc (.cells #[.int .i64 8, .string ⟨#[47, 120]⟩, .string ⟨#[]⟩, .int .i64 off, .int .i64 0, .slice va l.length vc] 24) := ⟨_, rfl⟩; have hbc : Below w2.heap.size w2 Wc := (by rw [hWc]; exact (Below.refl _ _).alloc (Nat.le_refl _) _); have hkc : Blk 24 Wc w2.heap.size (callL (cD l off) (.slice va l.length vc)) := (by rw [hWc]; exact Blk.new w2 _); have HBc := Lib.hid (hb2.trans (hbc.mono hb2.size)); have HGc := Lib.hid ((HG.out.below hb2).below hbc); have HVc := Lib.hid ((HV.out.below hb2).below hbc); have HKc := Lib.hid hkc; have hlc := hkc.lt; have HLc := Lib.hid hlc; rw [hWc] at HBc HGc HVc HKc HLc; clear hb2 hbc hkc hlc hWc Wc)
    | (go_at_call 7; refine (print_d l off HO.out h (.slice va l.length vc) _ HGc.out HVc.out).mono ?_; rintro e w3 ⟨rfl, hb⟩; have HB3 := Lib.hid (HBc.out.trans (hb.mono HBc.out.size)); have HG3 := Lib.hid (HGc.out.below hb); have HV3 := Lib.hid (HVc.out.below hb); have HK3 := Lib.hid (HKc.out.below hb HLc.out); clear hb)
    | (go_at_call 9; refine (read_d l off HO.out h _ HG3.out).mono ?_; rintro e w4 ⟨ra, rc, rfl, hr, hb⟩; obtain ⟨Wd, hWd⟩ : ∃ Wd, Wd = w4.alloc (.cells #[.int .i64 8, .string ⟨#[47, 120]⟩, .string ⟨#[]⟩, .int .i64 off, .int .i64 0, .slice ra l.length rc] 24) := ⟨_, rfl⟩; have hbd : Below w4.heap.size w4 Wd := (by rw [hWd]; exact (Below.refl _ _).alloc (Nat.le_refl _) _); have hkd : Blk 24 Wd w4.heap.size (callL (cD l off) (.slice ra l.length rc)) := (by rw [hWd]; exact Blk.new w4 _); have hb4 := HB3.out.trans (hb.mono HB3.out.size); have HBd := Lib.hid (hb4.trans (hbd.mono hb4.size)); have HVd := Lib.hid ((HV3.out.below hb).below hbd); have hkc := HK3.out.below hb HK3.out.lt; have HKc4 := Lib.hid (hkc.below hbd hkc.lt); have HKd := Lib.hid hkd; have HRd := Lib.hid (hr.below hbd); rw [hWd] at HBd HVd HKc4 HKd HRd; clear hb hbd hkd hb4 hkc hr hWd Wd)
    | (go_at_call 14; refine (show_c (.slice va l.length vc) l (by omega) _ HVd.out).mono ?_; rintro e w5 ⟨rfl, hb⟩; have HB5 := Lib.hid (HBd.out.trans (hb.mono HBd.out.size)); have HV5 := Lib.hid (HVd.out.below hb); have HC5 := Lib.hid (HKc4.out.below hb HKc4.out.lt); have HD5 := Lib.hid (HKd.out.below hb HKd.out.lt); have HR5 := Lib.hid (HRd.out.below hb); clear hb)
    | (go_at_call 15; refine (rhex_c (.slice va l.length vc) l (by omega) _ HV5.out).mono ?_; rintro e w6 ⟨rfl, hb⟩; have HB6 := Lib.hid (HB5.out.trans (hb.mono HB5.out.size)); have HV6 := Lib.hid (HV5.out.below hb); have HC6 := Lib.hid (HC5.out.below hb HC5.out.lt); have HD6 := Lib.hid (HD5.out.below hb HD5.out.lt); have HR6 := Lib.hid (HR5.out.below hb); have hlc6 := HC6.out.lt; have hld6 := HD6.out.lt; have c6_0 := HC6.out.cell 0; have c6_1 := HC6.out.cell 1; have c6_2 := HC6.out.cell 2; have c6_3 := HC6.out.cell 3; have c6_4 := HC6.out.cell 4; have c6_5 := HC6.out.cell 5; simp only [callL, List.getElem?_cons_zero, List.getElem?_cons_succ] at c6_0 c6_1 c6_2 c6_3 c6_4 c6_5; have d6_0 := HD6.out.cell 0; have d6_1 := HD6.out.cell 1; have d6_2 := HD6.out.cell 2; have d6_3 := HD6.out.cell 3; have d6_4 := HD6.out.cell 4; have d6_5 := HD6.out.cell 5; simp only [callL, List.getElem?_cons_zero, List.getElem?_cons_succ] at d6_0 d6_1 d6_2 d6_3 d6_4 d6_5; simp only [cD] at c6_0 c6_1 c6_2 c6_3 c6_4 c6_5 d6_0 d6_1 d6_2 d6_3 d6_4 d6_5; clear hb)
    | (go_at_call 10; refine (num_c _ _).mono ?_; rintro e w7 ⟨rfl, rfl⟩)
    | (go_at_call 11; refine (same_d l off _ _ _ HV6.out HR6.out).mono ?_; rintro e w8 ⟨rfl, hb⟩; have HB8 := Lib.hid (HB6.out.trans (hb.mono HB6.out.size)); clear hb))
  · go_ret
    exact ⟨rfl, HB8.out⟩
  · have hne : l ≠ [] := by assumption
    have hs2 := HS.out
    rw [if_neg hne] at hs2
    clear HG HV HO HS HBc HGc HVc HKc HLc HB3 HG3 HV3 HK3 HBd HVd HKc4 HKd HRd HB5 HV5 HC5 HD5 HR5 HB6 HV6 HC6 HD6 HR6
    have e1 : ((l.length : Int) == 0 || 5 + ((baL (datL l)).size : Int) == 5 + 2 * (l.length : Int)) = true := by
      rw [hs2]; simp
    rw [e1]
    go_ret
    exact ⟨rfl, HB8.out⟩
end Go.Proofs.YtlkeegmpjjoicaaDoor
end
