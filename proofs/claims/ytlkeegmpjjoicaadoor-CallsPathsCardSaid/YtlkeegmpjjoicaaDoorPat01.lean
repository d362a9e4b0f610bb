/- Part of the road to ClPathsRow: ClLawQ. -/
import Derived.Test.YtlkeegmpjjoicaaDoorPrt03
set_option linter.all false
set_option linter.unusedSimpArgs false
set_option linter.unusedVariables false
set_option linter.unusedSectionVars false
section
/- CallsPaths, walked. -/
namespace Go.Proofs.YtlkeegmpjjoicaaDoor
open Go.RowKit

set_option maxRecDepth 100000 in
set_option maxHeartbeats 4000000 in
theorem law_paths_far (l : List UInt8) (b : Bool) (va : Option Addr) (vc : Nat) (w : World) (hG : Gl w) (h : 500 < l.length) :
    Calls Tryd.prog 4 #[.slice va l.length vc, .bool b] w fun e w' => e = .returned (.bool true) ∧ Below w.heap.size w w' := by
  have t1 : decide (500 < (l.length : Int)) = true := by simp; omega
  have HG := Lib.hid hG
  clear hG
  go_enter Tryd.func4, Tryd.ntmps4
  go_wp2_with (go_at_call 6; refine (alive_c _ HG.out).mono ?_; rintro e w2 ⟨rfl, hb2⟩; have HB2 := Lib.hid hb2; clear hb2)
  go_ret
  exact ⟨rfl, HB2.out⟩
/-- a rename -/
def cQ (p t : ByteArray) : CV := ⟨6, p, t, 0, 0, []⟩
theorem cQ_sized {p t : ByteArray} (hp : p.size ≤ 500) (ht : t.size ≤ 500) : Sized (cQ p t) :=
  ⟨by show p.size ≤ _; omega, by show t.size ≤ _; omega, by show _ ≤ (0 : Int); omega, by show (0 : Int) ≤ _; omega, by show _ ≤ (0 : Int); omega, by show (0 : Int) ≤ _; omega, by show (0 : Nat) ≤ _; omega⟩
theorem print_q {p t S : ByteArray} (hS : S = baL (printL (cQ p t))) (hp : p.size ≤ 500) (ht : t.size ≤ 500) (w : World) (hG : Gl w) :
    Calls Tryd.prog 7 #[.agg #[.int .i64 6, .string p, .string t, .int .i64 0, .int .i64 0, .slice none 0 0]] w fun e w' => e = .returned (.string S) ∧ Below w.heap.size w w' := by
  subst hS
  exact print_c (cQ p t) (cQ_sized hp ht) (by show intOk 6; unfold intOk; omega) (.slice none 0 0) w hG ⟨none, 0, rfl, .inl ⟨rfl, rfl⟩⟩
theorem read_q {p t S : ByteArray} (hS : S = baL (printL (cQ p t))) (hp : p.size ≤ 500) (ht : t.size ≤ 500) (w : World) (hG : Gl w) :
    Calls Tryd.prog 9 #[.string S] w fun e w' => ∃ va vc, e = .returned (.tuple #[.agg #[.int .i64 6, .string p, .string t, .int .i64 0, .int .i64 0, .slice va 0 vc], .int .i64 0]) ∧ SlB w' (.slice va 0 vc) [] ∧ Below w.heap.size w w' := by
  subst hS
  exact read_k (cQ p t) (cQ_sized hp ht) (by show intOk 6; unfold intOk; omega) rfl w hG
theorem same_q (p t : ByteArray) (va : Value) (w : World) (ha : SlB w va []) :
    Calls Tryd.prog 11 #[.agg #[.int .i64 6, .string p, .string t, .int .i64 0, .int .i64 0, .slice none 0 0], .agg #[.int .i64 6, .string p, .string t, .int .i64 0, .int .i64 0, va]] w fun e w' => e = .returned (.bool true) ∧ Below w.heap.size w w' :=
  same_c (cQ p t) (.slice none 0 0) va w ⟨none, 0, rfl, .inl ⟨rfl, rfl⟩⟩ ha
theorem join_line : ∀ (P : List (List UInt8)), (∀ p ∈ P, ∀ x ∈ p, wordB x = true) → ∀ x ∈ Lib.join P [32], 32 ≤ x.toNat ∧ x.toNat ≤ 126
  | [], _, x, hx => by cases hx
  | [p], h, x, hx => by
    rw [Lib.join_one] at hx
    have := h p (.head _) x hx
    simp only [wordB, Bool.and_eq_true, decide_eq_true_eq] at this
    omega
  | p :: q :: r, h, x, hx => by
    rw [join_cons2] at hx
    rcases List.mem_append.1 hx with hx | hx
    · have := h p (.head _) x hx
      simp only [wordB, Bool.and_eq_true, decide_eq_true_eq] at this
      omega
    · rcases List.mem_cons.1 hx with rfl | hx
      · decide
      · exact join_line (q :: r) (fun p hp => h p (.tail _ hp)) x hx
theorem line_q {p t S : ByteArray} (hS : S = baL (printL (cQ p t))) (k : Nat) (h : k < S.size) : 32 ≤ (S[k].toNat : Int) ∧ (S[k].toNat : Int) ≤ 126 := by
  have hx : S[k] ∈ S.data.toList := by show S.data[k] ∈ _; simp
  have hd : S.data.toList = Lib.join (piecesL (cQ p t)) [32] := by rw [hS, baL_toList]; rfl
  rw [hd] at hx
  have := join_line _ (pieces_word (cQ p t) rfl) _ hx
  omega
theorem blanks_q {p t S : ByteArray} (hS : S = baL (printL (cQ p t))) : blanks S.data.toList + 1 = 3 := by
  have hd : S.data.toList = Lib.join (piecesL (cQ p t)) [32] := by rw [hS, baL_toList]; rfl
  rw [hd, blanks_join _ (by unfold piecesL; simp) (fun x hx => noBlank_of_word (pieces_word (cQ p t) rfl x hx))]
  rfl
theorem size_q {p t S : ByteArray} (hS : S = baL (printL (cQ p t))) (hp : p.size ≤ 500) (ht : t.size ≤ 500) : S.size ≤ 3000000 := by
  rw [hS, ← sz, baL_toList]
  exact Nat.le_trans (join_len (cQ p t) (cQ_sized hp ht) rfl) (by omega)
theorem words_q {p t S : ByteArray} (hS : S = baL (printL (cQ p t))) (hp : p.size ≤ 500) (ht : t.size ≤ 500) (w : World) :
    Calls Tryd.prog 13 #[.string S] w fun e w' => ∃ a cap, e = .returned (.slice a 3 cap) ∧ Below w.heap.size w w' := by
  have h := words_len S (size_q hS hp ht) w
  rw [blanks_q hS] at h
  exact h
-- MARK
set_option maxRecDepth 100000 in
set_option maxHeartbeats 4000000 in
theorem law_paths_to (l : List UInt8) (va : Option Addr) (vc : Nat) (w : World) (hG : Gl w) (hv : SlB w (.slice va l.length vc) l) (h : l.length ≤ 500) :
    Calls Tryd.prog 4 #[.slice va l.length vc, .bool true] w fun e w' => e = .returned (.bool true) ∧ Below w.heap.size w w' := by
  have t1 : decide (500 < (l.length : Int)) = false := by simp; omega
  obtain ⟨S, hS⟩ : ∃ S, S = baL (printL (cQ ⟨#[47, 120]⟩ ⟨l.toArray⟩)) := ⟨_, rfl⟩
  have hp : (⟨#[47, 120]⟩ : ByteArray).size ≤ 500 := by show (2 : Nat) ≤ 500; omega
  have ht : (⟨l.toArray⟩ : ByteArray).size ≤ 500 := by show l.toArray.size ≤ 500; rw [List.size_toArray]; exact h
  have HG := Lib.hid hG; have HV := Lib.hid hv; have HS := Lib.hid hS
  have HP := Lib.hid hp; have HT := Lib.hid ht
  have hz := size_q HS.out hp ht
  clear hG hv hS hp ht
  go_enter Tryd.func4, Tryd.ntmps4
  go_wp2_with (first
    | (go_at_call 6; refine (alive_c _ HG.out).mono ?_; rintro e w2 ⟨rfl, hb2⟩; obtain ⟨Wc, hWc⟩ : ∃ Wc, Wc = w2.alloc (.cells #[.int .i64 6, .string ⟨#[47, 120]⟩, .string ⟨#[47, 121]⟩, .int .i64 0, .int .i64 0, .slice none 0 0] 24) := ⟨_, rfl⟩; have hbc : Below w2.heap.size w2 Wc := (by rw [hWc]; exact (Below.refl _ _).alloc (Nat.le_refl _) _); have hst := ((HV.out.below hb2).below hbc).str; obtain ⟨Wd, hWd⟩ : ∃ Wd, Wd = w2.alloc (.cells #[.int .i64 6, .string ⟨#[47, 120]⟩, .string ⟨l.toArray⟩, .int .i64 0, .int .i64 0, .slice none 0 0] 24) := ⟨_, rfl⟩; have hbd : Below w2.heap.size w2 Wd := (by rw [hWd]; exact (Below.refl _ _).alloc (Nat.le_refl _) _); have hkd : Blk 24 Wd w2.heap.size (callL (cQ ⟨#[47, 120]⟩ ⟨l.toArray⟩) (.slice none 0 0)) := (by rw [hWd]; exact Blk.new w2 _); have HBd := Lib.hid (hb2.trans (hbd.mono hb2.size)); have HGd := Lib.hid ((HG.out.below hb2).below hbd); have HKd := Lib.hid hkd; have HLd := Lib.hid hkd.lt; rw [hWc] at hst; rw [hWd] at HBd HGd HKd HLd; clear hb2 hbc hbd hkd hWc hWd Wc Wd)
    | (go_at_call 7; refine (print_q HS.out HP.out HT.out _ HGd.out).mono ?_; rintro e w3 ⟨rfl, hb⟩; have HB3 := Lib.hid (HBd.out.trans (hb.mono HBd.out.size)); have HG3 := Lib.hid (HGd.out.below hb); have HK3 := Lib.hid (HKd.out.below hb HLd.out); clear hb hst))
  go_loopw [8] (fun i wr => ∃ k : Nat, k ≤ S.size ∧ i = .int .i64 k ∧ wr = w3) (fun i _ => S.size - (intOf i).toNat)
  case atStart => exact ⟨0, by omega, rfl, rfl⟩
  case round =>
    obtain ⟨k, hk, rfl, rfl⟩ := hrel
    by_cases hlt : k < S.size
    · obtain ⟨a1, a2⟩ := line_q HS.out k hlt
      have t2 : decide ((S[k].toNat : Int) < 32) = false := by simp; omega
      have t3 : decide (126 < (S[k].toNat : Int)) = false := by simp; omega
      clear a1 a2
      go_wp2
      go_roundw
      case rel => exact ⟨k + 1, by omega, by go_num, by trivial⟩
      case measure => simp [intOf]; omega
    · obtain rfl : k = S.size := by omega
      go_wp2_with (first
        | (go_at_call 9; refine (read_q HS.out HP.out HT.out _ HG3.out).mono ?_; rintro e w4 ⟨ra, rc, rfl, hr, hb⟩; obtain ⟨Wf, hWf⟩ : ∃ Wf, Wf = w4.alloc (.cells #[.int .i64 6, .string ⟨#[47, 120]⟩, .string ⟨l.toArray⟩, .int .i64 0, .int .i64 0, .slice ra 0 rc] 24) := ⟨_, rfl⟩; have hbf : Below w4.heap.size w4 Wf := (by rw [hWf]; exact (Below.refl _ _).alloc (Nat.le_refl _) _); have hkf : Blk 24 Wf w4.heap.size (callL (cQ ⟨#[47, 120]⟩ ⟨l.toArray⟩) (.slice ra 0 rc)) := (by rw [hWf]; exact Blk.new w4 _); have hb4 := HB3.out.trans (hb.mono HB3.out.size); have HC6 := Lib.hid ((HK3.out.below hb HK3.out.lt).below hbf (HK3.out.below hb HK3.out.lt).lt); have HD6 := Lib.hid hkf; have HB6 := Lib.hid (hb4.trans (hbf.mono hb4.size)); have HR6 := Lib.hid (hr.below hbf); rw [hWf] at HC6 HD6 HB6 HR6; have hlc6 := HC6.out.lt; have hld6 := HD6.out.lt; have c6_0 := HC6.out.cell 0; have c6_1 := HC6.out.cell 1; have c6_2 := HC6.out.cell 2; have c6_3 := HC6.out.cell 3; have c6_4 := HC6.out.cell 4; have c6_5 := HC6.out.cell 5; simp only [callL, cQ, List.getElem?_cons_zero, List.getElem?_cons_succ] at c6_0 c6_1 c6_2 c6_3 c6_4 c6_5; clear hb hr hbf hkf hb4 hWf Wf)
        | (go_at_call 10; refine (num_c _ _).mono ?_; rintro e w7 ⟨rfl, rfl⟩)
        | (go_at_call 11; refine (same_q _ _ _ _ HR6.out).mono ?_; rintro e w8 ⟨rfl, hb⟩; have HB8 := Lib.hid (HB6.out.trans (hb.mono HB6.out.size)); clear hb)
        | (go_at_call 13; refine (words_q HS.out HP.out HT.out _).mono ?_; rintro e w9 ⟨wa, wc, rfl, hb⟩; have HB9 := Lib.hid (HB8.out.trans (hb.mono HB8.out.size)); clear hb))
      go_ret
      exact ⟨rfl, HB9.out⟩
set_option maxRecDepth 100000 in
set_option maxHeartbeats 4000000 in
theorem law_paths_from (l : List UInt8) (va : Option Addr) (vc : Nat) (w : World) (hG : Gl w) (hv : SlB w (.slice va l.length vc) l) (h : l.length ≤ 500) :
    Calls Tryd.prog 4 #[.slice va l.length vc, .bool false] w fun e w' => e = .returned (.bool true) ∧ Below w.heap.size w w' := by
  have t1 : decide (500 < (l.length : Int)) = false := by simp; omega
  obtain ⟨S, hS⟩ : ∃ S, S = baL (printL (cQ ⟨l.toArray⟩ ⟨#[47, 121]⟩)) := ⟨_, rfl⟩
  have hp : (⟨l.toArray⟩ : ByteArray).size ≤ 500 := by show l.toArray.size ≤ 500; rw [List.size_toArray]; exact h
  have ht : (⟨#[47, 121]⟩ : ByteArray).size ≤ 500 := by show (2 : Nat) ≤ 500; omega
  have HG := Lib.hid hG; have HV := Lib.hid hv; have HS := Lib.hid hS
  have HP := Lib.hid hp; have HT := Lib.hid ht
  have hz := size_q HS.out hp ht
  clear hG hv hS hp ht
  go_enter Tryd.func4, Tryd.ntmps4
  go_wp2_with (first
    | (go_at_call 6; refine (alive_c _ HG.out).mono ?_; rintro e w2 ⟨rfl, hb2⟩; obtain ⟨Wc, hWc⟩ : ∃ Wc, Wc = w2.alloc (.cells #[.int .i64 6, .string ⟨#[47, 120]⟩, .string ⟨#[47, 121]⟩, .int .i64 0, .int .i64 0, .slice none 0 0] 24) := ⟨_, rfl⟩; have hbc : Below w2.heap.size w2 Wc := (by rw [hWc]; exact (Below.refl _ _).alloc (Nat.le_refl _) _); have hst := ((HV.out.below hb2).below hbc).str; obtain ⟨Wd, hWd⟩ : ∃ Wd, Wd = w2.alloc (.cells #[.int .i64 6, .string ⟨l.toArray⟩, .string ⟨#[47, 121]⟩, .int .i64 0, .int .i64 0, .slice none 0 0] 24) := ⟨_, rfl⟩; have hbd : Below w2.heap.size w2 Wd := (by rw [hWd]; exact (Below.refl _ _).alloc (Nat.le_refl _) _); have hkd : Blk 24 Wd w2.heap.size (callL (cQ ⟨l.toArray⟩ ⟨#[47, 121]⟩) (.slice none 0 0)) := (by rw [hWd]; exact Blk.new w2 _); have HBd := Lib.hid (hb2.trans (hbd.mono hb2.size)); have HGd := Lib.hid ((HG.out.below hb2).below hbd); have HKd := Lib.hid hkd; have HLd := Lib.hid hkd.lt; rw [hWc] at hst; rw [hWd] at HBd HGd HKd HLd; clear hb2 hbc hbd hkd hWc hWd Wc Wd)
    | (go_at_call 7; refine (print_q HS.out HP.out HT.out _ HGd.out).mono ?_; rintro e w3 ⟨rfl, hb⟩; have HB3 := Lib.hid (HBd.out.trans (hb.mono HBd.out.size)); have HG3 := Lib.hid (HGd.out.below hb); have HK3 := Lib.hid (HKd.out.below hb HLd.out); clear hb hst))
  go_loopw [8] (fun i wr => ∃ k : Nat, k ≤ S.size ∧ i = .int .i64 k ∧ wr = w3) (fun i _ => S.size - (intOf i).toNat)
  case atStart => exact ⟨0, by omega, rfl, rfl⟩
  case round =>
    obtain ⟨k, hk, rfl, rfl⟩ := hrel
    by_cases hlt : k < S.size
    · obtain ⟨a1, a2⟩ := line_q HS.out k hlt
      have t2 : decide ((S[k].toNat : Int) < 32) = false := by simp; omega
      have t3 : decide (126 < (S[k].toNat : Int)) = false := by simp; omega
      clear a1 a2
      go_wp2
      go_roundw
      case rel => exact ⟨k + 1, by omega, by go_num, by trivial⟩
      case measure => simp [intOf]; omega
    · obtain rfl : k = S.size := by omega
      go_wp2_with (first
        | (go_at_call 9; refine (read_q HS.out HP.out HT.out _ HG3.out).mono ?_; rintro e w4 ⟨ra, rc, rfl, hr, hb⟩; obtain ⟨Wf, hWf⟩ : ∃ Wf, Wf = w4.alloc (.cells #[.int .i64 6, .string ⟨l.toArray⟩, .string ⟨#[47, 121]⟩, .int .i64 0, .int .i64 0, .slice ra 0 rc] 24) := ⟨_, rfl⟩; have hbf : Below w4.heap.size w4 Wf := (by rw [hWf]; exact (Below.refl _ _).alloc (Nat.le_refl _) _); have hkf : Blk 24 Wf w4.heap.size (callL (cQ ⟨l.toArray⟩ ⟨#[47, 121]⟩) (.slice ra 0 rc)) := (by rw [hWf]; exact Blk.new w4 _); have hb4 := HB3.out.trans (hb.mono HB3.out.size); have HC6 := Lib.hid ((HK3.out.below hb HK3.out.lt).below hbf (HK3.out.below hb HK3.out.lt).lt); have HD6 := Lib.hid hkf; have HB6 := Lib.hid (hb4.trans (hbf.mono hb4.size)); have HR6 := Lib.hid (hr.below hbf); rw [hWf] at HC6 HD6 HB6 HR6; have hlc6 := HC6.out.lt; have hld6 := HD6.out.lt; have c6_0 := HC6.out.cell 0; have c6_1 := HC6.out.cell 1; have c6_2 := HC6.out.cell 2; have c6_3 := HC6.out.cell 3; have c6_4 := HC6.out.cell 4; have c6_5 := HC6.out.cell 5; simp only [callL, cQ, List.getElem?_cons_zero, List.getElem?_cons_succ] at c6_0 c6_1 c6_2 c6_3 c6_4 c6_5; clear hb hr hbf hkf hb4 hWf Wf)
        | (go_at_call 10; refine (num_c _ _).mono ?_; rintro e w7 ⟨rfl, rfl⟩)
        | (go_at_call 11; refine (same_q _ _ _ _ HR6.out).mono ?_; rintro e w8 ⟨rfl, hb⟩; have HB8 := Lib.hid (HB6.out.trans (hb.mono HB6.out.size)); clear hb)
        | (go_at_call 13; refine (words_q HS.out HP.out HT.out _).mono ?_; rintro e w9 ⟨wa, wc, rfl, hb⟩; have HB9 := Lib.hid (HB8.out.trans (hb.mono HB8.out.size)); clear hb))
      go_ret
      exact ⟨rfl, HB9.out⟩
end Go.Proofs.YtlkeegmpjjoicaaDoor
end
