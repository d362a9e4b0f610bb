/- Part of the road to RootRow: RNamed, RStays. -/
import Derived.Test.YtbbgahffcjbloaaGreatRts06
import Derived.Test.YtbbgahffcjbloaaGreatTws07
set_option linter.all false
set_option linter.unusedSimpArgs false
set_option linter.unusedVariables false
set_option linter.unusedSectionVars false
section
/- The reference's repair: has an entry that stays this name? -/
namespace Go.Proofs.YtbbgahffcjbloaaGreat
open Go.RowKit

theorem own_at {w : World} {base e size n g cap : Nat} {xs : List Value} (h : w.ownsRow base e size (.slice (some ⟨g, 0, none⟩) n cap) n xs) {k : Nat} {u : Value} (hk : xs[k]? = some u) : w.cell? ⟨g, k, none⟩ = some u := by
  obtain ⟨hl, h⟩ := h
  rcases h with ⟨h, _⟩ | ⟨g', cap', cur, hv, _, hg, hc, hm, hs, ht⟩
  · cases h
  · cases hv
    rw [cell_of_row w g k cur e (0, 0) hg]
    have hkl : k < xs.length := (List.getElem?_eq_some_iff.1 hk).1
    rw [← ht, List.getElem?_take_of_lt (by omega)] at hk
    simpa using hk
theorem own_some {w : World} {base e size n : Nat} {v : Value} {xs : List Value} (h : w.ownsRow base e size v n xs) (hn : 0 < n) : ∃ g cap, v = .slice (some ⟨g, 0, none⟩) n cap ∧ n ≤ cap := by
  rcases h.2 with ⟨_, h2⟩ | ⟨g, cap, cur, h1, _, _, hc, _⟩
  · omega
  · exact ⟨g, cap, h1, hc⟩
theorem own_max {w : World} {base e size n : Nat} {v : Value} {xs : List Value} (h : w.ownsRow base e size v n xs) : n ≤ maxLen := by
  rcases h.2 with ⟨_, h2⟩ | ⟨g, cap, cur, h1, _, _, hc, hm, _⟩
  · omega
  · exact Nat.le_trans hc hm
theorem entsV_get : ∀ (d : List (Nat × ByteArray)) (i : Nat) (e : Nat × ByteArray), d[i]? = some e → (entsV d)[i * 2]? = some (.int .i64 (e.1 : Nat)) ∧ (entsV d)[i * 2 + 1]? = some (.string e.2)
  | [], i, e, h => by cases h
  | a :: d, 0, e, h => by
    have : a = e := by simpa using h
    subst this
    exact ⟨rfl, rfl⟩
  | a :: d, i + 1, e, h => by
    have ih := entsV_get d i e (by simpa using h)
    have e1 : entsV (a :: d) = .int .i64 (a.1 : Nat) :: .string a.2 :: entsV d := rfl
    rw [e1, show (i + 1) * 2 = i * 2 + 1 + 1 by omega]
    exact ih
theorem str_dec (a b : ByteArray) : (a.toList == b.toList) = decide (a = b) := by
  by_cases h : a = b
  · subst h; simp
  · rw [decide_eq_false h, beq_eq_false_iff_ne]
    intro e
    apply h
    rw [ByteArray.toList_eq, ByteArray.toList_eq] at e
    apply ByteArray.ext
    apply Array.toList_inj.1
    exact e
def nmHit (s : ByteArray) (e : Nat × ByteArray) : Bool := decide (e.1 ≠ 0) && decide (e.2 = s)
def namedF (dir : List (List (Nat × ByteArray))) (s : ByteArray) : Bool := dir.any fun d => d.any (nmHit s)
set_option maxRecDepth 100000 in
set_option maxHeartbeats 4000000 in
theorem rnamed_c (w : World) (lb : Lab) (x B : Nat) (t : RT) (dv lv : Value) (dvs : List Value) (h : TAt w lb x B t dv lv dvs) (s : ByteArray) :
    Calls Tryz.prog 124 #[.pointer (some ⟨B, 0, none⟩), .string s] w fun e w' => e = .returned (.bool (namedF t.dir s)) ∧ w = w' := by
  have c13 : w.cell? ⟨B, 13, none⟩ = some dv := h.blk.cell 13
  have lB := h.blk.lt
  obtain ⟨A, cap, rfl⟩ := own_form h.dir.1
  have hd := h.dir.1; have hlen := h.len; have hrow := h.row
  obtain ⟨D, hD⟩ : ∃ D, D = t.dir := ⟨_, rfl⟩
  rw [← hD] at hd hlen hrow c13
  rw [← hD]
  obtain ⟨q, hq⟩ : ∃ q, q = namedF D s := ⟨_, rfl⟩
  rw [← hq]
  have hDm := own_max hd
  unfold maxLen at hDm
  have HD := Lib.hid hd; have HL := Lib.hid hlen; have HR := Lib.hid hrow; have HQ := Lib.hid hq
  clear h hd hlen hrow hD hq
  go_enter Tryz.func124, Tryz.ntmps124
  go_wp2
  go_loopw [5] (fun b' wr => ∃ b : Nat, b ≤ D.length ∧ b' = .int .i64 b ∧ (∀ j d, j < b → D[j]? = some d → d.any (nmHit s) = false) ∧ wr = w) (fun b' _ => D.length - (intOf b').toNat)
  case atStart => exact ⟨0, Nat.zero_le _, rfl, fun j d h => by omega, rfl⟩
  case round =>
    obtain ⟨b, hb, rfl, hno, rfl⟩ := hrel
    by_cases hlt : b < D.length
    · obtain ⟨G, cp, hA, hcp⟩ := own_some HD.out (by omega)
      cases hA
      obtain ⟨d, hd⟩ : ∃ d, D[b]? = some d := ⟨_, List.getElem?_eq_getElem hlt⟩
      obtain ⟨v, hv⟩ : ∃ v, dvs[b]? = some v := ⟨_, List.getElem?_eq_getElem (by rw [HL.out]; exact hlt)⟩
      have hr := (HR.out b v d hv hd).1
      obtain ⟨A2, cap2, rfl⟩ := own_form hr
      have cb := own_at HD.out hv
      have hdm := own_max hr
      unfold maxLen at hdm
      have lG := lt_of_cell cb
      have HNO := Lib.hid hno; have HDB := Lib.hid hd; have HRW := Lib.hid hr
      clear hno hd hv hr hb
      go_wp2
      go_loopw [6] (fun i' wr2 => ∃ i : Nat, i ≤ d.length ∧ i' = .int .i64 i ∧ (∀ j e, j < i → d[j]? = some e → nmHit s e = false) ∧ wr2 = wr) (fun i' _ => d.length - (intOf i').toNat)
      case atStart => exact ⟨0, Nat.zero_le _, rfl, fun j e h => by omega, rfl⟩
      case round =>
        obtain ⟨i, hi, rfl, hni, rfl⟩ := hrel
        by_cases hli : i < d.length
        · obtain ⟨G2, cp2, hA2, hcp2⟩ := own_some HRW.out (by omega)
          cases hA2
          obtain ⟨e, he⟩ : ∃ e, d[i]? = some e := ⟨_, List.getElem?_eq_getElem hli⟩
          obtain ⟨g0, g1⟩ := entsV_get d i e he
          have ce := own_at HRW.out g0
          have cn := own_at HRW.out g1
          have lG2 := lt_of_cell ce
          have hse := str_dec e.2 s
          have HNI := Lib.hid hni; have HE := Lib.hid he
          clear hni he g0 g1
          by_cases h0 : e.1 = 0
          · have t0 : (((e.1 : Nat) : Int) != 0) = false := by simp [h0]
            have t02 : (((e.1 : Nat) : Int) == 0) = true := by simp [h0]
            have hn2 : nmHit s e = false := by simp [nmHit, h0]
            have HN2 := Lib.hid hn2
            clear h0 hn2 hse
            go_wp2
            go_roundw
            case rel => exact ⟨i + 1, by omega, by go_num, fun j e' hj hj2 => by
              by_cases q : j = i
              · subst q; rw [HE.out] at hj2; cases hj2; exact HN2.out
              · exact HNI.out j e' (by omega) hj2, trivial⟩
            case measure => simp [intOf]; omega
          · have t0 : (((e.1 : Nat) : Int) != 0) = true := by simp; omega
            have t02 : (((e.1 : Nat) : Int) == 0) = false := by simp; omega
            by_cases hs : e.2 = s
            · have hn2 : nmHit s e = true := by simp [nmHit, h0, hs]
              rw [decide_eq_true hs] at hse
              have HN2 := Lib.hid hn2; have HE2 := HE.out
              have hq2 : q = true := by
                rw [HQ.out]; unfold namedF
                rw [List.any_eq_true]
                exact ⟨d, List.mem_of_getElem? HDB.out, List.any_eq_true.2 ⟨e, List.mem_of_getElem? HE.out, hn2⟩⟩
              have HQ2 := Lib.hid hq2
              clear h0 hn2 hs HE2 hq2
              go_wp2
              go_ret
              rw [HQ2.out]; exact ⟨rfl, rfl⟩
            · have hn2 : nmHit s e = false := by simp [nmHit, hs]
              rw [decide_eq_false hs] at hse
              have HN2 := Lib.hid hn2
              clear h0 hn2 hs
              go_wp2
              go_roundw
              case rel => exact ⟨i + 1, by omega, by go_num, fun j e' hj hj2 => by
                by_cases q : j = i
                · subst q; rw [HE.out] at hj2; cases hj2; exact HN2.out
                · exact HNI.out j e' (by omega) hj2, trivial⟩
              case measure => simp [intOf]; omega
        · have hie : i = d.length := by omega
          have hda : d.any (nmHit s) = false := by
            rw [List.any_eq_false]
            intro e he
            obtain ⟨j, hj⟩ := List.getElem?_of_mem he
            have hjl := (List.getElem?_eq_some_iff.1 hj).1
            rw [hni j e (by omega) hj]; decide
          have HDA := Lib.hid hda
          have h1 : ¬ (i : Int) < (d.length : Int) := by omega
          clear hie hda hni
          go_wp2
          go_roundw
          case rel => exact ⟨b + 1, by omega, by go_num, fun j d' hj hj2 => by
            by_cases q : j = b
            · subst q; rw [HDB.out] at hj2; cases hj2; exact HDA.out
            · exact HNO.out j d' (by omega) hj2, trivial⟩
          case measure => simp [intOf]; omega
    · have hq2 : q = false := by
        rw [HQ.out]; unfold namedF
        rw [List.any_eq_false]
        intro d hd
        obtain ⟨j, hj⟩ := List.getElem?_of_mem hd
        have hjl := (List.getElem?_eq_some_iff.1 hj).1
        rw [hno j d (by omega) hj]; decide
      have HQ2 := Lib.hid hq2
      have h1 : ¬ (b : Int) < (D.length : Int) := by omega
      clear hq2 hno
      go_wp2
      go_ret
      rw [HQ2.out]; exact ⟨rfl, rfl⟩
end Go.Proofs.YtbbgahffcjbloaaGreat
end

section
/- The reference's repair: does an entry stay? -/
namespace Go.Proofs.YtbbgahffcjbloaaGreat
open Go.RowKit

def nmR (t : RT) : ByteArray → Bool := fun s => namedF t.dir s
set_option maxRecDepth 100000 in
set_option maxHeartbeats 4000000 in
theorem rstays_bad (g : Geo) (f : Nat → Nat) (L : RLoc) (w : World) (lb : Lab) (adr : Nat → Option Nat) (S : RSt) (h : RS g f L w lb adr S) (dr B : Nat) (t : RT) (hd : adr dr = some B) (ht : S.T dr = some t) (x : Nat) (s : ByteArray) (hb : badN (nmR t) x s = true) :
    Calls Tryz.prog 100 #[.pointer (some ⟨L.R, 0, none⟩), .int .i64 dr, .agg #[.int .i64 x, .string s]] w fun e w' => e = .returned (.bool false) ∧ Below w.heap.size w w' := by
  obtain ⟨ov, hRp, hov⟩ := h.rp
  have c2 := hRp.cell 2
  simp only [List.getElem?_cons_zero, List.getElem?_cons_succ] at c2
  have lR := hRp.lt; have lT := h.tt.lt
  have kdr : dr < g.inodes + 1 := by have := (h.in_ dr (by rw [ht]; simp)).2; omega
  have ctx := h.tt.cell dr
  rw [adrL_get _ _ _ kdr, hd] at ctx
  simp only [Option.map_some] at ctx
  obtain ⟨dv, lv, dvs, hT⟩ := h.obj dr B t hd ht
  have NM := fun W (hb : Below w.heap.size w W) => rnamed_c W lb dr B t dv lv dvs (hT.step (mods_of_below (s := fun _ => False) hb) (Ext.refl _ _) (fun k e => e.elim)) s
  have NM1 := NM _ ((Below.refl _ w).alloc (Nat.le_refl _) (.cells #[.int .i64 (x : Int), .string s] 59))
  have e0 : (((x : Nat) : Int) == 0) = decide (x = 0) := by rw [Bool.eq_iff_iff]; simp
  unfold badN nmR at hb
  have HNM := Lib.hid NM1
  clear NM NM1 hT hRp hov h hd ht
  by_cases h0 : x = 0
  · have e1 : (((x : Nat) : Int) == 0) = true := by simp [h0]
    clear hb e0 h0
    go_enter Tryz.func100, Tryz.ntmps100
    go_wp2_with (go_at_call 124; refine HNM.out.mono ?_; rintro e w2 ⟨rfl, rfl⟩)
    go_ret
    exact ⟨rfl, (Below.refl _ _).alloc (Nat.le_refl _) _⟩
  · have e1 : (((x : Nat) : Int) == 0) = false := by simp [h0]
    simp only [h0, decide_false, Bool.false_or] at hb
    clear e0 h0
    by_cases h1 : s.toList = [46]
    · have g1 : (s.toList == [46]) = true := by simp [h1]
      clear hb h1
      go_enter Tryz.func100, Tryz.ntmps100
      go_wp2_with (go_at_call 124; refine HNM.out.mono ?_; rintro e w2 ⟨rfl, rfl⟩)
      go_ret
      exact ⟨rfl, (Below.refl _ _).alloc (Nat.le_refl _) _⟩
    · simp only [h1, decide_false, Bool.false_or] at hb
      have g1 : (s.toList == [46]) = false := by simp [h1]
      by_cases h2 : s.toList = [46, 46]
      · have g2 : (s.toList == [46, 46]) = true := by simp [h2]
        clear hb h1 h2
        go_enter Tryz.func100, Tryz.ntmps100
        go_wp2_with (go_at_call 124; refine HNM.out.mono ?_; rintro e w2 ⟨rfl, rfl⟩)
        go_ret
        exact ⟨rfl, (Below.refl _ _).alloc (Nat.le_refl _) _⟩
      · simp only [h2, decide_false, Bool.false_or] at hb
        have g2 : (s.toList == [46, 46]) = false := by simp [h2]
        rw [hb] at HNM
        clear hb
        go_enter Tryz.func100, Tryz.ntmps100
        go_wp2_with (go_at_call 124; refine HNM.out.mono ?_; rintro e w2 ⟨rfl, rfl⟩)
        go_ret
        exact ⟨rfl, (Below.refl _ _).alloc (Nat.le_refl _) _⟩
end Go.Proofs.YtbbgahffcjbloaaGreat
end
