/- Part of the road to RootRow: RSame, RSplit, RFind, RNds, SzP, RtP, RtY, RtA. -/
import Derived.Test.YtbbgahffcjbloaaGreatRts12
import Derived.Test.YtbbgahffcjbloaaGreatRts06
import Derived.Test.YtbbgahffcjbloaaGreatTws08
import Derived.Test.YtbbgahffcjbloaaGreatRts04
set_option linter.all false
set_option linter.unusedSimpArgs false
set_option linter.unusedVariables false
set_option linter.unusedSectionVars false
section
/- Two trees that are alike: lockgateref20.Same says so. -/
namespace Go.Proofs.YtbbgahffcjbloaaGreat
open Go.RowKit
theorem NodesAt.form {w : World} {base : Nat} {v : Value} {l : List Nd} (h : NodesAt w base v l) : ∃ A c, v = .slice A l.length c := by
  obtain ⟨xs, _, h, _⟩ := h
  exact own_form h
end Go.Proofs.YtbbgahffcjbloaaGreat
end

section
/- The reference's path of one name: lockgateref1.Split. -/
namespace Go.Proofs.YtbbgahffcjbloaaGreat
open Go.RowKit

end Go.Proofs.YtbbgahffcjbloaaGreat
end

section
/- The reference's walk: At, and Find of one name in the root. -/
namespace Go.Proofs.YtbbgahffcjbloaaGreat
open Go.RowKit

end Go.Proofs.YtbbgahffcjbloaaGreat
end

section
/- The reference's tree of an image that is wholly right: the root's node, and a node for each file. -/
namespace Go.Proofs.YtbbgahffcjbloaaGreat
open Go.RowKit

def tkS (g : Geo) (f : Nat → Nat) (cs : Nat → Nat → Bool) (n y : Nat) : RT := if y = 0 then ⟨rootIR g f, [rowN n 32], 1, [3]⟩ else fileR g f cs (y - 1)
section
variable {m n : Nat} {cs : Nat → Nat → Bool} {J : Nat → InoN} {f : Nat → Nat}
theorem SimpB.nodes (B : SimpB m n cs J f) (hn : n ≤ 9) (hm : 0 < m) : rawK f (fixR (geo1 m) f) 16 = (List.range (n + 1)).map fun y => ndF f (y + 1) (tkS (geo1 m) f cs n y) := by
  rw [(B.simp hn).fix hn hm]
  have K : ∀ x, x ≤ 16 → rawK f ⟨cs n, TS (geo1 m) f cs n 32 n, [1], false⟩ x = (List.range (min x (n + 1))).map fun y => ndF f (y + 1) (tkS (geo1 m) f cs n y) := by
    intro x
    induction x with
    | zero => intro _; rw [Nat.zero_min]; rfl
    | succ x ih =>
      intro hx
      have ih := ih (by omega)
      unfold rawK
      dsimp only
      rw [B.taken hn hm x]
      by_cases h : x ≤ n
      · rw [if_pos h]
        dsimp only
        rw [ih, Nat.min_eq_left (by omega), Nat.min_eq_left (by omega), List.range_succ, List.map_append]
        rfl
      · rw [if_neg h]
        dsimp only
        rw [ih, Nat.min_eq_right (by omega), Nat.min_eq_right (by omega)]
  rw [K 16 (Nat.le_refl _), Nat.min_eq_right (by omega)]
theorem SimpB.nd_length (B : SimpB m n cs J f) (hn : n ≤ 9) (hm : 0 < m) : (rawK f (fixR (geo1 m) f) 16).length = n + 1 := by
  rw [B.nodes hn hm, List.length_map, List.length_range]
end
section
variable {g : Geo} {I : InoN} {c : Nat → Bool} {a : Nat}
end
section
variable {m n : Nat} {h : Nat → Nat}
end
end Go.Proofs.YtbbgahffcjbloaaGreat
end

section
/- FsckSizes: the pure side. -/
namespace Go.Proofs.YtbbgahffcjbloaaGreat
open Go.RowKit

theorem simp_raw {n : Nat} {cs : Nat → Nat → Bool} {J : Nat → InoN} {f : Nat → Nat} (B : SimpB 20 n cs J f) (hn : n ≤ 9) (W : World) (base G cap : Nat) (ho : W.ownsRow base 5 1 (.slice (some ⟨G, 0, none⟩) 23552 cap) 23552 (bytesL f 23552)) :
    Calls Tryz.prog 12 #[.slice (some ⟨G, 0, none⟩) 23552 cap] W fun e w' => ∃ v, e = .returned (.tuple #[v, .int .i64 0]) ∧ NodesAt w' W.heap.size v (rawK f (fixR (geo1 20) f) 16) ∧ Below W.heap.size W w' := by
  obtain ⟨l1, l2, l3, l4⟩ := own_len ho
  unfold maxLen at l4
  exact rraw_c (geo1 20) f G 0 23552 cap W ⟨geo1_ok (by decide) (by decide), rfl, l3, by omega, own_rdB ho, B.byte⟩ (B.raw hn (by decide) (by decide))
end Go.Proofs.YtbbgahffcjbloaaGreat
end

section
/- FsckRoot: the pure side. -/
namespace Go.Proofs.YtbbgahffcjbloaaGreat
open Go.RowKit

def newO (m : Nat) (f : Nat → Nat) : Nat → Nat := outD (geo1 m) f 3 (repDN (geo1 m) f 3)
theorem new_row : ∀ j, j < 13 → outI ({ rootTN 3 with links := 2 } : Tk) j = rootI j := fun j hj => by
  unfold outI rootI
  rw [show ({ rootTN 3 with links := 2 } : Tk).L = [⟨0, 0, 0, 3⟩] from rfl, atF_one]
  by_cases h0 : j = 0
  · rw [if_pos h0, if_pos h0]; rfl
  · rw [if_neg h0, if_neg h0]
    by_cases h1 : j = 1
    · rw [if_pos h1, if_pos h1]
    · rw [if_neg h1, if_neg h1]
      by_cases h2 : j = 2
      · rw [if_pos h2, if_pos h2]; rfl
      · rw [if_neg h2, if_neg h2]
        by_cases h3 : j = 3
        · rw [if_pos (by omega), if_pos (by omega), if_pos h3]; rfl
        · by_cases h4 : j < 11
          · rw [if_pos h4, if_neg (by omega), if_neg h3]; rfl
          · rw [if_neg h4, if_neg h3]
theorem newE_ent (i : Nat) : newE i = entN 0 i := by
  unfold newE entN
  by_cases h0 : i = 0
  · rw [if_pos h0, if_pos h0]
  · rw [if_neg h0, if_neg h0]
    by_cases h1 : i = 1
    · rw [if_pos h1, if_pos h1]
    · rw [if_neg h1, if_neg h1, if_neg (by omega)]
theorem new_simpB {m : Nat} {f : Nat → Nat} (h8 : 8 ≤ m) (h1000 : m ≤ 1000) (hR : NewOk (geo1 m) f 3) (hf : ∀ k, f k < 256) (sup : ∀ k, k < 1024 → f k = superF (geo1 m) k) : SimpB m 0 (fun _ x => decide (x = 0)) (fun _ => rootI) (newO m f) := by
  have d3 : (geo1 m).dOk 3 = true := hR.dd
  have no3 : (geo1 m).dNo 3 = 0 := (Geo.one_dNo (g := geo1 m) rfl d3).1
  refine ⟨newO_lt f hf, fun q hq => ?_, rfl, fun x hx => ⟨rootI_r, rfl⟩, fun x hx k hk => ?_, fun j hj k hk => ?_, fun k hk => ?_, rfl, fun k hk => absurd hk (Nat.not_lt_zero k), fun k hk => absurd hk (Nat.not_lt_zero k), fun k hk => absurd hk (Nat.not_lt_zero k), fun k hk => absurd hk (Nat.not_lt_zero k), fun k hk => absurd hk (Nat.not_lt_zero k)⟩
  · unfold newO outD putF
    rw [if_neg (by omega), show (geo1 m).inodes = 16 from rfl, inosF_at m _ _ 16 (by omega) q, if_neg (by omega), if_neg (by omega)]
    exact sup q hq
  · unfold newO outD putF
    rw [repDN_eq, if_neg (by omega), show (geo1 m).inodes = 16 from rfl, inosF_at m _ _ 16 (by omega), if_pos (by omega), show (2048 + 64 * x + k - 2048) / 64 + 1 = x + 1 by omega, show (2048 + 64 * x + k - 2048) % 64 = k by omega]
    unfold inoRow updT mkN
    dsimp only
    by_cases h0 : x = 0
    · subst h0
      rw [if_pos rfl, if_pos (by omega)]
      exact inoF_congr new_row k
    · rw [if_neg (by omega), if_neg (by omega), if_neg (by omega)]
  · unfold newO outD putF
    rw [repDN_eq, if_neg (by omega), show (geo1 m).inodes = 16 from rfl, inosF_at m _ _ 16 (by omega), if_neg (by omega), if_pos (by omega)]
    have := pb_entN 0 (3072 + 32 * j + k) (by omega) (by omega) newE (fun i hi => newE_ent i)
    rw [show (3072 + 32 * j + k - 3072) / 32 = j by omega, show (3072 + 32 * j + k - 3072) % 32 = k by omega] at this
    rw [show 3 * 1024 = 3072 from rfl]
    exact this
  · unfold newO outD putF
    rw [repDN_eq, if_pos (by omega), show 1024 + k - 1024 = k by omega]
    have e1 : (fun i => (updT (mkN 3) 1 ({ rootTN 3 with links := 2 } : Tk) (i + 1)).isSome) = fun i => decide (i < 0 + 1) := by
      funext i
      unfold updT mkN
      dsimp only
      by_cases h0 : i + 1 = 1
      · rw [if_pos h0]; simp; omega
      · rw [if_neg h0, if_neg h0]; simp; omega
    dsimp only
    rw [e1]
    refine (headN_P h8 (by decide) (fun x => decide (x = 0)) (fun i => repCN (geo1 m) 3 ((geo1 m).data i)) (fun i _ => ?_) k).symm
    have e2 : repCN (geo1 m) 3 ((geo1 m).data i) = (false || decide ((geo1 m).data i = 3)) := by unfold repCN; rw [hR.keep]
    have h3 := data_iff d3 i
    rw [no3] at h3
    rw [e2, Bool.false_or]
    by_cases q : i = 0
    · rw [decide_eq_true q, decide_eq_true (h3.2 q)]
    · rw [decide_eq_false q, decide_eq_false (fun r => q (h3.1 r))]
/-- the first four blocks are those of an empty file system -/
theorem new_lo {f : Nat → Nat} (hR : NewOk (geo1 20) f 3) (hf : ∀ k, f k < 256) (sup : ∀ k, k < 1024 → f k = superF (geo1 20) k) (q : Nat) (hq : q < 4096) : newO 20 f q = mkF 20 q := by
  have B := new_simpB (m := 20) (by decide) (by decide) hR hf sup
  have T := trF_simpB 0 (by decide)
  show _ = trF 20 0 q
  have e0 : csN 0 = fun x => decide (x = 0) := by funext x; unfold csN; congr 1; exact propext ⟨fun h => by omega, fun h => by omega⟩
  by_cases h1 : q < 1024
  · rw [B.sup q h1, T.sup q h1]
  · by_cases h2 : q < 2048
    · obtain ⟨k, rfl⟩ : ∃ k, q = 1024 + k := ⟨q - 1024, by omega⟩
      rw [B.head k (by omega), T.head k (by omega), e0]
    · by_cases h3 : q < 3072
      · obtain ⟨x, k, rfl, hx, hk⟩ : ∃ x k, q = 2048 + 64 * x + k ∧ x < 16 ∧ k < 64 := ⟨(q - 2048) / 64, (q - 2048) % 64, by omega, by omega, by omega⟩
        rw [B.row x hx k hk, T.row x hx k hk]
        by_cases h0 : x ≤ 0
        · rw [if_pos h0, if_pos h0]
          obtain rfl : x = 0 := by omega
          rfl
        · rw [if_neg h0, if_neg h0]
      · obtain ⟨j, k, rfl, hj, hk⟩ : ∃ j k, q = 3072 + 32 * j + k ∧ j < 32 ∧ k < 32 := ⟨(q - 3072) / 32, (q - 3072) % 32, by omega, by omega, by omega⟩
        rw [B.erow j hj k hk, T.erow j hj k hk]
/-- the Tree without its root -/
def hR0 (n off v : Nat) : Nat → Nat := fun q => if q = off then v else trF 20 n q
def rtOff (i : Nat) : Nat := if i = 2 then 2056 else if i = 3 then 2053 else 2048
def rtVal (i : Nat) : Nat := if i = 0 ∨ i = 2 then 1 else 0
theorem inoAt_or (g : Geo) (f : Nat → Nat) (x j : Nat) : inoAt g f x j = 0 ∨ inoAt g f x j = inoRd (rawF g f x) j := by
  unfold inoAt
  split
  · exact .inr rfl
  · exact .inl rfl
theorem new_ok {n i : Nat} (hn : n ≤ 9) (hi : i < 4) : NewOk (geo1 20) (hR0 n (rtOff i) (rtVal i)) 3 := by
  have row : ∀ k, k < 64 → trF 20 n (2048 + k) = inoF rootI k := fun k hk => by
    have := trF_row 20 n hn 0 (by decide) k hk
    rw [if_pos (Nat.zero_le _)] at this
    exact this
  have raw : ∀ k, k < 64 → rawF (geo1 20) (hR0 n (rtOff i) (rtVal i)) 1 k = if 2048 + k = rtOff i then rtVal i else inoF rootI k := fun k hk => by
    have := rawF_at 20 0 (by decide) (hR0 n (rtOff i) (rtVal i)) k
    rw [show (0 : Nat) + 1 = 1 from rfl, show 2048 + 64 * 0 + k = 2048 + k by omega] at this
    rw [this]
    unfold hR0
    rw [row k hk]
  refine ⟨geo1_ok (by decide) (by decide), rfl, ?_, rfl, dOk_one (by decide) (by decide), rfl⟩
  obtain rfl | rfl | rfl | rfl : i = 0 ∨ i = 1 ∨ i = 2 ∨ i = 3 := by omega
  · left
    rcases inoAt_or (geo1 20) (hR0 n (rtOff 0) (rtVal 0)) 1 0 with e | e
    · rw [e]; decide
    · rw [e]
      show leN (rawF (geo1 20) _ 1) 2 ≠ 2
      rw [leN_congr 2 (g := fun k => if k = 0 then 1 else 0) (fun k hk => by
        rw [raw k (by omega)]
        match k, hk with
        | 0, _ => rfl
        | 1, _ => rfl)]
      decide
  · left
    rcases inoAt_or (geo1 20) (hR0 n (rtOff 1) (rtVal 1)) 1 0 with e | e
    · rw [e]; decide
    · rw [e]
      show leN (rawF (geo1 20) _ 1) 2 ≠ 2
      rw [leN_congr 2 (g := fun _ => 0) (fun k hk => by
        rw [raw k (by omega)]
        match k, hk with
        | 0, _ => rfl
        | 1, _ => rfl)]
      decide
  · right; right
    rcases inoAt_or (geo1 20) (hR0 n (rtOff 2) (rtVal 2)) 1 3 with e | e
    · rw [e]; rfl
    · rw [e]
      show (geo1 20).dOk (leN (fun k => rawF (geo1 20) _ 1 (8 + 4 * (3 - 3) + k)) 4) = false
      rw [leN_congr 4 (g := fun k => if k = 0 then 1 else 0) (fun k hk => by
        rw [raw _ (by omega)]
        match k, hk with
        | 0, _ => rfl
        | 1, _ => rfl
        | 2, _ => rfl
        | 3, _ => rfl)]
      rfl
  · right; left
    rcases inoAt_or (geo1 20) (hR0 n (rtOff 3) (rtVal 3)) 1 2 with e | e
    · rw [e]; decide
    · rw [e]
      show leN (fun k => rawF (geo1 20) _ 1 (4 + k)) 4 < 1024
      rw [leN_congr 4 (g := fun _ => 0) (fun k hk => by
        rw [raw _ (by omega)]
        match k, hk with
        | 0, _ => rfl
        | 1, _ => rfl
        | 2, _ => rfl
        | 3, _ => rfl)]
      decide
theorem hR0_lt {n i : Nat} (hn : n ≤ 9) (q : Nat) : hR0 n (rtOff i) (rtVal i) q < 256 := by
  unfold hR0
  split
  · unfold rtVal; split <;> decide
  · exact trF_lt 20 n (by omega) q
theorem hR0_sup {n i : Nat} (hn : n ≤ 9) (q : Nat) (hq : q < 1024) : hR0 n (rtOff i) (rtVal i) q = superF (geo1 20) q := by
  unfold hR0
  rw [if_neg (by unfold rtOff; split <;> (try split) <;> omega)]
  exact trF_sup 20 n (by omega) q hq
theorem supOk_of {m : Nat} {f : Nat → Nat} (h8 : 8 ≤ m) (h1000 : m ≤ 1000) (sup : ∀ k, k < 1024 → f k = superF (geo1 m) k) : supG f = geo1 m ∧ ofOk f ((3 + m) * 1024) = true := by
  have h0 : ∀ k, k < 20 → superF (geo1 m) k = superK (geo1 m) 3 k := fun k hk => by
    unfold superF putF catF; rw [if_pos (by omega), Nat.sub_zero, if_pos hk]
  have h1 : ∀ a j, a < 3 → j < 4 → superK (geo1 m) 3 (8 + 4 * a + j) = byteN ((geo1 m).fld a) j := fun a j ha hj => by
    show catF (8 + 4 * 2) (catF (8 + 4 * 1) (catF (8 + 4 * 0) markF _) _) _ (8 + 4 * a + j) = _
    unfold catF
    match a, ha with
    | 0, _ => rw [if_pos (by omega), if_pos (by omega), if_neg (by omega), show 8 + 4 * 0 + j - (8 + 4 * 0) = j by omega]
    | 1, _ => rw [if_pos (by omega), if_neg (by omega), show 8 + 4 * 1 + j - (8 + 4 * 1) = j by omega]
    | 2, _ => rw [if_neg (by omega), show 8 + 4 * 2 + j - (8 + 4 * 2) = j by omega]
  have hG : supG f = geo1 m := by
    unfold supG
    rw [leN_congr 4 (g := byteN 1) (fun k hk => by rw [sup _ (by omega), h0 _ (by omega)]; exact h1 0 k (by omega) hk),
      leN_congr (f := fun k => f (12 + k)) 4 (g := byteN 1) (fun k hk => by rw [sup _ (by omega), h0 _ (by omega)]; exact h1 1 k (by omega) hk),
      leN_congr (f := fun k => f (16 + k)) 4 (g := byteN m) (fun k hk => by rw [sup _ (by omega), h0 _ (by omega)]; exact h1 2 k (by omega) hk),
      leN_byte _ _ (by decide), leN_byte _ _ (by omega)]
    rfl
  have h2 : supOk f = true := by
    unfold Go.Proofs.YtbbgahffcjbloaaGreat.supOk
    rw [hG, Geo.okB_iff.2 (geo1_ok h8 h1000), Bool.true_and]
    unfold eqB
    rw [decide_eq_true_iff]
    intro k hk
    rw [sup k hk]
  refine ⟨hG, ?_⟩
  unfold Go.Proofs.YtbbgahffcjbloaaGreat.ofOk
  rw [hG, h2, decide_eq_true (by omega), decide_eq_true (by show (3 + m) * 1024 = (1 + 1 * (1 + 1 + m)) * 1024; omega)]
  rfl
/-- Repair of the Tree without its root -/
theorem rtRep_c {n i : Nat} (hn : n ≤ 9) (hi : i < 4) (W : World) (base G cap : Nat) (ho : W.ownsRow base 5 1 (.slice (some ⟨G, 0, none⟩) 23552 cap) 23552 (bytesL (hR0 n (rtOff i) (rtVal i)) 23552)) :
    Calls Tryz.prog 11 #[.slice (some ⟨G, 0, none⟩) 23552 cap] W fun e w' => ∃ G' cap' v, e = .returned (.tuple #[.slice (some ⟨G', 0, none⟩) 23552 cap', v, .bool true]) ∧
      w'.ownsRow W.heap.size 5 1 (.slice (some ⟨G', 0, none⟩) 23552 cap') 23552 (bytesL (newO 20 (hR0 n (rtOff i) (rtVal i))) 23552) ∧
      w'.ownsRow W.heap.size 3 1 v (unlike (hR0 n (rtOff i) (rtVal i)) (newO 20 (hR0 n (rtOff i) (rtVal i))) 23).length ((unlike (hR0 n (rtOff i) (rtVal i)) (newO 20 (hR0 n (rtOff i) (rtVal i))) 23).map fun n => .int .i64 (n : Nat)) ∧ Below W.heap.size W w' := by
  obtain ⟨s1, s2⟩ := supOk_of (m := 20) (by decide) (by decide) (fun k hk => hR0_sup (i := i) hn k hk)
  obtain ⟨l1, l2, l3, l4⟩ := own_len ho
  unfold maxLen at l4
  exact frepn_c (g := geo1 20) (d := 3) s1.symm (own_rdB ho) (hR0_lt hn) rfl l3 (by omega) s2 (new_ok hn hi)
end Go.Proofs.YtbbgahffcjbloaaGreat
end

section
/- FsckRoot: the walk. -/
namespace Go.Proofs.YtbbgahffcjbloaaGreat
open Go.RowKit

set_option maxRecDepth 1000000 in
set_option maxHeartbeats 8000000 in
theorem root_out (n : Nat) (k : Int) (w : World) (hn : n ≤ 9) (h0 : k ≠ 0) (h1 : k ≠ 1) (h2 : k ≠ 2) (h3 : k ≠ 3) : Calls Tryz.prog 8 #[.int .i64 n, .int .i64 k] w fun e w' => e = .returned (.bool true) ∧ Below w.heap.size w w' := by
  have AL := alive_c
  have TR := tree_c n hn
  have gk : ∀ W : World, Blk 24 (W.alloc (.cells #[.int .i64 1, .int .i64 1, .int .i64 20] 24)) W.heap.size [.int .i64 1, .int .i64 1, .int .i64 20] := fun W => Blk.newL _
  have HAL := Lib.hid AL; have HTR := Lib.hid TR; have HGK := Lib.hid gk
  have d0 : decide ((n : Int) < 0) = false := by simp
  have d1 : decide ((9 : Int) < (n : Int)) = false := by simp; omega
  clear AL TR gk
  have q0 : (k == 0) = false := by simpa using h0
  have q1 : (k == 1) = false := by simpa using h1
  have q2 : (k == 2) = false := by simpa using h2
  have q3 : (k == 3) = false := by simpa using h3
  go_enter Tryz.func8, Tryz.ntmps8
  go_wp2_with (first
    | (go_at_call 9; refine (HAL.out _).mono ?_; rintro e w1 ⟨rfl, hb1⟩; have HB1 := Lib.hid hb1; have hz1 := hb1.size; have k1 := HGK.out w1; have c0 := k1.cell 0; have c1 := k1.cell 1; have c2 := k1.cell 2; simp only [List.getElem?_cons_zero, List.getElem?_cons_succ] at c0 c1 c2; have HK1 := Lib.hid k1; clear hb1 k1)
    | (go_at_call 10; refine (HTR.out _).mono ?_; rintro e w2 ⟨G, cap, rfl, ho2, hb2⟩; have hz2 := hb2.size; have HO2 := Lib.hid ho2; have HB2 := Lib.hid hb2; clear ho2 hb2))
  go_ret
  exact ⟨rfl, (HB1.out.alloc hz1 _).trans (HB2.out.mono (by simp; omega))⟩
set_option maxRecDepth 1000000 in
set_option maxHeartbeats 8000000 in
theorem root_0 (n : Nat) (w : World) (hn : n ≤ 9) : Calls Tryz.prog 8 #[.int .i64 n, .int .i64 0] w fun e w' => e = .returned (.bool true) ∧ Below w.heap.size w w' := by
  have AL := alive_c
  have TR := tree_c n hn
  have gk : ∀ W : World, Blk 24 (W.alloc (.cells #[.int .i64 1, .int .i64 1, .int .i64 20] 24)) W.heap.size [.int .i64 1, .int .i64 1, .int .i64 20] := fun W => Blk.newL _
  have HAL := Lib.hid AL; have HTR := Lib.hid TR; have HGK := Lib.hid gk
  have d0 : decide ((n : Int) < 0) = false := by simp
  have d1 : decide ((9 : Int) < (n : Int)) = false := by simp; omega
  clear AL TR gk
  have RP := fun W base G cap ho => rtRep_c (n := n) (i := 0) hn (by decide) W base G cap ho
  have NO := new_ok (n := n) (i := 0) hn (by decide)
  have B := new_simpB (m := 20) (by decide) (by decide) NO (hR0_lt hn) (fun k hk => hR0_sup hn k hk)
  have LO := fun q hq => new_lo NO (hR0_lt hn) (fun k hk => hR0_sup hn k hk) q hq
  have OL := newO_lt (g := geo1 20) (d := 3) (hR0 n (rtOff 0) (rtVal 0)) (hR0_lt hn)
  have RW := fun W base G cap ho => simp_raw B (by decide) W base G cap ho
  have hLL := B.nd_length (by decide) (by decide)
  have MK := fun W => mkfs_c 20 (by decide) (by decide) W
  replace OL : ∀ k, newO 20 (hR0 n (rtOff 0) (rtVal 0)) k < 256 := OL
  clear B NO
  have hst : strOf (newO 20 (hR0 n (rtOff 0) (rtVal 0))) 4096 = strOf (mkF 20) 4096 := strOf_congr fun k hk => LO k hk
  generalize rawK (newO 20 (hR0 n (rtOff 0) (rtVal 0))) (fixR (geo1 20) (newO 20 (hR0 n (rtOff 0) (rtVal 0)))) 16 = LL at RW hLL
  generalize newO 20 (hR0 n (rtOff 0) (rtVal 0)) = O at RP LO OL RW hst
  obtain ⟨ST, hST⟩ : ∃ s, s = strOf (mkF 20) 4096 := ⟨_, rfl⟩
  have CO := fun W G cap (hr : RdB W G 0 4096 O) => conv_str (P := Tryz.prog) W 25 9 5 G 0 4096 cap O OL hr Tryz.underlying25 Tryz.underlying5 Tryz.underlying9
  have CM := fun W G cap (hr : RdB W G 0 4096 (mkF 20)) => conv_str (P := Tryz.prog) W 25 9 5 G 0 4096 cap (mkF 20) (mkF_lt 20) hr Tryz.underlying25 Tryz.underlying5 Tryz.underlying9
  rw [hst, ← hST] at CO
  rw [← hST] at CM
  have HRP := Lib.hid RP; have HRW := Lib.hid RW; have HMK := Lib.hid MK; have HCO := Lib.hid CO; have HCM := Lib.hid CM; have HLL := Lib.hid hLL
  clear RP RW MK LO OL hst hST CO CM hLL
  go_enter Tryz.func8, Tryz.ntmps8
  go_upto_region 6 with (first
    | (go_at_call 9; refine (HAL.out _).mono ?_; rintro e w1 ⟨rfl, hb1⟩; have HB1 := Lib.hid hb1; have hz1 := hb1.size; have k1 := HGK.out w1; have c0 := k1.cell 0; have c1 := k1.cell 1; have c2 := k1.cell 2; simp only [List.getElem?_cons_zero, List.getElem?_cons_succ] at c0 c1 c2; have HK1 := Lib.hid k1; clear hb1 k1)
    | (go_at_call 10; refine (HTR.out _).mono ?_; rintro e w2 ⟨G, cap, rfl, ho2, hb2⟩; have hz2 := hb2.size; have HO2 := Lib.hid ho2; have HB2 := Lib.hid hb2; clear ho2 hb2))
  obtain ⟨l1, l2, l3, l4⟩ := own_len HO2.out
  unfold maxLen at l4
  have lw1 : w1.heap.size < w2.heap.size := by simp at hz2; omega
  have lG1 : w1.heap.size < G := by simp at l1; omega
  have hwG : w.heap.size ≤ G := by omega
  have ho2 := own_mono HO2.out (base' := w.heap.size) (by simp; omega)
  have hB2 : Below w.heap.size w w2 := (HB1.out.alloc hz1 _).trans (HB2.out.mono (by simp; omega))
  have hk2 := HK1.out.below HB2.out (by simp)
  obtain ⟨g1, f1⟩ := own_get ho2 (i := 2048) (by omega)
  have HO := Lib.hid ho2; have HBW := Lib.hid hB2; have HK2 := Lib.hid hk2
  clear ho2 hB2 hk2 c0 c1 c2 HO2 HB2 HB1 HK1
  go_upto_region 16 with fail
  have s1 := own_set HO.out (i := 2048) (by omega) 1 (u := .int .u8 1) rfl
  replace s1 : World.ownsRow _ w.heap.size 5 1 (.slice (some ⟨G, 0, none⟩) 23552 cap) 23552 (bytesL (hR0 n (rtOff 0) (rtVal 0)) 23552) := s1
  have hB3 : Below w.heap.size w (w2.setCell ⟨G, 2048, none⟩ (.int .u8 1)) := HBW.out.setCell (p := ⟨G, _, none⟩) hwG _
  have hk3 := HK2.out.other ⟨G, 2048, none⟩ (.int .u8 1) (by show G ≠ w1.heap.size; omega)
  obtain ⟨w3, hw3⟩ : ∃ W, W = w2.setCell ⟨G, 2048, none⟩ (.int .u8 1) := ⟨_, rfl⟩
  have hz3 : w3.heap.size = w2.heap.size := by rw [hw3]; simp
  rw [← hw3] at s1 hB3 hk3 ⊢
  have HS1 := Lib.hid s1; have HB3 := Lib.hid hB3; have HK3 := Lib.hid hk3
  clear s1 hB3 hk3 hw3 g1 f1 HO HBW HK2
  have hz3' := HB3.out.size
  go_upto_region 19 with (first
    | (go_at_call 11; refine (HRP.out _ _ _ _ HS1.out).mono ?_; rintro e w5 ⟨G5, cap5, v5, rfl, ho5, hv5, hb5⟩; obtain ⟨A5, c5, rfl⟩ := own_slice hv5; have hz5 := hb5.size; have hk5 := HK3.out.below hb5 HK3.out.lt; have c0 := hk5.cell 0; have c1 := hk5.cell 1; have c2 := hk5.cell 2; simp only [List.getElem?_cons_zero, List.getElem?_cons_succ] at c0 c1 c2; have lk5 := hk5.lt; have HO5 := Lib.hid ho5; have HB5 := Lib.hid hb5; clear ho5 hv5 hb5 hk5)
    | (go_at_call 20; refine (HMK.out _).mono ?_; rintro e w6 ⟨G6, cap6, rfl, ho6, hb6⟩; have hz6 := hb6.size; have ho5' := own_below HO5.out hb6; have HO5' := Lib.hid ho5'; have HO6 := Lib.hid ho6; have HB6 := Lib.hid hb6; clear ho6 hb6 ho5')
    | (go_at_call 12; refine (HRW.out _ _ _ _ HO5'.out).mono ?_; rintro e w7 ⟨v7, rfl, hn7, hb7⟩; have hz7 := hb7.size; obtain ⟨A7, c7, rfl⟩ := hn7.form; rw [HLL.out]; have HB7 := Lib.hid hb7; clear hn7 hb7))
  have r5 := own_rdB (own_below HO5'.out HB7.out)
  have r6 := own_rdB (own_below HO6.out HB7.out)
  have x5 := HCO.out w7.drew G5 cap5 (fun k hk => (((Below.refl w7.heap.size w7).drew.cell (p := ⟨G5, 0 + k, none⟩) (lt_of_cell (r5 0 (by decide)))).trans (r5 k (by omega))))
  have x6 := HCM.out w7.drew G6 cap6 (fun k hk => (((Below.refl w7.heap.size w7).drew.cell (p := ⟨G6, 0 + k, none⟩) (lt_of_cell (r6 0 (by decide)))).trans (r6 k (by omega))))
  have hc5 := (own_len HO5'.out).2.2
  have hc6 := (own_len HO6.out).2.2
  unfold maxLen at hc5 hc6
  obtain ⟨c51, c52⟩ := hc5
  obtain ⟨c61, c62⟩ := hc6
  have e5 : (4096 : Int) ≤ (cap5 : Int) := by omega
  have e6 : (4096 : Int) ≤ (cap6 : Int) := by omega
  have hB7 : Below w.heap.size w w7 := ((HB3.out.trans (HB5.out.mono (by omega))).trans (HB6.out.mono (by omega))).trans (HB7.out.mono (by omega))
  have HB8 := Lib.hid hB7
  clear r5 r6 hB7 c0 c1 c2
  refine wp_region_held_drew (S := fun (w' : World) => (convert 25 9 (.slice (some ⟨G5, 0, none⟩) 4096 cap5)).run Tryz.prog w' = .ok (.string ST) w' ∧ (convert 25 9 (.slice (some ⟨G6, 0, none⟩) 4096 cap6)).run Tryz.prog w' = .ok (.string ST) w') (by kernel_rfl) ⟨x5, x6⟩ (fun hHeld => ?_)
  refine tkA (i := 0) (oi := ⟨_, _, _, _, _, _⟩) ?_
  simp only [putA, List.set]
  refine tkA (i := 1) (oi := ⟨_, _, _, _, _, _⟩) ?_
  simp only [putA, List.set]
  refine tkA (i := 2) (oi := ⟨_, _, _, _, _, _⟩) ?_
  simp only [putA, List.set]
  refine tkA (i := 3) (oi := ⟨_, _, _, _, _, _⟩) ?_
  simp only [putA, List.set]
  refine tkA (i := 4) (oi := ⟨_, _, _, _, _, _⟩) ?_
  simp only [putA, List.set]
  refine tkA (i := 5) (oi := ⟨_, _, _, _, _, _⟩) ?_
  simp only [putA, List.set]
  refine tkA (i := 6) (oi := ⟨_, _, _, _, _, _⟩) ?_
  simp only [putA, List.set]
  refine tkA (i := 7) (oi := ⟨_, _, _, _, _, _⟩) ?_
  simp only [putA, List.set]
  refine tkA (i := 8) (oi := ⟨_, _, _, _, _, _⟩) ?_
  simp only [putA, List.set]
  refine tkA (i := 9) (oi := ⟨_, _, _, _, _, _⟩) ?_
  simp only [putA, List.set]
  refine tkA (i := 10) (oi := ⟨_, _, _, _, _, _⟩) ?_
  simp only [putA, List.set]
  refine tkA (i := 11) (oi := ⟨_, _, _, _, _, _⟩) ?_
  simp only [putA, List.set]
  refine tkA (i := 12) (oi := ⟨_, _, _, _, _, _⟩) ?_
  simp only [putA, List.set]
  refine tkA (i := 13) (oi := ⟨_, _, _, _, _, _⟩) ?_
  simp only [putA, List.set]
  refine tkA (i := 14) (oi := ⟨_, _, _, _, _, _⟩) ?_
  simp only [putA, List.set]
  refine tkA (i := 15) (oi := ⟨_, _, _, _, _, _⟩) ?_
  simp only [putA, List.set]
  refine tkA (i := 16) (oi := ⟨_, _, _, _, _, _⟩) ?_
  simp only [putA, List.set]
  refine tkA (i := 17) (oi := ⟨_, _, _, _, _, _⟩) ?_
  simp only [putA, List.set]
  refine tkA (i := 18) (oi := ⟨_, _, _, _, _, _⟩) ?_
  simp only [putA, List.set]
  refine tkA (i := 19) (oi := ⟨_, _, _, _, _, _⟩) ?_
  simp only [putA, List.set]
  refine wpAnyH_done (by kernel_rfl) ?_ _
  clear hHeld
  go_wp2_with fail
  go_ret
  exact ⟨rfl, HB8.out.drew⟩
set_option maxRecDepth 1000000 in
set_option maxHeartbeats 8000000 in
theorem root_1 (n : Nat) (w : World) (hn : n ≤ 9) : Calls Tryz.prog 8 #[.int .i64 n, .int .i64 1] w fun e w' => e = .returned (.bool true) ∧ Below w.heap.size w w' := by
  have AL := alive_c
  have TR := tree_c n hn
  have gk : ∀ W : World, Blk 24 (W.alloc (.cells #[.int .i64 1, .int .i64 1, .int .i64 20] 24)) W.heap.size [.int .i64 1, .int .i64 1, .int .i64 20] := fun W => Blk.newL _
  have HAL := Lib.hid AL; have HTR := Lib.hid TR; have HGK := Lib.hid gk
  have d0 : decide ((n : Int) < 0) = false := by simp
  have d1 : decide ((9 : Int) < (n : Int)) = false := by simp; omega
  clear AL TR gk
  have RP := fun W base G cap ho => rtRep_c (n := n) (i := 1) hn (by decide) W base G cap ho
  have NO := new_ok (n := n) (i := 1) hn (by decide)
  have B := new_simpB (m := 20) (by decide) (by decide) NO (hR0_lt hn) (fun k hk => hR0_sup hn k hk)
  have LO := fun q hq => new_lo NO (hR0_lt hn) (fun k hk => hR0_sup hn k hk) q hq
  have OL := newO_lt (g := geo1 20) (d := 3) (hR0 n (rtOff 1) (rtVal 1)) (hR0_lt hn)
  have RW := fun W base G cap ho => simp_raw B (by decide) W base G cap ho
  have hLL := B.nd_length (by decide) (by decide)
  have MK := fun W => mkfs_c 20 (by decide) (by decide) W
  replace OL : ∀ k, newO 20 (hR0 n (rtOff 1) (rtVal 1)) k < 256 := OL
  clear B NO
  have hst : strOf (newO 20 (hR0 n (rtOff 1) (rtVal 1))) 4096 = strOf (mkF 20) 4096 := strOf_congr fun k hk => LO k hk
  generalize rawK (newO 20 (hR0 n (rtOff 1) (rtVal 1))) (fixR (geo1 20) (newO 20 (hR0 n (rtOff 1) (rtVal 1)))) 16 = LL at RW hLL
  generalize newO 20 (hR0 n (rtOff 1) (rtVal 1)) = O at RP LO OL RW hst
  obtain ⟨ST, hST⟩ : ∃ s, s = strOf (mkF 20) 4096 := ⟨_, rfl⟩
  have CO := fun W G cap (hr : RdB W G 0 4096 O) => conv_str (P := Tryz.prog) W 25 9 5 G 0 4096 cap O OL hr Tryz.underlying25 Tryz.underlying5 Tryz.underlying9
  have CM := fun W G cap (hr : RdB W G 0 4096 (mkF 20)) => conv_str (P := Tryz.prog) W 25 9 5 G 0 4096 cap (mkF 20) (mkF_lt 20) hr Tryz.underlying25 Tryz.underlying5 Tryz.underlying9
  rw [hst, ← hST] at CO
  rw [← hST] at CM
  have HRP := Lib.hid RP; have HRW := Lib.hid RW; have HMK := Lib.hid MK; have HCO := Lib.hid CO; have HCM := Lib.hid CM; have HLL := Lib.hid hLL
  clear RP RW MK LO OL hst hST CO CM hLL
  go_enter Tryz.func8, Tryz.ntmps8
  go_upto_region 6 with (first
    | (go_at_call 9; refine (HAL.out _).mono ?_; rintro e w1 ⟨rfl, hb1⟩; have HB1 := Lib.hid hb1; have hz1 := hb1.size; have k1 := HGK.out w1; have c0 := k1.cell 0; have c1 := k1.cell 1; have c2 := k1.cell 2; simp only [List.getElem?_cons_zero, List.getElem?_cons_succ] at c0 c1 c2; have HK1 := Lib.hid k1; clear hb1 k1)
    | (go_at_call 10; refine (HTR.out _).mono ?_; rintro e w2 ⟨G, cap, rfl, ho2, hb2⟩; have hz2 := hb2.size; have HO2 := Lib.hid ho2; have HB2 := Lib.hid hb2; clear ho2 hb2))
  obtain ⟨l1, l2, l3, l4⟩ := own_len HO2.out
  unfold maxLen at l4
  have lw1 : w1.heap.size < w2.heap.size := by simp at hz2; omega
  have lG1 : w1.heap.size < G := by simp at l1; omega
  have hwG : w.heap.size ≤ G := by omega
  have ho2 := own_mono HO2.out (base' := w.heap.size) (by simp; omega)
  have hB2 : Below w.heap.size w w2 := (HB1.out.alloc hz1 _).trans (HB2.out.mono (by simp; omega))
  have hk2 := HK1.out.below HB2.out (by simp)
  obtain ⟨g1, f1⟩ := own_get ho2 (i := 2048) (by omega)
  have HO := Lib.hid ho2; have HBW := Lib.hid hB2; have HK2 := Lib.hid hk2
  clear ho2 hB2 hk2 c0 c1 c2 HO2 HB2 HB1 HK1
  go_upto_region 16 with fail
  have s1 := own_set HO.out (i := 2048) (by omega) 0 (u := .int .u8 0) rfl
  replace s1 : World.ownsRow _ w.heap.size 5 1 (.slice (some ⟨G, 0, none⟩) 23552 cap) 23552 (bytesL (hR0 n (rtOff 1) (rtVal 1)) 23552) := s1
  have hB3 : Below w.heap.size w (w2.setCell ⟨G, 2048, none⟩ (.int .u8 0)) := HBW.out.setCell (p := ⟨G, _, none⟩) hwG _
  have hk3 := HK2.out.other ⟨G, 2048, none⟩ (.int .u8 0) (by show G ≠ w1.heap.size; omega)
  obtain ⟨w3, hw3⟩ : ∃ W, W = w2.setCell ⟨G, 2048, none⟩ (.int .u8 0) := ⟨_, rfl⟩
  have hz3 : w3.heap.size = w2.heap.size := by rw [hw3]; simp
  rw [← hw3] at s1 hB3 hk3 ⊢
  have HS1 := Lib.hid s1; have HB3 := Lib.hid hB3; have HK3 := Lib.hid hk3
  clear s1 hB3 hk3 hw3 g1 f1 HO HBW HK2
  have hz3' := HB3.out.size
  go_upto_region 19 with (first
    | (go_at_call 11; refine (HRP.out _ _ _ _ HS1.out).mono ?_; rintro e w5 ⟨G5, cap5, v5, rfl, ho5, hv5, hb5⟩; obtain ⟨A5, c5, rfl⟩ := own_slice hv5; have hz5 := hb5.size; have hk5 := HK3.out.below hb5 HK3.out.lt; have c0 := hk5.cell 0; have c1 := hk5.cell 1; have c2 := hk5.cell 2; simp only [List.getElem?_cons_zero, List.getElem?_cons_succ] at c0 c1 c2; have lk5 := hk5.lt; have HO5 := Lib.hid ho5; have HB5 := Lib.hid hb5; clear ho5 hv5 hb5 hk5)
    | (go_at_call 20; refine (HMK.out _).mono ?_; rintro e w6 ⟨G6, cap6, rfl, ho6, hb6⟩; have hz6 := hb6.size; have ho5' := own_below HO5.out hb6; have HO5' := Lib.hid ho5'; have HO6 := Lib.hid ho6; have HB6 := Lib.hid hb6; clear ho6 hb6 ho5')
    | (go_at_call 12; refine (HRW.out _ _ _ _ HO5'.out).mono ?_; rintro e w7 ⟨v7, rfl, hn7, hb7⟩; have hz7 := hb7.size; obtain ⟨A7, c7, rfl⟩ := hn7.form; rw [HLL.out]; have HB7 := Lib.hid hb7; clear hn7 hb7))
  have r5 := own_rdB (own_below HO5'.out HB7.out)
  have r6 := own_rdB (own_below HO6.out HB7.out)
  have x5 := HCO.out w7.drew G5 cap5 (fun k hk => (((Below.refl w7.heap.size w7).drew.cell (p := ⟨G5, 0 + k, none⟩) (lt_of_cell (r5 0 (by decide)))).trans (r5 k (by omega))))
  have x6 := HCM.out w7.drew G6 cap6 (fun k hk => (((Below.refl w7.heap.size w7).drew.cell (p := ⟨G6, 0 + k, none⟩) (lt_of_cell (r6 0 (by decide)))).trans (r6 k (by omega))))
  have hc5 := (own_len HO5'.out).2.2
  have hc6 := (own_len HO6.out).2.2
  unfold maxLen at hc5 hc6
  obtain ⟨c51, c52⟩ := hc5
  obtain ⟨c61, c62⟩ := hc6
  have e5 : (4096 : Int) ≤ (cap5 : Int) := by omega
  have e6 : (4096 : Int) ≤ (cap6 : Int) := by omega
  have hB7 : Below w.heap.size w w7 := ((HB3.out.trans (HB5.out.mono (by omega))).trans (HB6.out.mono (by omega))).trans (HB7.out.mono (by omega))
  have HB8 := Lib.hid hB7
  clear r5 r6 hB7 c0 c1 c2
  refine wp_region_held_drew (S := fun (w' : World) => (convert 25 9 (.slice (some ⟨G5, 0, none⟩) 4096 cap5)).run Tryz.prog w' = .ok (.string ST) w' ∧ (convert 25 9 (.slice (some ⟨G6, 0, none⟩) 4096 cap6)).run Tryz.prog w' = .ok (.string ST) w') (by kernel_rfl) ⟨x5, x6⟩ (fun hHeld => ?_)
  refine tkA (i := 0) (oi := ⟨_, _, _, _, _, _⟩) ?_
  simp only [putA, List.set]
  refine tkA (i := 1) (oi := ⟨_, _, _, _, _, _⟩) ?_
  simp only [putA, List.set]
  refine tkA (i := 2) (oi := ⟨_, _, _, _, _, _⟩) ?_
  simp only [putA, List.set]
  refine tkA (i := 3) (oi := ⟨_, _, _, _, _, _⟩) ?_
  simp only [putA, List.set]
  refine tkA (i := 4) (oi := ⟨_, _, _, _, _, _⟩) ?_
  simp only [putA, List.set]
  refine tkA (i := 5) (oi := ⟨_, _, _, _, _, _⟩) ?_
  simp only [putA, List.set]
  refine tkA (i := 6) (oi := ⟨_, _, _, _, _, _⟩) ?_
  simp only [putA, List.set]
  refine tkA (i := 7) (oi := ⟨_, _, _, _, _, _⟩) ?_
  simp only [putA, List.set]
  refine tkA (i := 8) (oi := ⟨_, _, _, _, _, _⟩) ?_
  simp only [putA, List.set]
  refine tkA (i := 9) (oi := ⟨_, _, _, _, _, _⟩) ?_
  simp only [putA, List.set]
  refine tkA (i := 10) (oi := ⟨_, _, _, _, _, _⟩) ?_
  simp only [putA, List.set]
  refine tkA (i := 11) (oi := ⟨_, _, _, _, _, _⟩) ?_
  simp only [putA, List.set]
  refine tkA (i := 12) (oi := ⟨_, _, _, _, _, _⟩) ?_
  simp only [putA, List.set]
  refine tkA (i := 13) (oi := ⟨_, _, _, _, _, _⟩) ?_
  simp only [putA, List.set]
  refine tkA (i := 14) (oi := ⟨_, _, _, _, _, _⟩) ?_
  simp only [putA, List.set]
  refine tkA (i := 15) (oi := ⟨_, _, _, _, _, _⟩) ?_
  simp only [putA, List.set]
  refine tkA (i := 16) (oi := ⟨_, _, _, _, _, _⟩) ?_
  simp only [putA, List.set]
  refine tkA (i := 17) (oi := ⟨_, _, _, _, _, _⟩) ?_
  simp only [putA, List.set]
  refine tkA (i := 18) (oi := ⟨_, _, _, _, _, _⟩) ?_
  simp only [putA, List.set]
  refine tkA (i := 19) (oi := ⟨_, _, _, _, _, _⟩) ?_
  simp only [putA, List.set]
  refine wpAnyH_done (by kernel_rfl) ?_ _
  clear hHeld
  go_wp2_with fail
  go_ret
  exact ⟨rfl, HB8.out.drew⟩
set_option maxRecDepth 1000000 in
set_option maxHeartbeats 8000000 in
theorem root_2 (n : Nat) (w : World) (hn : n ≤ 9) : Calls Tryz.prog 8 #[.int .i64 n, .int .i64 2] w fun e w' => e = .returned (.bool true) ∧ Below w.heap.size w w' := by
  have AL := alive_c
  have TR := tree_c n hn
  have gk : ∀ W : World, Blk 24 (W.alloc (.cells #[.int .i64 1, .int .i64 1, .int .i64 20] 24)) W.heap.size [.int .i64 1, .int .i64 1, .int .i64 20] := fun W => Blk.newL _
  have HAL := Lib.hid AL; have HTR := Lib.hid TR; have HGK := Lib.hid gk
  have d0 : decide ((n : Int) < 0) = false := by simp
  have d1 : decide ((9 : Int) < (n : Int)) = false := by simp; omega
  clear AL TR gk
  have RP := fun W base G cap ho => rtRep_c (n := n) (i := 2) hn (by decide) W base G cap ho
  have NO := new_ok (n := n) (i := 2) hn (by decide)
  have B := new_simpB (m := 20) (by decide) (by decide) NO (hR0_lt hn) (fun k hk => hR0_sup hn k hk)
  have LO := fun q hq => new_lo NO (hR0_lt hn) (fun k hk => hR0_sup hn k hk) q hq
  have OL := newO_lt (g := geo1 20) (d := 3) (hR0 n (rtOff 2) (rtVal 2)) (hR0_lt hn)
  have RW := fun W base G cap ho => simp_raw B (by decide) W base G cap ho
  have hLL := B.nd_length (by decide) (by decide)
  have MK := fun W => mkfs_c 20 (by decide) (by decide) W
  replace OL : ∀ k, newO 20 (hR0 n (rtOff 2) (rtVal 2)) k < 256 := OL
  clear B NO
  have hst : strOf (newO 20 (hR0 n (rtOff 2) (rtVal 2))) 4096 = strOf (mkF 20) 4096 := strOf_congr fun k hk => LO k hk
  generalize rawK (newO 20 (hR0 n (rtOff 2) (rtVal 2))) (fixR (geo1 20) (newO 20 (hR0 n (rtOff 2) (rtVal 2)))) 16 = LL at RW hLL
  generalize newO 20 (hR0 n (rtOff 2) (rtVal 2)) = O at RP LO OL RW hst
  obtain ⟨ST, hST⟩ : ∃ s, s = strOf (mkF 20) 4096 := ⟨_, rfl⟩
  have CO := fun W G cap (hr : RdB W G 0 4096 O) => conv_str (P := Tryz.prog) W 25 9 5 G 0 4096 cap O OL hr Tryz.underlying25 Tryz.underlying5 Tryz.underlying9
  have CM := fun W G cap (hr : RdB W G 0 4096 (mkF 20)) => conv_str (P := Tryz.prog) W 25 9 5 G 0 4096 cap (mkF 20) (mkF_lt 20) hr Tryz.underlying25 Tryz.underlying5 Tryz.underlying9
  rw [hst, ← hST] at CO
  rw [← hST] at CM
  have HRP := Lib.hid RP; have HRW := Lib.hid RW; have HMK := Lib.hid MK; have HCO := Lib.hid CO; have HCM := Lib.hid CM; have HLL := Lib.hid hLL
  clear RP RW MK LO OL hst hST CO CM hLL
  go_enter Tryz.func8, Tryz.ntmps8
  go_upto_region 6 with (first
    | (go_at_call 9; refine (HAL.out _).mono ?_; rintro e w1 ⟨rfl, hb1⟩; have HB1 := Lib.hid hb1; have hz1 := hb1.size; have k1 := HGK.out w1; have c0 := k1.cell 0; have c1 := k1.cell 1; have c2 := k1.cell 2; simp only [List.getElem?_cons_zero, List.getElem?_cons_succ] at c0 c1 c2; have HK1 := Lib.hid k1; clear hb1 k1)
    | (go_at_call 10; refine (HTR.out _).mono ?_; rintro e w2 ⟨G, cap, rfl, ho2, hb2⟩; have hz2 := hb2.size; have HO2 := Lib.hid ho2; have HB2 := Lib.hid hb2; clear ho2 hb2))
  obtain ⟨l1, l2, l3, l4⟩ := own_len HO2.out
  unfold maxLen at l4
  have lw1 : w1.heap.size < w2.heap.size := by simp at hz2; omega
  have lG1 : w1.heap.size < G := by simp at l1; omega
  have hwG : w.heap.size ≤ G := by omega
  have ho2 := own_mono HO2.out (base' := w.heap.size) (by simp; omega)
  have hB2 : Below w.heap.size w w2 := (HB1.out.alloc hz1 _).trans (HB2.out.mono (by simp; omega))
  have hk2 := HK1.out.below HB2.out (by simp)
  obtain ⟨g1, f1⟩ := own_get ho2 (i := 2056) (by omega)
  have HO := Lib.hid ho2; have HBW := Lib.hid hB2; have HK2 := Lib.hid hk2
  clear ho2 hB2 hk2 c0 c1 c2 HO2 HB2 HB1 HK1
  go_upto_region 16 with fail
  have s1 := own_set HO.out (i := 2056) (by omega) 1 (u := .int .u8 1) rfl
  replace s1 : World.ownsRow _ w.heap.size 5 1 (.slice (some ⟨G, 0, none⟩) 23552 cap) 23552 (bytesL (hR0 n (rtOff 2) (rtVal 2)) 23552) := s1
  have hB3 : Below w.heap.size w (w2.setCell ⟨G, 2056, none⟩ (.int .u8 1)) := HBW.out.setCell (p := ⟨G, _, none⟩) hwG _
  have hk3 := HK2.out.other ⟨G, 2056, none⟩ (.int .u8 1) (by show G ≠ w1.heap.size; omega)
  obtain ⟨w3, hw3⟩ : ∃ W, W = w2.setCell ⟨G, 2056, none⟩ (.int .u8 1) := ⟨_, rfl⟩
  have hz3 : w3.heap.size = w2.heap.size := by rw [hw3]; simp
  rw [← hw3] at s1 hB3 hk3 ⊢
  have HS1 := Lib.hid s1; have HB3 := Lib.hid hB3; have HK3 := Lib.hid hk3
  clear s1 hB3 hk3 hw3 g1 f1 HO HBW HK2
  have hz3' := HB3.out.size
  go_upto_region 19 with (first
    | (go_at_call 11; refine (HRP.out _ _ _ _ HS1.out).mono ?_; rintro e w5 ⟨G5, cap5, v5, rfl, ho5, hv5, hb5⟩; obtain ⟨A5, c5, rfl⟩ := own_slice hv5; have hz5 := hb5.size; have hk5 := HK3.out.below hb5 HK3.out.lt; have c0 := hk5.cell 0; have c1 := hk5.cell 1; have c2 := hk5.cell 2; simp only [List.getElem?_cons_zero, List.getElem?_cons_succ] at c0 c1 c2; have lk5 := hk5.lt; have HO5 := Lib.hid ho5; have HB5 := Lib.hid hb5; clear ho5 hv5 hb5 hk5)
    | (go_at_call 20; refine (HMK.out _).mono ?_; rintro e w6 ⟨G6, cap6, rfl, ho6, hb6⟩; have hz6 := hb6.size; have ho5' := own_below HO5.out hb6; have HO5' := Lib.hid ho5'; have HO6 := Lib.hid ho6; have HB6 := Lib.hid hb6; clear ho6 hb6 ho5')
    | (go_at_call 12; refine (HRW.out _ _ _ _ HO5'.out).mono ?_; rintro e w7 ⟨v7, rfl, hn7, hb7⟩; have hz7 := hb7.size; obtain ⟨A7, c7, rfl⟩ := hn7.form; rw [HLL.out]; have HB7 := Lib.hid hb7; clear hn7 hb7))
  have r5 := own_rdB (own_below HO5'.out HB7.out)
  have r6 := own_rdB (own_below HO6.out HB7.out)
  have x5 := HCO.out w7.drew G5 cap5 (fun k hk => (((Below.refl w7.heap.size w7).drew.cell (p := ⟨G5, 0 + k, none⟩) (lt_of_cell (r5 0 (by decide)))).trans (r5 k (by omega))))
  have x6 := HCM.out w7.drew G6 cap6 (fun k hk => (((Below.refl w7.heap.size w7).drew.cell (p := ⟨G6, 0 + k, none⟩) (lt_of_cell (r6 0 (by decide)))).trans (r6 k (by omega))))
  have hc5 := (own_len HO5'.out).2.2
  have hc6 := (own_len HO6.out).2.2
  unfold maxLen at hc5 hc6
  obtain ⟨c51, c52⟩ := hc5
  obtain ⟨c61, c62⟩ := hc6
  have e5 : (4096 : Int) ≤ (cap5 : Int) := by omega
  have e6 : (4096 : Int) ≤ (cap6 : Int) := by omega
  have hB7 : Below w.heap.size w w7 := ((HB3.out.trans (HB5.out.mono (by omega))).trans (HB6.out.mono (by omega))).trans (HB7.out.mono (by omega))
  have HB8 := Lib.hid hB7
  clear r5 r6 hB7 c0 c1 c2
  refine wp_region_held_drew (S := fun (w' : World) => (convert 25 9 (.slice (some ⟨G5, 0, none⟩) 4096 cap5)).run Tryz.prog w' = .ok (.string ST) w' ∧ (convert 25 9 (.slice (some ⟨G6, 0, none⟩) 4096 cap6)).run Tryz.prog w' = .ok (.string ST) w') (by kernel_rfl) ⟨x5, x6⟩ (fun hHeld => ?_)
  refine tkA (i := 0) (oi := ⟨_, _, _, _, _, _⟩) ?_
  simp only [putA, List.set]
  refine tkA (i := 1) (oi := ⟨_, _, _, _, _, _⟩) ?_
  simp only [putA, List.set]
  refine tkA (i := 2) (oi := ⟨_, _, _, _, _, _⟩) ?_
  simp only [putA, List.set]
  refine tkA (i := 3) (oi := ⟨_, _, _, _, _, _⟩) ?_
  simp only [putA, List.set]
  refine tkA (i := 4) (oi := ⟨_, _, _, _, _, _⟩) ?_
  simp only [putA, List.set]
  refine tkA (i := 5) (oi := ⟨_, _, _, _, _, _⟩) ?_
  simp only [putA, List.set]
  refine tkA (i := 6) (oi := ⟨_, _, _, _, _, _⟩) ?_
  simp only [putA, List.set]
  refine tkA (i := 7) (oi := ⟨_, _, _, _, _, _⟩) ?_
  simp only [putA, List.set]
  refine tkA (i := 8) (oi := ⟨_, _, _, _, _, _⟩) ?_
  simp only [putA, List.set]
  refine tkA (i := 9) (oi := ⟨_, _, _, _, _, _⟩) ?_
  simp only [putA, List.set]
  refine tkA (i := 10) (oi := ⟨_, _, _, _, _, _⟩) ?_
  simp only [putA, List.set]
  refine tkA (i := 11) (oi := ⟨_, _, _, _, _, _⟩) ?_
  simp only [putA, List.set]
  refine tkA (i := 12) (oi := ⟨_, _, _, _, _, _⟩) ?_
  simp only [putA, List.set]
  refine tkA (i := 13) (oi := ⟨_, _, _, _, _, _⟩) ?_
  simp only [putA, List.set]
  refine tkA (i := 14) (oi := ⟨_, _, _, _, _, _⟩) ?_
  simp only [putA, List.set]
  refine tkA (i := 15) (oi := ⟨_, _, _, _, _, _⟩) ?_
  simp only [putA, List.set]
  refine tkA (i := 16) (oi := ⟨_, _, _, _, _, _⟩) ?_
  simp only [putA, List.set]
  refine tkA (i := 17) (oi := ⟨_, _, _, _, _, _⟩) ?_
  simp only [putA, List.set]
  refine tkA (i := 18) (oi := ⟨_, _, _, _, _, _⟩) ?_
  simp only [putA, List.set]
  refine tkA (i := 19) (oi := ⟨_, _, _, _, _, _⟩) ?_
  simp only [putA, List.set]
  refine wpAnyH_done (by kernel_rfl) ?_ _
  clear hHeld
  go_wp2_with fail
  go_ret
  exact ⟨rfl, HB8.out.drew⟩
set_option maxRecDepth 1000000 in
set_option maxHeartbeats 8000000 in
theorem root_3 (n : Nat) (w : World) (hn : n ≤ 9) : Calls Tryz.prog 8 #[.int .i64 n, .int .i64 3] w fun e w' => e = .returned (.bool true) ∧ Below w.heap.size w w' := by
  have AL := alive_c
  have TR := tree_c n hn
  have gk : ∀ W : World, Blk 24 (W.alloc (.cells #[.int .i64 1, .int .i64 1, .int .i64 20] 24)) W.heap.size [.int .i64 1, .int .i64 1, .int .i64 20] := fun W => Blk.newL _
  have HAL := Lib.hid AL; have HTR := Lib.hid TR; have HGK := Lib.hid gk
  have d0 : decide ((n : Int) < 0) = false := by simp
  have d1 : decide ((9 : Int) < (n : Int)) = false := by simp; omega
  clear AL TR gk
  have RP := fun W base G cap ho => rtRep_c (n := n) (i := 3) hn (by decide) W base G cap ho
  have NO := new_ok (n := n) (i := 3) hn (by decide)
  have B := new_simpB (m := 20) (by decide) (by decide) NO (hR0_lt hn) (fun k hk => hR0_sup hn k hk)
  have LO := fun q hq => new_lo NO (hR0_lt hn) (fun k hk => hR0_sup hn k hk) q hq
  have OL := newO_lt (g := geo1 20) (d := 3) (hR0 n (rtOff 3) (rtVal 3)) (hR0_lt hn)
  have RW := fun W base G cap ho => simp_raw B (by decide) W base G cap ho
  have hLL := B.nd_length (by decide) (by decide)
  have MK := fun W => mkfs_c 20 (by decide) (by decide) W
  replace OL : ∀ k, newO 20 (hR0 n (rtOff 3) (rtVal 3)) k < 256 := OL
  clear B NO
  have hst : strOf (newO 20 (hR0 n (rtOff 3) (rtVal 3))) 4096 = strOf (mkF 20) 4096 := strOf_congr fun k hk => LO k hk
  generalize rawK (newO 20 (hR0 n (rtOff 3) (rtVal 3))) (fixR (geo1 20) (newO 20 (hR0 n (rtOff 3) (rtVal 3)))) 16 = LL at RW hLL
  generalize newO 20 (hR0 n (rtOff 3) (rtVal 3)) = O at RP LO OL RW hst
  obtain ⟨ST, hST⟩ : ∃ s, s = strOf (mkF 20) 4096 := ⟨_, rfl⟩
  have CO := fun W G cap (hr : RdB W G 0 4096 O) => conv_str (P := Tryz.prog) W 25 9 5 G 0 4096 cap O OL hr Tryz.underlying25 Tryz.underlying5 Tryz.underlying9
  have CM := fun W G cap (hr : RdB W G 0 4096 (mkF 20)) => conv_str (P := Tryz.prog) W 25 9 5 G 0 4096 cap (mkF 20) (mkF_lt 20) hr Tryz.underlying25 Tryz.underlying5 Tryz.underlying9
  rw [hst, ← hST] at CO
  rw [← hST] at CM
  have HRP := Lib.hid RP; have HRW := Lib.hid RW; have HMK := Lib.hid MK; have HCO := Lib.hid CO; have HCM := Lib.hid CM; have HLL := Lib.hid hLL
  clear RP RW MK LO OL hst hST CO CM hLL
  go_enter Tryz.func8, Tryz.ntmps8
  go_upto_region 6 with (first
    | (go_at_call 9; refine (HAL.out _).mono ?_; rintro e w1 ⟨rfl, hb1⟩; have HB1 := Lib.hid hb1; have hz1 := hb1.size; have k1 := HGK.out w1; have c0 := k1.cell 0; have c1 := k1.cell 1; have c2 := k1.cell 2; simp only [List.getElem?_cons_zero, List.getElem?_cons_succ] at c0 c1 c2; have HK1 := Lib.hid k1; clear hb1 k1)
    | (go_at_call 10; refine (HTR.out _).mono ?_; rintro e w2 ⟨G, cap, rfl, ho2, hb2⟩; have hz2 := hb2.size; have HO2 := Lib.hid ho2; have HB2 := Lib.hid hb2; clear ho2 hb2))
  obtain ⟨l1, l2, l3, l4⟩ := own_len HO2.out
  unfold maxLen at l4
  have lw1 : w1.heap.size < w2.heap.size := by simp at hz2; omega
  have lG1 : w1.heap.size < G := by simp at l1; omega
  have hwG : w.heap.size ≤ G := by omega
  have ho2 := own_mono HO2.out (base' := w.heap.size) (by simp; omega)
  have hB2 : Below w.heap.size w w2 := (HB1.out.alloc hz1 _).trans (HB2.out.mono (by simp; omega))
  have hk2 := HK1.out.below HB2.out (by simp)
  obtain ⟨g1, f1⟩ := own_get ho2 (i := 2053) (by omega)
  have HO := Lib.hid ho2; have HBW := Lib.hid hB2; have HK2 := Lib.hid hk2
  clear ho2 hB2 hk2 c0 c1 c2 HO2 HB2 HB1 HK1
  go_upto_region 16 with fail
  have s1 := own_set HO.out (i := 2053) (by omega) 0 (u := .int .u8 0) rfl
  replace s1 : World.ownsRow _ w.heap.size 5 1 (.slice (some ⟨G, 0, none⟩) 23552 cap) 23552 (bytesL (hR0 n (rtOff 3) (rtVal 3)) 23552) := s1
  have hB3 : Below w.heap.size w (w2.setCell ⟨G, 2053, none⟩ (.int .u8 0)) := HBW.out.setCell (p := ⟨G, _, none⟩) hwG _
  have hk3 := HK2.out.other ⟨G, 2053, none⟩ (.int .u8 0) (by show G ≠ w1.heap.size; omega)
  obtain ⟨w3, hw3⟩ : ∃ W, W = w2.setCell ⟨G, 2053, none⟩ (.int .u8 0) := ⟨_, rfl⟩
  have hz3 : w3.heap.size = w2.heap.size := by rw [hw3]; simp
  rw [← hw3] at s1 hB3 hk3 ⊢
  have HS1 := Lib.hid s1; have HB3 := Lib.hid hB3; have HK3 := Lib.hid hk3
  clear s1 hB3 hk3 hw3 g1 f1 HO HBW HK2
  have hz3' := HB3.out.size
  go_upto_region 19 with (first
    | (go_at_call 11; refine (HRP.out _ _ _ _ HS1.out).mono ?_; rintro e w5 ⟨G5, cap5, v5, rfl, ho5, hv5, hb5⟩; obtain ⟨A5, c5, rfl⟩ := own_slice hv5; have hz5 := hb5.size; have hk5 := HK3.out.below hb5 HK3.out.lt; have c0 := hk5.cell 0; have c1 := hk5.cell 1; have c2 := hk5.cell 2; simp only [List.getElem?_cons_zero, List.getElem?_cons_succ] at c0 c1 c2; have lk5 := hk5.lt; have HO5 := Lib.hid ho5; have HB5 := Lib.hid hb5; clear ho5 hv5 hb5 hk5)
    | (go_at_call 20; refine (HMK.out _).mono ?_; rintro e w6 ⟨G6, cap6, rfl, ho6, hb6⟩; have hz6 := hb6.size; have ho5' := own_below HO5.out hb6; have HO5' := Lib.hid ho5'; have HO6 := Lib.hid ho6; have HB6 := Lib.hid hb6; clear ho6 hb6 ho5')
    | (go_at_call 12; refine (HRW.out _ _ _ _ HO5'.out).mono ?_; rintro e w7 ⟨v7, rfl, hn7, hb7⟩; have hz7 := hb7.size; obtain ⟨A7, c7, rfl⟩ := hn7.form; rw [HLL.out]; have HB7 := Lib.hid hb7; clear hn7 hb7))
  have r5 := own_rdB (own_below HO5'.out HB7.out)
  have r6 := own_rdB (own_below HO6.out HB7.out)
  have x5 := HCO.out w7.drew G5 cap5 (fun k hk => (((Below.refl w7.heap.size w7).drew.cell (p := ⟨G5, 0 + k, none⟩) (lt_of_cell (r5 0 (by decide)))).trans (r5 k (by omega))))
  have x6 := HCM.out w7.drew G6 cap6 (fun k hk => (((Below.refl w7.heap.size w7).drew.cell (p := ⟨G6, 0 + k, none⟩) (lt_of_cell (r6 0 (by decide)))).trans (r6 k (by omega))))
  have hc5 := (own_len HO5'.out).2.2
  have hc6 := (own_len HO6.out).2.2
  unfold maxLen at hc5 hc6
  obtain ⟨c51, c52⟩ := hc5
  obtain ⟨c61, c62⟩ := hc6
  have e5 : (4096 : Int) ≤ (cap5 : Int) := by omega
  have e6 : (4096 : Int) ≤ (cap6 : Int) := by omega
  have hB7 : Below w.heap.size w w7 := ((HB3.out.trans (HB5.out.mono (by omega))).trans (HB6.out.mono (by omega))).trans (HB7.out.mono (by omega))
  have HB8 := Lib.hid hB7
  clear r5 r6 hB7 c0 c1 c2
  refine wp_region_held_drew (S := fun (w' : World) => (convert 25 9 (.slice (some ⟨G5, 0, none⟩) 4096 cap5)).run Tryz.prog w' = .ok (.string ST) w' ∧ (convert 25 9 (.slice (some ⟨G6, 0, none⟩) 4096 cap6)).run Tryz.prog w' = .ok (.string ST) w') (by kernel_rfl) ⟨x5, x6⟩ (fun hHeld => ?_)
  refine tkA (i := 0) (oi := ⟨_, _, _, _, _, _⟩) ?_
  simp only [putA, List.set]
  refine tkA (i := 1) (oi := ⟨_, _, _, _, _, _⟩) ?_
  simp only [putA, List.set]
  refine tkA (i := 2) (oi := ⟨_, _, _, _, _, _⟩) ?_
  simp only [putA, List.set]
  refine tkA (i := 3) (oi := ⟨_, _, _, _, _, _⟩) ?_
  simp only [putA, List.set]
  refine tkA (i := 4) (oi := ⟨_, _, _, _, _, _⟩) ?_
  simp only [putA, List.set]
  refine tkA (i := 5) (oi := ⟨_, _, _, _, _, _⟩) ?_
  simp only [putA, List.set]
  refine tkA (i := 6) (oi := ⟨_, _, _, _, _, _⟩) ?_
  simp only [putA, List.set]
  refine tkA (i := 7) (oi := ⟨_, _, _, _, _, _⟩) ?_
  simp only [putA, List.set]
  refine tkA (i := 8) (oi := ⟨_, _, _, _, _, _⟩) ?_
  simp only [putA, List.set]
  refine tkA (i := 9) (oi := ⟨_, _, _, _, _, _⟩) ?_
  simp only [putA, List.set]
  refine tkA (i := 10) (oi := ⟨_, _, _, _, _, _⟩) ?_
  simp only [putA, List.set]
  refine tkA (i := 11) (oi := ⟨_, _, _, _, _, _⟩) ?_
  simp only [putA, List.set]
  refine tkA (i := 12) (oi := ⟨_, _, _, _, _, _⟩) ?_
  simp only [putA, List.set]
  refine tkA (i := 13) (oi := ⟨_, _, _, _, _, _⟩) ?_
  simp only [putA, List.set]
  refine tkA (i := 14) (oi := ⟨_, _, _, _, _, _⟩) ?_
  simp only [putA, List.set]
  refine tkA (i := 15) (oi := ⟨_, _, _, _, _, _⟩) ?_
  simp only [putA, List.set]
  refine tkA (i := 16) (oi := ⟨_, _, _, _, _, _⟩) ?_
  simp only [putA, List.set]
  refine tkA (i := 17) (oi := ⟨_, _, _, _, _, _⟩) ?_
  simp only [putA, List.set]
  refine tkA (i := 18) (oi := ⟨_, _, _, _, _, _⟩) ?_
  simp only [putA, List.set]
  refine tkA (i := 19) (oi := ⟨_, _, _, _, _, _⟩) ?_
  simp only [putA, List.set]
  refine wpAnyH_done (by kernel_rfl) ?_ _
  clear hHeld
  go_wp2_with fail
  go_ret
  exact ⟨rfl, HB8.out.drew⟩
end Go.Proofs.YtbbgahffcjbloaaGreat
end

section
/- FsckRoot: whatever the input. -/
namespace Go.Proofs.YtbbgahffcjbloaaGreat
open Go.RowKit

theorem root_any (n k : Int) (w : World) : Calls Tryz.prog 8 #[.int .i64 n, .int .i64 k] w fun e w' => e = .returned (.bool true) ∧ Below w.heap.size w w' := by
  by_cases hb : n < 0 ∨ 9 < n
  · exact root_no n k w hb
  · obtain ⟨n', rfl⟩ : ∃ k : Nat, n = k := ⟨n.toNat, by omega⟩
    have hn : n' ≤ 9 := by omega
    by_cases h0 : k = 0
    · subst h0; exact root_0 n' w hn
    · by_cases h1 : k = 1
      · subst h1; exact root_1 n' w hn
      · by_cases h2 : k = 2
        · subst h2; exact root_2 n' w hn
        · by_cases h3 : k = 3
          · subst h3; exact root_3 n' w hn
          · exact root_out n' k w hn h0 h1 h2 h3
end Go.Proofs.YtbbgahffcjbloaaGreat
end
