/- Part of the road to RpCard: RefG, TreeW, TakeF, Stays, Stays2, Blocks, Stays3, DirM. -/
import Derived.Test.YtbeabehebenocaaGreatDoorRpo05
import Derived.Test.YtbeabehebenocaaGreatDoorRpo06
set_option linter.all false
set_option linter.unusedSimpArgs false
set_option linter.unusedVariables false
set_option linter.unusedSectionVars false
section
/- The reference's Mkfs, of one group and one block of inodes. -/
namespace Go.Proofs.YtbeabehebenocaaGreatDoor
open Go.RowKit

def geo1 (m : Nat) : Geo := ⟨1, 1, m⟩
theorem geo1_ok {m : Nat} (h1 : 8 ≤ m) (h2 : m ≤ 1000) : (geo1 m).Ok := ⟨Nat.le_refl 1, (by decide : (1 : Nat) ≤ 8), Nat.le_refl 1, (by decide : (1 : Nat) ≤ 4), h1, h2⟩
theorem geo1_i1 (m : Nat) : (geo1 m).iOk 1 = true ∧ (geo1 m).iBlk 1 = 2 ∧ (geo1 m).iOff 1 = 0 := by
  have e1 : (geo1 m).iOk 1 = true := rfl
  have e2 := Geo.one_iGr (g := geo1 m) rfl 1
  have e3 := (Geo.one_iNo (g := geo1 m) rfl e1).1
  refine ⟨e1, ?_, ?_⟩
  · unfold Geo.iBlk; rw [if_pos e1, e2, e3]; simp [Geo.head]
  · unfold Geo.iOff; rw [if_pos e1, e3]
def rootI : InoN := fun j => if j = 0 then 2 else if j = 1 then 2 else if j = 2 then 1024 else if j = 3 then 3 else 0
def rootE2 : Nat → Nat × ByteArray := fun j => if j = 0 then (1, ⟨#[46]⟩) else (1, ⟨#[46, 46]⟩)
def mkH (m : Nat) : Nat → Nat := catF 1024 (superF (geo1 m)) (rheadF (geo1 m) 0 (fun _ => 1) 1 (fun _ => 1) 1)
def mkZ (m : Nat) : Nat → Nat := catF 2048 (mkH m) (fun _ => 0)
def mkF (m : Nat) : Nat → Nat := putF (putF (mkZ m) 2048 64 (inoF rootI)) 3072 1024 (pbF rootE2 2)

theorem rootE2_ok : ∀ k, k < 2 → (rootE2 k).1 ≠ 0 ∧ (rootE2 k).1 < 4294967296 ∧ nameOk (rootE2 k).2 = true := by
  intro k hk
  match k, hk with
  | 0, _ => exact ⟨by decide, by decide, by decide +kernel⟩
  | 1, _ => exact ⟨by decide, by decide, by decide +kernel⟩
theorem rootI_r : InoR rootI := ⟨by decide, by decide, by decide, fun k h1 h2 => by unfold rootI; (repeat' split) <;> omega⟩

set_option maxRecDepth 100000 in
set_option maxHeartbeats 4000000 in
theorem mkfs_c (m : Nat) (h1 : 8 ≤ m) (h2 : m ≤ 1000) (w : World) : Calls Tryz.prog 8 #[.agg #[.int .i64 1, .int .i64 1, .int .i64 m]] w fun e w' => ∃ G cap, e = .returned (.slice (some ⟨G, 0, none⟩) ((3 + m) * 1024) cap) ∧
    w'.ownsRow w.heap.size 5 1 (.slice (some ⟨G, 0, none⟩) ((3 + m) * 1024) cap) ((3 + m) * 1024) (bytesL (mkF m) ((3 + m) * 1024)) ∧ Below w.heap.size w w' := by
  obtain ⟨i0, hi0, hz0, hz1, hz2⟩ := info_parts info8
  have hg := geo1_ok h1 h2
  have PS : ∀ W : World, Calls Tryz.prog 17 #[.agg #[.int .i64 1, .int .i64 1, .int .i64 m]] W fun e w' => ∃ G cap, e = .returned (.slice (some ⟨G, 0, none⟩) 1024 cap) ∧ w'.ownsRow W.heap.size 5 1 (.slice (some ⟨G, 0, none⟩) 1024 cap) 1024 (bytesL (superF (geo1 m)) 1024) ∧ Below W.heap.size W w' := fun W => rsuper_c (geo1 m) hg W
  have PH : ∀ (W : World) (b c : Nat), RdB W b 0 1 (fun _ => 1) → Calls Tryz.prog 18 #[.agg #[.int .i64 1, .int .i64 1, .int .i64 m], .int .i64 0, .slice (some ⟨b, 0, none⟩) 1 c, .slice (some ⟨b, 0, none⟩) 1 c] W fun e w' => ∃ G cap, e = .returned (.slice (some ⟨G, 0, none⟩) 1024 cap) ∧ w'.ownsRow W.heap.size 5 1 (.slice (some ⟨G, 0, none⟩) 1024 cap) 1024 (bytesL (rheadF (geo1 m) 0 (fun _ => 1) 1 (fun _ => 1) 1) 1024) ∧ Below W.heap.size W w' := fun W b c hr =>
    rphead_c (geo1 m) hg 0 b 1 c b 1 c (fun _ => 1) (fun _ => 1) (by decide) (fun _ => by decide) (fun _ => by decide) W hr hr (by decide) (by decide)
  have DT : ∀ W : World, Calls Tryz.prog 9 #[.agg #[.int .i64 1, .int .i64 1, .int .i64 m], .int .i64 0] W fun e w' => e = .returned (.tuple #[.int .i64 3, .bool true]) ∧ Below W.heap.size W w' := fun W => by
    have h := rdata_c (geo1 m) hg 0 (by show 0 < 1 * m; omega) W
    rw [Geo.one_data (g := geo1 m) (n := 0) (by show 0 < m; omega)] at h
    exact h
  have IA : ∀ W : World, Calls Tryz.prog 10 #[.agg #[.int .i64 1, .int .i64 1, .int .i64 m], .int .i64 1] W fun e w' => e = .returned (.tuple #[.int .i64 2, .int .i64 0, .bool true]) ∧ Below W.heap.size W w' := fun W => by
    have h := riat_c (geo1 m) hg 1 W
    obtain ⟨e1, e2, e3⟩ := geo1_i1 m
    rw [e1, e2, e3] at h
    exact h
  have PI : ∀ W : World, Calls Tryz.prog 11 #[.agg #[.int .i64 2, .int .i64 2, .int .i64 1024, .int .i64 3, .int .i64 0, .int .i64 0, .int .i64 0, .int .i64 0, .int .i64 0, .int .i64 0, .int .i64 0, .int .i64 0, .int .i64 0]] W fun e w' => ∃ G cap, e = .returned (.tuple #[.slice (some ⟨G, 0, none⟩) 64 cap, .bool true]) ∧ w'.ownsRow W.heap.size 5 1 (.slice (some ⟨G, 0, none⟩) 64 cap) 64 (bytesL (inoF rootI) 64) ∧ Below W.heap.size W w' := fun W =>
    rpino_c rootI rootI_r (by decide) W
  have PE : ∀ (W : World) (lb cap : Nat), RdE W lb 2 rootE2 → Calls Tryz.prog 19 #[.slice (some ⟨lb, 0, none⟩) 2 cap] W fun e w' => ∃ G cap, e = .returned (.tuple #[.slice (some ⟨G, 0, none⟩) 1024 cap, .bool true]) ∧ w'.ownsRow W.heap.size 5 1 (.slice (some ⟨G, 0, none⟩) 1024 cap) 1024 (bytesL (pbF rootE2 2) 1024) ∧ Below W.heap.size W w' := fun W lb cap hr =>
    rpents_c lb 2 cap rootE2 W (by decide) (by decide) rootE2_ok hr
  have HPS := Lib.hid PS; have HPH := Lib.hid PH; have HDT := Lib.hid DT; have HIA := Lib.hid IA; have HPI := Lib.hid PI; have HPE := Lib.hid PE
  clear PS PH DT IA PI PE
  have gk := Blk.newL (e := 24) (w := w) [.int .i64 1, .int .i64 1, .int .i64 m]
  have HGK := Lib.hid gk
  clear gk
  obtain ⟨N, hN⟩ : ∃ N, N = (3 + m) * 1024 := ⟨_, rfl⟩
  rw [← hN]
  have HN := Lib.hid hN
  have hN1 : 4096 ≤ N := by omega
  have hN2 : N ≤ 1100000 := by omega
  clear hN
  go_enter Tryz.func8, Tryz.ntmps8
  go_wp2_with (go_at_call 17; refine (HPS.out _).mono ?_; rintro e w1 ⟨G1, cap1, rfl, ho1, hb1⟩; obtain ⟨hc1, hf1⟩ := bcell hb1; have hz1' := hb1.size)
  have hB1 : Below w.heap.size w w1 := ((Below.refl _ w).alloc (Nat.le_refl _) _).trans (hb1.mono (by simp))
  have gk1 := HGK.out.below hb1 (by simp)
  have k0 := gk1.cell 0; have k1 := gk1.cell 1; have k2 := gk1.cell 2
  simp only [List.getElem?_cons_zero, List.getElem?_cons_succ] at k0 k1 k2
  have lG := gk1.lt
  simp at hz1'
  have ho1' := own_mono ho1 (base' := w.heap.size + 1) (by simp)
  have HO1 := Lib.hid ho1'; have HB1 := Lib.hid hB1; have HK1 := Lib.hid gk1
  clear ho1 ho1' hB1 gk1 hc1 hf1 hb1
  go_loopw [3, 4] (fun v i wr => (i = .int .i64 0 ∧ wr = w1 ∧ v = .slice (some ⟨G1, 0, none⟩) 1024 cap1) ∨ (i = .int .i64 1 ∧ ∃ G cap, v = .slice (some ⟨G, 0, none⟩) N cap ∧ wr.ownsRow (w.heap.size + 1) 5 1 (.slice (some ⟨G, 0, none⟩) N cap) N (bytesL (mkZ m) N) ∧ Blk 24 wr w.heap.size [.int .i64 1, .int .i64 1, .int .i64 m] ∧ Below w.heap.size w wr)) (fun _ i _ => 1 - (intOf i).toNat)
  case atStart => exact .inl ⟨rfl, rfl, rfl⟩
  case round =>
    rcases hrel with ⟨rfl, hw, rfl⟩ | ⟨rfl, G, cap, rfl, ho, hk, hB⟩
    · obtain rfl := hw.symm
      have rb : ∀ (W : World) (x : Nat), RdB (W.alloc (.cells #[.int .u8 (x : Int)] 5)) W.heap.size 0 1 (fun _ => x) := fun W x k hk => by
        obtain rfl : k = 0 := by omega
        rw [(Blk.newL (e := 5) (w := W) [.int .u8 (x : Int)]).cell]; rfl
      have RB := Lib.hid rb
      clear rb
      go_wp2_with (first
        | (go_at_call 18; refine (HPH.out _ _ _ (by have h := RB.out (w1.alloc (.cells #[.int .u8 0] 5)) 1; rw [World.size_alloc] at h; exact h)).mono ?_; rintro e w2 ⟨g2, cap2, rfl, ho2, hb2⟩; have hB12 : Below w1.heap.size w1 w2 := (((Below.refl _ w1).alloc (Nat.le_refl _) _).alloc (by simp) _).trans (hb2.mono (by simp; omega)); have hO12 := own_below HO1.out hB12; have hr2 := own_rdB ho2; have hz12 := hB12.size; have gk12 := HK1.out.below hB12 lG; have HB12 := Lib.hid hB12; have HG12 := Lib.hid gk12; clear ho2 hb2 hB12 gk12)
        | (at_builtin; refine app_bytes rfl _ _ 25 rfl (w.heap.size + 1) 5 i0 Tryz.underlying25 hi0 hz0 hz1 hz2 _ 1024 (superF (geo1 m)) (by rfl) (.inl hO12) g2 0 1024 cap2 _ (by rfl) hr2 (by omega) (by omega) (by omega) ?_; intro g5 cap5 w3 ho5 hgr5 hat5; have hm5 : Mods (fun k => k = G1) w2 w3 := (Mods.refl (fun k => k = G1) w2).grown hgr5 (fun k e _ => (Option.some.inj (show some G1 = some k from e)).symm); have gk3 := HG12.out.mods hm5 (fun e => by have h0 := (own_len HO1.out).1; omega); have q0 := gk3.cell 0; have q1 := gk3.cell 1; have q2 := gk3.cell 2; simp only [List.getElem?_cons_zero, List.getElem?_cons_succ] at q0 q1 q2; have hz5 := hm5.size; have HM5 := Lib.hid hm5; have HO5 := Lib.hid ho5; have HG3 := Lib.hid gk3; clear gk3 hm5 ho5 hgr5 hat5)
        | (at_builtin; refine app_zeros _ rfl _ _ 25 3 rfl (w.heap.size + 1) 5 i0 (.int .u8 0) 1 .i64 .i64 Tryz.underlying25 Tryz.underlying3 hi0 hz0 hz1 hz2 rfl rfl _ 2048 (bytesL (mkH m) 2048) (by rfl) HO5.out (by omega) ((1 + m) * 1024) _ (by rfl) (by omega) (by omega) (by unfold maxLen; omega) (by omega) (by omega) ?_; intro g7 cap7 w4 ho7 hgr7 hat7))
      have e : 2048 + (1 + m) * 1024 = N := by rw [HN.out]; omega
      rw [zeros_bytes, bytesL_append, e] at ho7
      have hg5 := own_len HO5.out
      have hm7 : Mods (fun k => k = g5) w3 w4 := (Mods.refl (fun k => k = g5) w3).grown hgr7 (fun k e _ => (Option.some.inj (show some g5 = some k from e)).symm)
      have hB2 := HB1.out.trans (HB12.out.mono HB1.out.size)
      have hB3 := Below.mods hB2 HM5.out (fun i hi e => by have h0 := (own_len HO1.out).1; omega) (by omega)
      exact ⟨.inr ⟨rfl, g7, cap7, by rw [e], ho7, HG3.out.mods hm7 (fun e => by omega), Below.mods hB3 hm7 (fun i hi e => by omega) (by omega)⟩, by simp [intOf]⟩
    · have k0' := hk.cell 0; have k1' := hk.cell 1; have k2' := hk.cell 2
      simp only [List.getElem?_cons_zero, List.getElem?_cons_succ] at k0' k1' k2'
      have lw := hk.lt
      have hgl := own_len ho
      obtain ⟨hgl1, hgl2, hgl3, hgl4⟩ := hgl
      unfold maxLen at hgl4
      have HO := Lib.hid ho; have HK := Lib.hid hk; have HB := Lib.hid hB
      have hbs := hB.size
      clear ho hk hB
      go_wp2_with (first
        | (go_at_call 9; refine (HDT.out _).mono ?_; rintro e w2 ⟨rfl, hb2⟩; obtain ⟨hc2, hf2⟩ := bcell hb2; have hz2' := hb2.size; have lw2 : w.heap.size < w2.heap.size := by omega)
        | (go_at_call 10; refine (HIA.out _).mono ?_; rintro e w3 ⟨rfl, hb3⟩; obtain ⟨hc3, hf3⟩ := bcell hb3; have hz3 := hb3.size; have lw3 : w.heap.size < w3.heap.size := by omega)
        | (go_at_call 11; refine (HPI.out _).mono ?_; rintro e w4 ⟨g4, cap4, rfl, ho4, hb4⟩; have hz4 := hb4.size; have hO4 := own_below (own_below (own_below HO.out hb2) hb3) hb4; have hr4 := own_rdB ho4; have HO4 := Lib.hid hO4; have HR4 := Lib.hid hr4; clear ho4 hO4 hr4)
        | (refine copy_own rfl _ _ 25 25 rfl 5 Tryz.underlying25 (by kernel_rfl) G 2048 (N - 2048) (cap - 2048) g4 0 64 cap4 (by rfl) (by rfl) (w.heap.size + 1) 5 N cap (mkZ m) (inoF rootI) HO4.out (by omega) 64 (by show 64 = min 64 (N - 2048); omega) HR4.out (by omega) ?_; intro w5 ho5 hm5; have hz5 := hm5.size; have HO5 := Lib.hid ho5; have HM5 := Lib.hid hm5; clear ho5 hm5)
        | (go_at_call 19; refine (HPE.out _ _ _ (by have hb := Blk.newL (e := 43) (w := w5) [.int .i64 1, .string ⟨#[46]⟩, .int .i64 1, .string ⟨#[46, 46]⟩]; intro k hk; match k, hk with | 0, _ => exact ⟨hb.cell 0, hb.cell 1⟩ | 1, _ => exact ⟨hb.cell 2, hb.cell 3⟩)).mono ?_; rintro e w6 ⟨g6, cap6, rfl, ho6, hb6⟩; have hB56 : Below w5.heap.size w5 w6 := ((Below.refl _ w5).alloc (Nat.le_refl _) _).trans (hb6.mono (by simp)); have hz6 := hB56.size; have hO6 := own_below HO5.out hB56; have hr6 := own_rdB ho6; have HB56 := Lib.hid hB56; have HO6 := Lib.hid hO6; have HR6 := Lib.hid hr6; clear ho6 hO6 hr6 hB56 hb6)
        | (refine copy_own rfl _ _ 25 25 rfl 5 Tryz.underlying25 (by kernel_rfl) G 3072 (N - 3072) (cap - 3072) g6 0 1024 cap6 (by rfl) (by rfl) (w.heap.size + 1) 5 N cap (putF (mkZ m) 2048 64 (inoF rootI)) (pbF rootE2 2) HO6.out (by omega) 1024 (by show 1024 = min 1024 (N - 3072); omega) HR6.out (by omega) ?_; intro w7 ho7 hm7))
      go_ret
      have hB4 := ((HB.out.trans (hb2.mono (by omega))).trans (hb3.mono (by omega))).trans (hb4.mono (by omega))
      have hB5 := Below.mods hB4 HM5.out (fun i hi e => by omega) (by omega)
      have hB6 := hB5.trans (HB56.out.mono (by omega))
      exact ⟨_, _, rfl, own_mono ho7 (by omega), Below.mods hB6 hm7 (fun i hi e => by omega) (by omega)⟩
end Go.Proofs.YtbeabehebenocaaGreatDoor
end

section
/- The statements' Tree: an image of a root with n files. -/
namespace Go.Proofs.YtbeabehebenocaaGreatDoor
open Go.RowKit

def nameN (k : Nat) : ByteArray := ⟨#[102, UInt8.ofNat (48 + k)]⟩
def fileI (k : Nat) : InoN := fun j => if j = 0 then 1 else if j = 1 then 1 else if j = 2 then 10 else if j = 3 then 4 + k else 0
def stB (f : Nat → Nat) (p x : Nat) : Nat → Nat := fun q => if q = p then x else f q
def trS1 (f : Nat → Nat) (k : Nat) : Nat → Nat := putF (putF f (2048 + (k + 1) * 64) 64 (inoF (fileI k))) (3072 + 32 * (k + 2)) 32 (entF (k + 2) (nameN k))
def trS2 (f : Nat → Nat) (k : Nat) : Nat → Nat := stB (trS1 f k) (1024 * (4 + k)) (k + 1)
def trS3 (f : Nat → Nat) (k : Nat) : Nat → Nat := stB (trS2 f k) (1040 + (k + 1) / 8) (setB (trS2 f k (1040 + (k + 1) / 8)) ((k + 1) % 8) true)
def trS (f : Nat → Nat) (k : Nat) : Nat → Nat := stB (trS3 f k) (1088 + (k + 1) / 8) (setB (trS3 f k (1088 + (k + 1) / 8)) ((k + 1) % 8) true)
def trF (m : Nat) : Nat → Nat → Nat
  | 0 => mkF m
  | k + 1 => trS (trF m k) k
theorem nameN_ok : ∀ k : Fin 10, nameOk (nameN k.val) = true := by decide +kernel
theorem nameN_str : ∀ k : Fin 10, ((⟨#[102]⟩ : ByteArray) ++ (⟨#[48, 49, 50, 51, 52, 53, 54, 55, 56, 57]⟩ : ByteArray).extract k.val (k.val + 1)) = nameN k.val := by decide +kernel
theorem fileI_r {k : Nat} (h : k < 10) : InoR (fileI k) := ⟨by show (1 : Nat) < 65536; decide, by show (1 : Nat) < 65536; decide, by show (10 : Nat) < 4294967296; decide, fun j h1 h2 => by unfold fileI; (repeat' split) <;> omega⟩
theorem mkF_lt (m : Nat) : ∀ k, mkF m k < 256 := by
  have h1 : ∀ k, rheadF (geo1 m) 0 (fun _ => 1) 1 (fun _ => 1) 1 k < 256 := catF_lt (catF_lt (catF_lt (catF_lt (chr_lt _) (byteN_lt _)) (fun _ => by decide)) (fun k => rowB_byte _ _ _ k)) (fun k => rowB_byte _ _ _ k)
  refine putF_lt (putF_lt (catF_lt (catF_lt (superF_lt _) h1) (fun _ => by decide)) (inoF_lt _)) (fun k => ?_)
  unfold pbF
  split
  · refine entF_lt ?_ _
    unfold rootE2
    split
    · show (1 : Nat) ≤ 27; decide
    · show (2 : Nat) ≤ 27; decide
  · decide
theorem stB_lt {f : Nat → Nat} (hf : ∀ k, f k < 256) {p x : Nat} (hx : x < 256) : ∀ k, stB f p x k < 256 := fun k => by unfold stB; split <;> simp [hx, hf]
theorem setB_byte {x r : Nat} (hx : x < 256) (on : Bool) : setB x (r % 8) on < 256 := setB_lt ⟨x, hx⟩ ⟨r % 8, Nat.mod_lt _ (by decide)⟩ on
theorem trS_lt {f : Nat → Nat} (hf : ∀ k, f k < 256) {k : Nat} (hk : k < 10) : ∀ q, trS f k q < 256 := by
  have h1 : ∀ q, trS1 f k q < 256 := putF_lt (putF_lt hf (inoF_lt _)) (entF_lt (by show (2 : Nat) ≤ 27; decide))
  have h2 : ∀ q, trS2 f k q < 256 := stB_lt h1 (by omega)
  have h3 : ∀ q, trS3 f k q < 256 := stB_lt h2 (setB_byte (h2 _) _)
  exact stB_lt h3 (setB_byte (h3 _) _)
theorem trF_lt (m : Nat) : ∀ n, n ≤ 10 → ∀ k, trF m n k < 256
  | 0, _ => mkF_lt m
  | n + 1, h => trS_lt (trF_lt m n (by omega)) (by omega)

set_option maxRecDepth 100000 in
set_option maxHeartbeats 4000000 in
theorem tree_c (n : Nat) (hn : n ≤ 9) (w : World) : Calls Tryz.prog 5 #[.agg #[.int .i64 1, .int .i64 1, .int .i64 20], .int .i64 n] w fun e w' => ∃ G cap, e = .returned (.slice (some ⟨G, 0, none⟩) 23552 cap) ∧
    w'.ownsRow w.heap.size 5 1 (.slice (some ⟨G, 0, none⟩) 23552 cap) 23552 (bytesL (trF 20 n) 23552) ∧ Below w.heap.size w w' := by
  have hg := geo1_ok (m := 20) (by decide) (by decide)
  have MK := fun W => mkfs_c 20 (by decide) (by decide) W
  have D0 : ∀ W : World, Calls Tryz.prog 9 #[.agg #[.int .i64 1, .int .i64 1, .int .i64 20], .int .i64 0] W fun e w' => e = .returned (.tuple #[.int .i64 3, .bool true]) ∧ Below W.heap.size W w' := fun W => by
    have h := rdata_c (geo1 20) hg 0 (by decide) W
    rw [Geo.one_data (g := geo1 20) (n := 0) (by decide)] at h
    exact h
  have DK : ∀ (k : Nat) (W : World), k < 9 → Calls Tryz.prog 9 #[.agg #[.int .i64 1, .int .i64 1, .int .i64 20], .int .i64 ((k + 1 : Nat) : Int)] W fun e w' => e = .returned (.tuple #[.int .i64 ((4 + k : Nat) : Int), .bool true]) ∧ Below W.heap.size W w' := fun k W hk => by
    have h := rdata_c (geo1 20) hg (k + 1) (by show k + 1 < 1 * 20; omega) W
    rw [Geo.one_data (g := geo1 20) (n := k + 1) (by show k + 1 < 20; omega), show 2 + (geo1 20).ino + (k + 1) = 4 + k by show 2 + 1 + (k + 1) = 4 + k; omega] at h
    exact h
  have IK : ∀ (k : Nat) (W : World), k < 9 → Calls Tryz.prog 10 #[.agg #[.int .i64 1, .int .i64 1, .int .i64 20], .int .i64 ((k + 2 : Nat) : Int)] W fun e w' => e = .returned (.tuple #[.int .i64 2, .int .i64 (((k + 1) * 64 : Nat) : Int), .bool true]) ∧ Below W.heap.size W w' := fun k W hk => by
    have h := riat_c (geo1 20) hg (k + 2) W
    have e1 : (geo1 20).iOk (k + 2) = true := by rw [Geo.iOk_iff]; show 1 ≤ k + 2 ∧ k + 2 ≤ 1 * 1 * 16; omega
    have e2 := Geo.one_iGr (g := geo1 20) rfl (k + 2)
    have e3 := (Geo.one_iNo (g := geo1 20) rfl e1).1
    have e4 : (geo1 20).iBlk (k + 2) = 2 := by unfold Geo.iBlk; rw [if_pos e1, e2, e3]; show 1 + 0 * _ + 1 + (k + 2 - 1) / 16 = 2; omega
    have e5 : (geo1 20).iOff (k + 2) = (k + 1) * 64 := by unfold Geo.iOff; rw [if_pos e1, e3]; omega
    rw [e1, e4, e5] at h
    exact h
  have PI : ∀ (k : Nat) (W : World), k < 9 → Calls Tryz.prog 11 #[.agg #[.int .i64 1, .int .i64 1, .int .i64 10, .int .i64 ((4 + k : Nat) : Int), .int .i64 0, .int .i64 0, .int .i64 0, .int .i64 0, .int .i64 0, .int .i64 0, .int .i64 0, .int .i64 0, .int .i64 0]] W fun e w' => ∃ G cap, e = .returned (.tuple #[.slice (some ⟨G, 0, none⟩) 64 cap, .bool true]) ∧ w'.ownsRow W.heap.size 5 1 (.slice (some ⟨G, 0, none⟩) 64 cap) 64 (bytesL (inoF (fileI k)) 64) ∧ Below W.heap.size W w' := fun k W hk =>
    rpino_c (fileI k) (fileI_r (by omega)) ⟨by show (1 : Nat) ≠ 0; decide, by show (1 : Nat) ≤ 2; decide⟩ W
  have PE : ∀ (k : Nat) (W : World), k < 9 → Calls Tryz.prog 12 #[.agg #[.int .i64 ((k + 2 : Nat) : Int), .string (nameN k)]] W fun e w' => ∃ G cap, e = .returned (.tuple #[.slice (some ⟨G, 0, none⟩) 32 cap, .bool true]) ∧ w'.ownsRow W.heap.size 5 1 (.slice (some ⟨G, 0, none⟩) 32 cap) 32 (bytesL (entF (k + 2) (nameN k)) 32) ∧ Below W.heap.size W w' := fun k W hk =>
    rpent_c (k + 2) (nameN k) (by omega) (by omega) (nameN_ok ⟨k, by omega⟩) W
  have HMK := Lib.hid MK; have HD0 := Lib.hid D0; have HDK := Lib.hid DK; have HIK := Lib.hid IK; have HPI := Lib.hid PI; have HPE := Lib.hid PE
  have gk := Blk.newL (e := 24) (w := w) [.int .i64 1, .int .i64 1, .int .i64 20]
  have HGK := Lib.hid gk
  clear MK D0 DK IK PI PE gk hg
  go_enter Tryz.func5, Tryz.ntmps5
  go_wp2_with (first
    | (go_at_call 8; refine (HMK.out _).mono ?_; rintro e w1 ⟨G, cap, rfl, ho1, hb1⟩; have gk1 := HGK.out.below hb1 (by simp); have k0 := gk1.cell 0; have k1 := gk1.cell 1; have k2 := gk1.cell 2; simp only [List.getElem?_cons_zero, List.getElem?_cons_succ] at k0 k1 k2; have hz1 := hb1.size; simp at hz1; have HO1 := Lib.hid ho1; have HB1 := Lib.hid hb1; have HG1 := Lib.hid gk1; clear ho1 hb1 gk1)
    | (go_at_call 9; refine (HD0.out _).mono ?_; rintro e w2 ⟨rfl, hb2⟩; obtain ⟨hc2, hf2⟩ := bcell hb2; have hz2 := hb2.size))
  have hB1 : Below w.heap.size w w1 := ((Below.refl _ w).alloc (Nat.le_refl _) _).trans (HB1.out.mono (by simp))
  have hB2 := hB1.trans (hb2.mono hB1.size)
  have hO2 := own_below (own_mono HO1.out (base' := w.heap.size + 1) (by simp)) hb2
  have hG2 := HG1.out.below hb2 (by omega)
  have HB2 := Lib.hid hB2; have HO2 := Lib.hid hO2; have HG2 := Lib.hid hG2
  clear hB1 hB2 hO2 hG2 hb2 hc2 hf2 k0 k1 k2 HO1 HB1 HG1
  go_loopw [8] (fun i wr => ∃ k : Nat, k ≤ n ∧ i = .int .i64 k ∧ wr.ownsRow (w.heap.size + 1) 5 1 (.slice (some ⟨G, 0, none⟩) 23552 cap) 23552 (bytesL (trF 20 k) 23552) ∧ Blk 24 wr w.heap.size [.int .i64 1, .int .i64 1, .int .i64 20] ∧ Below w.heap.size w wr) (fun i _ => n - (intOf i).toNat)
  case atStart => exact ⟨0, by omega, rfl, HO2.out, HG2.out, HB2.out⟩
  case round =>
    obtain ⟨k, hk, rfl, ho, hgk, hB⟩ := hrel
    have lw := hgk.lt
    obtain ⟨hgl1, hgl2, hgl3, hgl4⟩ := own_len ho
    unfold maxLen at hgl4
    by_cases hlt : k < n
    · have hk9 : k < 9 := by omega
      have k0 := hgk.cell 0; have k1 := hgk.cell 1; have k2 := hgk.cell 2
      simp only [List.getElem?_cons_zero, List.getElem?_cons_succ] at k0 k1 k2
      have HO := Lib.hid ho; have HG := Lib.hid hgk; have HB := Lib.hid hB
      have e1 : ((k + 1 : Nat) : Int) = (k : Int) + 1 := by omega
      have e2 : ((k + 2 : Nat) : Int) = (k : Int) + 2 := by omega
      have DK := HDK.out k; have IK := HIK.out k; have PI := HPI.out k; have PE := HPE.out k
      rw [e1] at DK
      rw [e2] at IK PE
      have hst : ((⟨#[102]⟩ : ByteArray) ++ (⟨#[48, 49, 50, 51, 52, 53, 54, 55, 56, 57]⟩ : ByteArray).extract k (k + 1)) = nameN k := nameN_str ⟨k, by omega⟩
      obtain ⟨EF, hEF⟩ : ∃ F, F = entF (k + 2) (nameN k) := ⟨_, rfl⟩
      rw [← hEF, ← hst] at PE
      have HEF := Lib.hid hEF
      clear hst hEF
      have HDk := Lib.hid DK; have HIk := Lib.hid IK; have HPIk := Lib.hid PI; have HPEk := Lib.hid PE
      clear ho hgk hB e1 e2 DK IK PI PE
      go_wp2_with (first
        | (go_at_call 9; refine (HDk.out _ hk9).mono ?_; rintro e w2 ⟨rfl, hb2⟩; obtain ⟨hc2, hf2⟩ := bcell hb2; have hz2 := hb2.size; have lw2 : w.heap.size < w2.heap.size := by omega)
        | (go_at_call 10; refine (HIk.out _ hk9).mono ?_; rintro e w3 ⟨rfl, hb3⟩; obtain ⟨hc3, hf3⟩ := bcell hb3; have hz3 := hb3.size; have lw3 : w.heap.size < w3.heap.size := by omega)
        | (go_at_call 11; refine (HPIk.out _ hk9).mono ?_; rintro e w4 ⟨g4, cap4, rfl, ho4, hb4⟩; have hz4 := hb4.size; have hO4 := own_below (own_below (own_below HO.out hb2) hb3) hb4; have hr4 := own_rdB ho4; have HO4 := Lib.hid hO4; have HR4 := Lib.hid hr4; clear ho4 hO4 hr4)
        | (refine copy_own rfl _ _ 25 25 rfl 5 Tryz.underlying25 (by kernel_rfl) G (2048 + (k + 1) * 64) (23552 - (2048 + (k + 1) * 64)) (cap - (2048 + (k + 1) * 64)) g4 0 64 cap4 (by rfl) (by rfl) (w.heap.size + 1) 5 23552 cap (trF 20 k) (inoF (fileI k)) HO4.out (by omega) 64 (by show 64 = min 64 (23552 - (2048 + (k + 1) * 64)); omega) HR4.out (by omega) ?_; intro w5 ho5 hm5; have hz5 := hm5.size; have HO5 := Lib.hid ho5; have HM5 := Lib.hid hm5; clear ho5 hm5)
        | (go_at_call 12; refine (HPEk.out _ hk9).mono ?_; rintro e w6 ⟨g6, cap6, rfl, ho6, hb6⟩; have hz6 := hb6.size; have hO6 := own_below HO5.out hb6; have hr6 := own_rdB ho6; have HO6 := Lib.hid hO6; have HR6 := Lib.hid hr6; clear ho6 hO6 hr6)
        | (refine copy_own rfl _ _ 25 25 rfl 5 Tryz.underlying25 (by kernel_rfl) G (3072 + 32 * (k + 2)) (23552 - (3072 + 32 * (k + 2))) (cap - (3072 + 32 * (k + 2))) g6 0 32 cap6 (by rfl) (by rfl) (w.heap.size + 1) 5 23552 cap (putF (trF 20 k) (2048 + (k + 1) * 64) 64 (inoF (fileI k))) EF HO6.out (by omega) 32 (by show 32 = min 32 (23552 - (3072 + 32 * (k + 2))); omega) HR6.out (by omega) ?_; intro w7 ho7 hm7; have hz7 := hm7.size; have p1 := own_get ho7 (i := 1024 * (4 + k)) (by omega); have p2 := own_get ho7 (i := 1040 + (k + 1) / 8) (by omega); have p3 := own_get ho7 (i := 1088 + (k + 1) / 8) (by omega); obtain ⟨p1a, p1b⟩ := p1; obtain ⟨p2a, p2b⟩ := p2; obtain ⟨p3a, p3b⟩ := p3; have HO7 := Lib.hid ho7; have HM7 := Lib.hid hm7; clear ho7 hm7))
      have hF : ∀ q, putF (putF (trF 20 k) (2048 + (k + 1) * 64) 64 (inoF (fileI k))) (3072 + 32 * (k + 2)) 32 EF q < 256 := putF_lt (putF_lt (trF_lt 20 k (by omega)) (inoF_lt _)) (by rw [HEF.out]; exact entF_lt (by show (2 : Nat) ≤ 27; decide))
      have hFe : putF (putF (trF 20 k) (2048 + (k + 1) * 64) 64 (inoF (fileI k))) (3072 + 32 * (k + 2)) 32 EF = trS1 (trF 20 k) k := by rw [HEF.out]; rfl
      have H7 := HO7.out
      rw [hFe] at hF H7 ⊢
      have o1 := own_set H7 (i := 1024 * (4 + k)) (by omega) (k + 1) (u := .int .u8 ((k : Int) + 1)) (by congr 1)
      have o2 := own_set o1 (i := 1040 + (k + 1) / 8) (by omega) (setB (trS1 (trF 20 k) k (1040 + (k + 1) / 8)) ((k + 1) % 8) true) (u := Value.int IntKind.u8 (bits BinOp.or IntKind.u8 (↑(trS1 (trF 20 k) k (1040 + (k + 1) / 8))) (2 ^ ((k + 1) % 8) % 256))) (by rw [or_byte _ _ (hF _)])
      have o3 := own_set o2 (i := 1088 + (k + 1) / 8) (by omega) (setB (trS1 (trF 20 k) k (1088 + (k + 1) / 8)) ((k + 1) % 8) true) (u := Value.int IntKind.u8 (bits BinOp.or IntKind.u8 (↑(trS1 (trF 20 k) k (1088 + (k + 1) / 8))) (2 ^ ((k + 1) % 8) % 256))) (by rw [or_byte _ _ (hF _)])
      have eT : (fun q => if q = 1088 + (k + 1) / 8 then setB (trS1 (trF 20 k) k (1088 + (k + 1) / 8)) ((k + 1) % 8) true else if q = 1040 + (k + 1) / 8 then setB (trS1 (trF 20 k) k (1040 + (k + 1) / 8)) ((k + 1) % 8) true else if q = 1024 * (4 + k) then k + 1 else trS1 (trF 20 k) k q) = trF 20 (k + 1) := by
        have a1 : trS2 (trF 20 k) k (1040 + (k + 1) / 8) = trS1 (trF 20 k) k (1040 + (k + 1) / 8) := if_neg (by omega)
        have a2 : trS3 (trF 20 k) k (1088 + (k + 1) / 8) = trS1 (trF 20 k) k (1088 + (k + 1) / 8) := by
          unfold trS3 stB; rw [if_neg (by omega)]; exact if_neg (by omega)
        show _ = trS (trF 20 k) k
        unfold trS
        rw [a2]
        unfold trS3
        rw [a1]
        rfl
      rw [eT] at o3
      have hBT := ((((HB.out.trans (hb2.mono HB.out.size)).trans (hb3.mono (by omega))).trans (hb4.mono (by omega))))
      have hBT5 := Below.mods hBT HM5.out (fun i hi e => by omega) (by omega)
      have hBT6 := hBT5.trans (hb6.mono (by omega))
      have hBT7 := Below.mods hBT6 HM7.out (fun i hi e => by omega) (by omega)
      have g7 := ((((HG.out.below hb2 lw).below hb3 lw2).below hb4 lw3).mods HM5.out (fun e => by omega)).below hb6 (by omega) |>.mods HM7.out (fun e => by omega)
      have hwG : w.heap.size ≤ G := by omega
      have nG : (G : Nat) ≠ w.heap.size := by omega
      refine ⟨⟨k + 1, by omega, by go_num, o3, ?_, ?_⟩, by simp [intOf]; omega⟩
      · exact ((g7.other _ _ nG).other _ _ nG).other _ _ nG
      · exact ((hBT7.setCell (p := ⟨G, _, none⟩) hwG _).setCell (p := ⟨G, _, none⟩) hwG _).setCell (p := ⟨G, _, none⟩) hwG _
    · obtain rfl : k = n := by omega
      have HO := Lib.hid ho; have HB := Lib.hid hB
      clear ho hB hlt
      go_wp2
      go_ret
      exact ⟨_, _, rfl, own_mono HO.out (by omega), HB.out⟩
end Go.Proofs.YtbeabehebenocaaGreatDoor
end

section
/- mend: a mender takes a file in. -/
namespace Go.Proofs.YtbeabehebenocaaGreatDoor
open Go.RowKit

set_option maxRecDepth 100000 in
set_option maxHeartbeats 4000000 in
theorem takef_c (g : Geo) (b o N cap : Nat) (f : Nat → Nat) (X CB IB M : Nat) (out way : Value) (c : Nat → Bool) (adr : Nat → Option Nat) (tk : Nat → Tk) (w : World) (h : MAt w g b o N cap f X CB IB M out way c adr tk) (hM : M ≤ 900000000)
    (ino par : Nat) (hino : natOk ino) (I : InoN) (hI : ∀ k, I k < 4294967296) (hk : I 0 ≠ 2) (hs1 : g.dOk (I 11) = false) (hs2 : g.dOk (I 12) = false) (hfresh : adr ino = none) :
    Calls Tryz.prog 50 #[.pointer (some ⟨X, 0, none⟩), .int .i64 ino, .int .i64 par, inoV I] w fun e w' => e = .returned (.bool true) ∧ ∃ B, w.heap.size ≤ B ∧ B < w'.heap.size ∧
      MAt w' g b o N cap f X CB IB (M + 10) out way (keepR g (countN (capI I 2)) c (ptrsI (capI I))).2 (fun x => if x = ino then some B else adr x)
        (fun x => if x = ino then ⟨ino, capI I, (keepR g (countN (capI I 2)) c (ptrsI (capI I))).1, par, false, 0⟩ else tk x) ∧ Mods (fun k => k = CB ∨ k = IB) w w' := by
  have hmin : min (I 2 : Int) 67379200 = ((capI I 2 : Nat) : Int) := by simp [capI]; omega
  have hne : ((I 0 : Nat) : Int) ≠ 2 := by omega
  unfold inoV
  go_enter Tryz.func50, Tryz.ntmps50
  go_wp2
  obtain ⟨J, hJ⟩ : ∃ J, J = capI I := ⟨_, rfl⟩
  obtain ⟨s0, hs0⟩ : ∃ s0, s0 = w.heap.size := ⟨_, rfl⟩
  have j0 : I 0 = J 0 := by rw [hJ]; rfl
  have j1 : I 1 = J 1 := by rw [hJ]; rfl
  have j3 : I 3 = J 3 := by rw [hJ]; rfl
  have j4 : I 4 = J 4 := by rw [hJ]; rfl
  have j5 : I 5 = J 5 := by rw [hJ]; rfl
  have j6 : I 6 = J 6 := by rw [hJ]; rfl
  have j7 : I 7 = J 7 := by rw [hJ]; rfl
  have j8 : I 8 = J 8 := by rw [hJ]; rfl
  have j9 : I 9 = J 9 := by rw [hJ]; rfl
  have j10 : I 10 = J 10 := by rw [hJ]; rfl
  have j11 : I 11 = J 11 := by rw [hJ]; rfl
  have j12 : I 12 = J 12 := by rw [hJ]; rfl
  have hJb : ∀ k, J k < 4294967296 := fun k => by
    rw [hJ]; unfold capI; split
    · have := hI 2; omega
    · exact hI k
  have hs1' : g.dOk (J 11) = false := by rw [hJ]; exact hs1
  have hs2' : g.dOk (J 12) = false := by rw [hJ]; exact hs2
  have hneJ : (((J 0 : Nat) : Int) == 2) = false := by rw [← j0]; simp; omega
  rw [← hJ] at hmin
  rw [← hJ]
  simp only [j0, j1, j3, j4, j5, j6, j7, j8, j9, j10, j11, j12]
  obtain ⟨w1, hw1⟩ : ∃ W, W = (w.alloc (.cells #[.pointer (some ⟨X, 0, none⟩)] 63)).alloc (.cells (inoL J).toArray 40) := ⟨_, rfl⟩
  have hB1 : Below s0 w w1 := by rw [hw1, hs0]; exact ((Below.refl _ w).alloc (Nat.le_refl _) _).alloc (by simp) _
  have z1 : w1.heap.size = s0 + 2 := by rw [hw1, hs0]; simp
  have k0 : Blk 63 w1 s0 [.pointer (some ⟨X, 0, none⟩)] := by rw [hw1, hs0]; exact (Blk.newL _).alloc _
  have k1 : Blk 40 w1 (s0 + 1) (inoL J) := by rw [hw1, hs0]; exact Blk.snd _ (inoL J)
  unfold inoL at hw1
  rw [← hw1]
  simp only [← hs0]
  have hX : X < s0 := by rw [hs0]; exact h.men.lt
  have hCB : CB < s0 := by rw [hs0]; exact h.cl.lt
  have h1 : MAt w1 g b o N cap f X CB IB M out way c adr tk := h.below (by rw [← hs0]; exact hB1)
  have MD := h1.drew
  have KC : ∀ W, MAt W g b o N cap f X CB IB M out way c adr tk → _ := fun W hW => keep_c g hW.img.ok X b o N cap CB M J c W (by omega) (by have := hJb 2; omega) hJb hs1' hs2' (hW.men.cell 0) (hW.men.cell 1) (hW.men.cell 2) (hW.men.cell 3) (hW.men.cell 5) hW.cl
  unfold inoV at KC
  have k0c := k0.cell 0
  simp only [List.getElem?_cons_zero] at k0c
  obtain ⟨y0, y1, y2, y3, y4, y5, y6, y7, y8, y9, y10, y11, y12⟩ := cells13 k1
  have HS0 := Lib.hid hs0; have HJ := Lib.hid hJ
  clear hw1 hs0 j0 j1 j3 j4 j5 j6 j7 j8 j9 j10 j11 j12 hJ hmin
  refine wp_region_held_drew (S := (fun w' => w'.cell? ⟨s0, 0, none⟩ = some (.pointer (some ⟨X, 0, none⟩)) ∧ w'.cell? ⟨s0 + 1, 0, none⟩ = some (.int .i64 (J 0 : Nat)) ∧ w'.cell? ⟨s0 + 1, 1, none⟩ = some (.int .i64 (J 1 : Nat)) ∧ w'.cell? ⟨s0 + 1, 2, none⟩ = some (.int .i64 (J 2 : Nat)) ∧ w'.cell? ⟨s0 + 1, 3, none⟩ = some (.int .i64 (J 3 : Nat)) ∧ w'.cell? ⟨s0 + 1, 4, none⟩ = some (.int .i64 (J 4 : Nat)) ∧ w'.cell? ⟨s0 + 1, 5, none⟩ = some (.int .i64 (J 5 : Nat)) ∧ w'.cell? ⟨s0 + 1, 6, none⟩ = some (.int .i64 (J 6 : Nat)) ∧ w'.cell? ⟨s0 + 1, 7, none⟩ = some (.int .i64 (J 7 : Nat)) ∧ w'.cell? ⟨s0 + 1, 8, none⟩ = some (.int .i64 (J 8 : Nat)) ∧ w'.cell? ⟨s0 + 1, 9, none⟩ = some (.int .i64 (J 9 : Nat)) ∧ w'.cell? ⟨s0 + 1, 10, none⟩ = some (.int .i64 (J 10 : Nat)) ∧ w'.cell? ⟨s0 + 1, 11, none⟩ = some (.int .i64 (J 11 : Nat)) ∧ w'.cell? ⟨s0 + 1, 12, none⟩ = some (.int .i64 (J 12 : Nat)))) (by kernel_rfl) ⟨k0c, y0, y1, y2, y3, y4, y5, y6, y7, y8, y9, y10, y11, y12⟩ (fun hHeld => ?_)
  refine tkA (i := 0) (oi := ⟨_, _, _, _, _, _⟩) ?_
  simp only [putA, List.set]
  refine tkA (i := 1) (oi := ⟨_, _, _, _, _, _⟩) ?_
  simp only [putA, List.set]
  refine tkA (i := 2) (oi := ⟨_, _, _, _, _, _⟩) ?_
  simp only [putA, List.set]
  refine tkA (i := 3) (oi := ⟨_, _, _, _, _, _⟩) ?_
  simp only [putA, List.set]
  refine tkA (i := 4) (oi := ⟨_, _, _, _, _, _⟩) ?_
  simp only [putA, List.set]
  refine wpAnyH_ready (rs := [5]) (by kernel_rfl) (by simp) ?_
  refine AllReadyH.cons rfl (fun K hK => ?_) AllReadyH.nil
  go_simp
  go_wp2_with (go_at_call 72; refine (KC w1.drew MD).mono ?_; rintro e w2 ⟨v, rfl, ho2, hcl2, hm2⟩; obtain ⟨vA, vc, rfl⟩ := own_slice ho2; have hz2 : s0 + 2 ≤ w2.heap.size := (by rw [← z1]; exact hm2.size); have hc2 : ∀ k q, k < s0 + 2 → k ≠ CB → w2.cell? ⟨k, q, none⟩ = w1.cell? ⟨k, q, none⟩ := fun k q hk hn => hm2.cell (a := w1.drew) (by (show k < w1.heap.size; rw [z1]; exact hk)) hn)
  refine hK.out _ _ ?_ (fun hHeld => ?_)
  · exact ⟨(hc2 _ _ (by omega) (by omega)).trans k0c, (hc2 _ _ (by omega) (by omega)).trans y0, (hc2 _ _ (by omega) (by omega)).trans y1, (hc2 _ _ (by omega) (by omega)).trans y2, (hc2 _ _ (by omega) (by omega)).trans y3, (hc2 _ _ (by omega) (by omega)).trans y4, (hc2 _ _ (by omega) (by omega)).trans y5, (hc2 _ _ (by omega) (by omega)).trans y6, (hc2 _ _ (by omega) (by omega)).trans y7, (hc2 _ _ (by omega) (by omega)).trans y8, (hc2 _ _ (by omega) (by omega)).trans y9, (hc2 _ _ (by omega) (by omega)).trans y10, (hc2 _ _ (by omega) (by omega)).trans y11, (hc2 _ _ (by omega) (by omega)).trans y12⟩
  clear hK K
  refine tkA (i := 6) (oi := ⟨_, _, _, _, _, _⟩) ?_
  simp only [putA, List.set]
  refine wpAnyH_ready (rs := [7]) (by kernel_rfl) (by simp) ?_
  refine AllReadyH.cons rfl (fun K hK => ?_) AllReadyH.nil
  go_simp
  have hc3 : ∀ (ob : Obj) (k q : Nat), k < w2.heap.size → (w2.alloc ob).cell? ⟨k, q, none⟩ = w2.cell? ⟨k, q, none⟩ := fun ob k q hk => World.cell?_of_block (w := w2) (Below.heap_alloc _ _ _ hk)
  refine hK.out _ _ ?_ (fun hHeld => ?_)
  · exact ⟨(hc3 _ _ _ (by omega)).trans ((hc2 _ _ (by omega) (by omega)).trans k0c), (hc3 _ _ _ (by omega)).trans ((hc2 _ _ (by omega) (by omega)).trans y0), (hc3 _ _ _ (by omega)).trans ((hc2 _ _ (by omega) (by omega)).trans y1), (hc3 _ _ _ (by omega)).trans ((hc2 _ _ (by omega) (by omega)).trans y2), (hc3 _ _ _ (by omega)).trans ((hc2 _ _ (by omega) (by omega)).trans y3), (hc3 _ _ _ (by omega)).trans ((hc2 _ _ (by omega) (by omega)).trans y4), (hc3 _ _ _ (by omega)).trans ((hc2 _ _ (by omega) (by omega)).trans y5), (hc3 _ _ _ (by omega)).trans ((hc2 _ _ (by omega) (by omega)).trans y6), (hc3 _ _ _ (by omega)).trans ((hc2 _ _ (by omega) (by omega)).trans y7), (hc3 _ _ _ (by omega)).trans ((hc2 _ _ (by omega) (by omega)).trans y8), (hc3 _ _ _ (by omega)).trans ((hc2 _ _ (by omega) (by omega)).trans y9), (hc3 _ _ _ (by omega)).trans ((hc2 _ _ (by omega) (by omega)).trans y10), (hc3 _ _ _ (by omega)).trans ((hc2 _ _ (by omega) (by omega)).trans y11), (hc3 _ _ _ (by omega)).trans ((hc2 _ _ (by omega) (by omega)).trans y12)⟩
  clear hK K
  refine tkA (i := 8) (oi := ⟨_, _, _, _, _, _⟩) ?_
  simp only [putA, List.set]
  refine wpAnyH_done (by kernel_rfl) ?_ _
  obtain ⟨T, hT⟩ : ∃ T : Tk, T = ⟨ino, J, (keepR g (countN (J 2)) c (ptrsI J)).1, par, false, 0⟩ := ⟨_, rfl⟩
  obtain ⟨w3, hw3⟩ : ∃ W, W = w2.alloc (.cells (tkV T (.slice vA (keepR g (countN (J 2)) c (ptrsI J)).1.length vc)).toArray 90) := ⟨_, rfl⟩
  have kT : Blk 90 w3 w2.heap.size (tkV T (.slice vA (keepR g (countN (J 2)) c (ptrsI J)).1.length vc)) := by rw [hw3]; exact Blk.newL _
  have hB23 : Below w2.heap.size w2 w3 := by rw [hw3]; exact (Below.refl _ _).alloc (Nat.le_refl _) _
  have z3 : w3.heap.size = w2.heap.size + 1 := by rw [hw3]; simp
  have hm2' : Mods (fun k => k = CB) w1 w2 := ⟨hm2.os, hm2.tape, hm2.output, hm2.size, hm2.block⟩
  have hXC : X ≠ CB := fun e => by subst e; exact not_map h.cl h.men
  have hIX : IB < s0 := by rw [HS0.out]; exact h.im.lt
  have q6 : w3.cell? ⟨X, 6, none⟩ = some (.map (some IB)) := (hB23.cell (p := ⟨X, 6, none⟩) (by show X < w2.heap.size; omega)).trans ((hm2'.cell (by omega) hXC).trans (h1.men.cell 6))
  have q0 : w3.cell? ⟨s0, 0, none⟩ = some (.pointer (some ⟨X, 0, none⟩)) := (hB23.cell (p := ⟨s0, 0, none⟩) (by show s0 < w2.heap.size; omega)).trans ((hc2 _ _ (by omega) (by omega)).trans k0c)
  have q1 : w3.cell? ⟨s0 + 1, 0, none⟩ = some (.int .i64 (J 0 : Nat)) := (hB23.cell (p := ⟨s0 + 1, 0, none⟩) (by show s0 + 1 < w2.heap.size; omega)).trans ((hc2 _ _ (by omega) (by omega)).trans y0)
  have hIm3 : InM w3 IB M adr := ((h1.im.mods hm2' (fun e => h.ne e.symm)).below hB23 (by omega))
  obtain ⟨w4, hst, him4, hm4, hz4⟩ := in_store hIm3 (by omega) (B := w2.heap.size) hino
  unfold tkV at hw3
  have e00 : ((0 : Nat) : Int) = 0 := rfl
  simp only [hT, e00] at hw3
  rw [← hw3]
  have HT := Lib.hid hT; have HZ4 := Lib.hid hz4
  clear hw3 hT hz4 e00
  have X3 : X < w3.heap.size := by omega
  have S3 : s0 < w3.heap.size := by omega
  have S4 : s0 + 1 < w3.heap.size := by omega
  go_wp2
  go_ret
  have hm3 : Mods (fun k => k = CB ∨ k = IB) w w3 := by
    have a1 : Mods (fun k => k = CB ∨ k = IB) w w1 := (Mods.of_below hB1).mono (fun i hi e => by rw [← HS0.out] at hi; omega)
    exact (a1.trans hm2' (fun i _ e => .inl e)).trans_below hB23 (by rw [← HS0.out]; omega)
  have hm4' : Mods (fun k => k = CB ∨ k = IB) w w4 := hm3.trans hm4 (fun i _ e => .inr e)
  have hcl4 : Claims w4 CB (M + 10) (keepR g (countN (J 2)) c (ptrsI J)).2 := (hcl2.below hB23 (by omega)).mods hm4 h.ne
  have hTk : TkAt w4 w2.heap.size T := by
    have ht3 : TkAt w3 w2.heap.size T := ⟨_, kT, by rw [HT.out]; exact own_mono (own_below ho2 hB23) (Nat.zero_le _)⟩
    exact ht3.mods hm4 (fun k hk _ ⟨ys, fr, hh⟩ => by subst hk; rcases hh with hh | hh <;> exact not_map hIm3 hh)
  have hTi : T.ino = ino := by rw [HT.out]
  have hXw2 : X < w2.heap.size := by have h1 := h.men.lt; have h2 : w.heap.size ≤ w2.heap.size := by (rw [← HS0.out]; omega)
                                     omega
  refine ⟨rfl, w2.heap.size, by rw [← HS0.out]; omega, by rw [HZ4.out]; omega, ?_, hm4'⟩
  rw [← HJ.out]
  refine h.turn hm4' hcl4 (him4.mono (by omega)) (fun x B e => ?_)
  by_cases hx : x = ino
  · simp only [hx, if_true, Option.some.injEq] at e ⊢
    rw [← e]
    refine .inr ⟨?_, trivial, hXw2⟩
    have := hTk
    rw [HT.out] at this
    exact this
  · simp only [if_neg hx] at e ⊢
    exact .inl ⟨e, trivial⟩
end Go.Proofs.YtbeabehebenocaaGreatDoor
end

section
/- mend: whether an entry stays. -/
namespace Go.Proofs.YtbeabehebenocaaGreatDoor
open Go.RowKit

def NameM (w : World) (NB n : Nat) (nm : ByteArray → Bool) : Prop := MapG 9 (plainElem Tryz.prog 4) strK strOk w NB n (fun s => boolD (nm s))
theorem name_look {w : World} {NB n : Nat} {nm : ByteArray → Bool} (h : NameM w NB n nm) {s : ByteArray} (hs : strOk s) : (Instr.lookup 91 (.map (some NB)) (.string s) false).run Tryz.prog w = .ok (.bool (nm s)) w := by
  obtain ⟨D, h1, h2, h3⟩ := h
  obtain ⟨v, ps, hrun, hv⟩ := h1.lookup strKeyed Tryz.underlying91 (zeroBool w) boolRz (str_key hs)
  rw [(h2 s hs).2] at hv
  rw [hrun, bool_elem _ _ _ hv]
theorem name_store {w : World} {NB n : Nat} {nm : ByteArray → Bool} (h : NameM w NB n nm) (hn : n < 1000000000000) {s : ByteArray} (hs : strOk s) : ∃ w', (Instr.mapUpdate 91 (.map (some NB)) (.string s) (.bool true)).run Tryz.prog w = .ok () w' ∧ NameM w' NB (n + 1) (fun x => nm x || decide (x = s)) ∧ Mods (fun k => k = NB) w w' ∧ w'.heap.size = w.heap.size := by
  obtain ⟨D, h1, h2, h3⟩ := h
  obtain ⟨w', hrun, r1, r2⟩ := h1.store strKeyed Tryz.underlying91 (by unfold maxLen; omega) (str_key hs) boolRt
  refine ⟨w', hrun, ?_, mods_turned r2, size_turned r2⟩
  have := MapG.put_D strWay hs h1.isMap h2 h3 r1
  have e : (fun z => if z = s then some (DataW.lit (.bool true)) else boolD (nm z)) = (fun x => boolD (nm x || decide (x = s))) := by
    funext z
    by_cases hz : z = s
    · simp [hz, boolD]
    · simp [hz]
  rw [e] at this
  exact this

/-- the mender's word: claims, what was taken in -/
def MS (w : World) (g : Geo) (b o N cap : Nat) (f : Nat → Nat) (X CB IB M : Nat) (out way : Value) (c : Nat → Bool) (ins : Nat → Option Tk) (ti TB : Nat) : Prop :=
  ∃ adr tk, MAt w g b o N cap f X CB IB M out way c adr tk ∧ (∀ x, ins x = (adr x).map fun _ => tk x) ∧ adr ti = some TB
/-- may an entry of this name stay at all? -/
def badN (nm : ByteArray → Bool) (x : Nat) (s : ByteArray) : Bool := decide (x = 0) || (decide (s.toList = [46]) || (decide (s.toList = [46, 46]) || nm s))
set_option maxRecDepth 100000 in
set_option maxHeartbeats 4000000 in
theorem stays_bad (X TB NB x m : Nat) (s : ByteArray) (nm : ByteArray → Bool) (w : World) (hn : NameM w NB m nm) (hs : strOk s) (hb : badN nm x s = true) :
    Calls Tryz.prog 55 #[.pointer (some ⟨X, 0, none⟩), .pointer (some ⟨TB, 0, none⟩), .agg #[.int .i64 x, .string s], .map (some NB)] w fun e w' => e = .returned (.bool false) ∧ Below w.heap.size w w' := by
  have HL := name_look (hn.alloc (.cells #[.int .i64 (x : Int), .string s] 43)) hs
  have e0 : (((x : Nat) : Int) == 0) = decide (x = 0) := by rw [Bool.eq_iff_iff]; simp
  have fin : ∀ (W : World), W = w.alloc (.cells #[.int .i64 (x : Int), .string s] 43) → Below w.heap.size w W := fun W e => by rw [e]; exact (Below.refl _ _).alloc (Nat.le_refl _) _
  unfold badN at hb
  by_cases h0 : x = 0
  · have e1 : (((x : Nat) : Int) == 0) = true := by simp [h0]
    clear hb e0
    go_enter Tryz.func55, Tryz.ntmps55
    go_wp2
    go_ret
    exact ⟨rfl, (Below.refl _ _).alloc (Nat.le_refl _) _⟩
  · have e1 : (((x : Nat) : Int) == 0) = false := by simp [h0]
    clear e0
    simp only [h0, decide_false, Bool.false_or] at hb
    by_cases h1 : s.toList = [46]
    · clear hb
      go_enter Tryz.func55, Tryz.ntmps55
      go_wp2
      go_ret
      exact ⟨rfl, (Below.refl _ _).alloc (Nat.le_refl _) _⟩
    · simp only [h1, decide_false, Bool.false_or] at hb
      have g1 : (s.toList == [46]) = false := by simp [h1]
      by_cases h2 : s.toList = [46, 46]
      · clear hb
        go_enter Tryz.func55, Tryz.ntmps55
        go_wp2
        go_ret
        exact ⟨rfl, (Below.refl _ _).alloc (Nat.le_refl _) _⟩
      · have g2 : (s.toList == [46, 46]) = false := by simp [h2]
        simp only [h2, decide_false, Bool.false_or] at hb
        rw [hb] at HL
        clear hb
        go_enter Tryz.func55, Tryz.ntmps55
        go_wp2
        go_ret
        exact ⟨rfl, (Below.refl _ _).alloc (Nat.le_refl _) _⟩
end Go.Proofs.YtbeabehebenocaaGreatDoor
end

section
/- mend: whether an entry stays, of an inode that was taken in, and of another one. -/
namespace Go.Proofs.YtbeabehebenocaaGreatDoor
open Go.RowKit

theorem badN_no {nm : ByteArray → Bool} {x : Nat} {s : ByteArray} (h : badN nm x s = false) : (((x : Nat) : Int) == 0) = false ∧ ¬ s.toList = [46] ∧ (s.toList == [46]) = false ∧ ¬ s.toList = [46, 46] ∧ (s.toList == [46, 46]) = false ∧ nm s = false := by
  unfold badN at h
  simp only [Bool.or_eq_false_iff, decide_eq_false_iff_not] at h
  obtain ⟨h0, h1, h2, h3⟩ := h
  refine ⟨by simp; omega, h1, by simp [h1], h2, by simp [h2], h3⟩

set_option maxRecDepth 100000 in
set_option maxHeartbeats 4000000 in
theorem stays_in_no (g : Geo) (b o N cap : Nat) (f : Nat → Nat) (X CB IB M : Nat) (out way : Value) (c : Nat → Bool) (adr : Nat → Option Nat) (tk : Nat → Tk) (w : World) (h : MAt w g b o N cap f X CB IB M out way c adr tk) (TB NB x m : Nat) (s : ByteArray) (nm : ByteArray → Bool) (hn : NameM w NB m nm) (hs : strOk s) (hx : natOk x) (hb : badN nm x s = false) (B : Nat) (hadr : adr x = some B) (hno : (tk x).i 0 = 2 ∨ 32000 ≤ (tk x).links) :
    Calls Tryz.prog 55 #[.pointer (some ⟨X, 0, none⟩), .pointer (some ⟨TB, 0, none⟩), .agg #[.int .i64 x, .string s], .map (some NB)] w fun e w' => e = .returned (.bool false) ∧ Below w.heap.size w w' := by
  have HL := name_look (hn.alloc (.cells #[.int .i64 (x : Int), .string s] 43)) hs
  obtain ⟨e0, e1, e2, e3, e4, e5⟩ := badN_no hb
  rw [e5] at HL
  obtain ⟨I, hI⟩ : ∃ I, I = inoAt g f x := ⟨_, rfl⟩
  obtain ⟨s0, hs0⟩ : ∃ s0, s0 = w.heap.size := ⟨_, rfl⟩
  obtain ⟨w1, hw1⟩ : ∃ W, W = w.alloc (.cells #[.int .i64 (x : Int), .string s] 43) := ⟨_, rfl⟩
  have hB1 : Below s0 w w1 := by rw [hw1, hs0]; exact (Below.refl _ w).alloc (Nat.le_refl _) _
  have z1 : w1.heap.size = s0 + 1 := by rw [hw1, hs0]; simp
  have k1 : Blk 43 w1 s0 [.int .i64 (x : Int), .string s] := by rw [hw1, hs0]; exact Blk.newL _
  have h1 : MAt w1 g b o N cap f X CB IB M out way c adr tk := h.below (by rw [← hs0]; exact hB1)
  have AC := as_c g X b o N cap x f w1 h1.img (h1.men.cell 0) (h1.men.cell 1) (h1.men.cell 2) (h1.men.cell 3)
  rw [← hI] at AC
  unfold inoV at AC
  have hX : X < s0 := by rw [hs0]; exact h.men.lt
  rw [hw1] at AC
  have HS0 := Lib.hid hs0; have HW1 := Lib.hid hw1; have HI := Lib.hid hI
  have S0 : Blk 43 (w.alloc (.cells #[.int .i64 (x : Int), .string s] 43)) w.heap.size [.int .i64 (x : Int), .string s] := Blk.newL _
  clear hs0 hw1 hI hb
  go_enter Tryz.func55, Tryz.ntmps55
  go_wp2_with (go_at_call 48; refine AC.mono ?_; rintro e w2 ⟨rfl, hb2⟩)
  rw [← HW1.out] at hb2
  have hz2 : s0 + 1 ≤ w2.heap.size := by have := hb2.size; omega
  obtain ⟨w3, hw3⟩ : ∃ W, W = w2.alloc (.cells (inoL I).toArray 40) := ⟨_, rfl⟩
  have k3 : Blk 40 w3 w2.heap.size (inoL I) := by rw [hw3]; exact Blk.newL _
  have hB23 : Below w2.heap.size w2 w3 := by rw [hw3]; exact (Below.refl _ _).alloc (Nat.le_refl _) _
  have z3 : w3.heap.size = w2.heap.size + 1 := by rw [hw3]; simp
  unfold inoL at hw3
  rw [← hw3]
  have hB13 : Below w1.heap.size w1 w3 := hb2.trans (hB23.mono hb2.size)
  have h3 : MAt w3 g b o N cap f X CB IB M out way c adr tk := h1.below hB13
  have c6 : w3.cell? ⟨X, 6, none⟩ = some (.map (some IB)) := h3.men.cell 6
  have hk3 : Blk 43 w3 s0 [.int .i64 (x : Int), .string s] := k1.below hB13 (by omega)
  have c0 := hk3.cell 0
  simp only [List.getElem?_cons_zero] at c0
  simp only [← HS0.out]
  have L3 := h3.men.lt
  have HIL := in_look h3.drew.im hx
  rw [hadr] at HIL
  obtain ⟨y0, y1, y2, y3, y4, y5, y6, y7, y8, y9, y10, y11, y12⟩ := cells13 k3
  clear hw3 AC
  refine wp_region_held_drew (S := (fun w' => w'.cell? ⟨X, 6, none⟩ = some (.map (some IB)) ∧ w'.cell? ⟨s0, 0, none⟩ = some (.int .i64 (x : Nat)) ∧ (Instr.lookup 66 (.map (some IB)) (.int .i64 (x : Nat)) false).run Tryz.prog w' = .ok (.pointer (some ⟨B, 0, none⟩)) w')) (by kernel_rfl) ⟨c6, c0, HIL⟩ (fun hHeld => ?_)
  refine tkA (i := 0) (oi := ⟨_, _, _, _, _, _⟩) ?_
  simp only [putA, List.set]
  refine tkA (i := 1) (oi := ⟨_, _, _, _, _, _⟩) ?_
  simp only [putA, List.set]
  refine tkA (i := 2) (oi := ⟨_, _, _, _, _, _⟩) ?_
  simp only [putA, List.set]
  refine tkA (i := 3) (oi := ⟨_, _, _, _, _, _⟩) ?_
  simp only [putA, List.set]
  refine tkA (i := 4) (oi := ⟨_, _, _, _, _, _⟩) ?_
  simp only [putA, List.set]
  refine tkA (i := 5) (oi := ⟨_, _, _, _, _, _⟩) ?_
  simp only [putA, List.set]
  refine tkA (i := 6) (oi := ⟨_, _, _, _, _, _⟩) ?_
  simp only [putA, List.set]
  refine tkA (i := 7) (oi := ⟨_, _, _, _, _, _⟩) ?_
  simp only [putA, List.set]
  refine wpAnyH_done (by kernel_rfl) ?_ _
  have hB3 := (h3.tks x B hadr).1
  obtain ⟨kv, hBk, hBo⟩ := hB3
  have b1 := hBk.cell 1; have b17 := hBk.cell 17; have lB := hBk.lt; have f17 := hBk.frozen 17
  unfold tkV at b1 b17
  simp only [List.getElem?_cons_zero, List.getElem?_cons_succ] at b1 b17
  have hBw : Below w.heap.size w w3 := by rw [← HS0.out]; exact hB1.trans (hB13.mono (by omega))
  by_cases hkd : (tk x).i 0 = 2
  · have q1 : (((tk x).i 0 : Nat) : Int) == 2 := by simp [hkd]
    clear hno hkd
    go_wp2
    go_ret
    exact ⟨rfl, hBw.drew⟩
  · have q1 : ((((tk x).i 0 : Nat) : Int) == 2) = false := by simp; omega
    have q2 : (32000 : Int) ≤ ((tk x).links : Nat) := by omega
    go_wp2
    go_ret
    exact ⟨rfl, hBw.drew⟩

set_option maxRecDepth 100000 in
set_option maxHeartbeats 4000000 in
theorem stays_in_yes (g : Geo) (b o N cap : Nat) (f : Nat → Nat) (X CB IB M : Nat) (out way : Value) (c : Nat → Bool) (adr : Nat → Option Nat) (tk : Nat → Tk) (w : World) (h : MAt w g b o N cap f X CB IB M out way c adr tk) (TB NB x m : Nat) (s : ByteArray) (nm : ByteArray → Bool) (hn : NameM w NB m nm) (hs : strOk s) (hx : natOk x) (hb : badN nm x s = false) (B : Nat) (hadr : adr x = some B) (hk : (tk x).i 0 ≠ 2) (hl : (tk x).links < 32000) :
    Calls Tryz.prog 55 #[.pointer (some ⟨X, 0, none⟩), .pointer (some ⟨TB, 0, none⟩), .agg #[.int .i64 x, .string s], .map (some NB)] w fun e w' => e = .returned (.bool true) ∧ MAt w' g b o N cap f X CB IB M out way c adr (fun y => if y = x then { tk x with links := (tk x).links + 1 } else tk y) ∧ Mods (fun k => k = B) w w' := by
  have HL := name_look (hn.alloc (.cells #[.int .i64 (x : Int), .string s] 43)) hs
  obtain ⟨e0, e1, e2, e3, e4, e5⟩ := badN_no hb
  rw [e5] at HL
  obtain ⟨I, hI⟩ : ∃ I, I = inoAt g f x := ⟨_, rfl⟩
  obtain ⟨s0, hs0⟩ : ∃ s0, s0 = w.heap.size := ⟨_, rfl⟩
  obtain ⟨w1, hw1⟩ : ∃ W, W = w.alloc (.cells #[.int .i64 (x : Int), .string s] 43) := ⟨_, rfl⟩
  have hB1 : Below s0 w w1 := by rw [hw1, hs0]; exact (Below.refl _ w).alloc (Nat.le_refl _) _
  have z1 : w1.heap.size = s0 + 1 := by rw [hw1, hs0]; simp
  have k1 : Blk 43 w1 s0 [.int .i64 (x : Int), .string s] := by rw [hw1, hs0]; exact Blk.newL _
  have h1 : MAt w1 g b o N cap f X CB IB M out way c adr tk := h.below (by rw [← hs0]; exact hB1)
  have AC := as_c g X b o N cap x f w1 h1.img (h1.men.cell 0) (h1.men.cell 1) (h1.men.cell 2) (h1.men.cell 3)
  rw [← hI] at AC
  unfold inoV at AC
  have hX : X < s0 := by rw [hs0]; exact h.men.lt
  rw [hw1] at AC
  have HS0 := Lib.hid hs0; have HW1 := Lib.hid hw1; have HI := Lib.hid hI
  have S0 : Blk 43 (w.alloc (.cells #[.int .i64 (x : Int), .string s] 43)) w.heap.size [.int .i64 (x : Int), .string s] := Blk.newL _
  clear hs0 hw1 hI hb
  go_enter Tryz.func55, Tryz.ntmps55
  go_wp2_with (go_at_call 48; refine AC.mono ?_; rintro e w2 ⟨rfl, hb2⟩)
  rw [← HW1.out] at hb2
  have hz2 : s0 + 1 ≤ w2.heap.size := by have := hb2.size; omega
  obtain ⟨w3, hw3⟩ : ∃ W, W = w2.alloc (.cells (inoL I).toArray 40) := ⟨_, rfl⟩
  have k3 : Blk 40 w3 w2.heap.size (inoL I) := by rw [hw3]; exact Blk.newL _
  have hB23 : Below w2.heap.size w2 w3 := by rw [hw3]; exact (Below.refl _ _).alloc (Nat.le_refl _) _
  have z3 : w3.heap.size = w2.heap.size + 1 := by rw [hw3]; simp
  unfold inoL at hw3
  rw [← hw3]
  have hB13 : Below w1.heap.size w1 w3 := hb2.trans (hB23.mono hb2.size)
  have h3 : MAt w3 g b o N cap f X CB IB M out way c adr tk := h1.below hB13
  have c6 : w3.cell? ⟨X, 6, none⟩ = some (.map (some IB)) := h3.men.cell 6
  have hk3 : Blk 43 w3 s0 [.int .i64 (x : Int), .string s] := k1.below hB13 (by omega)
  have c0 := hk3.cell 0
  simp only [List.getElem?_cons_zero] at c0
  simp only [← HS0.out]
  have L3 := h3.men.lt
  have HIL := in_look h3.drew.im hx
  rw [hadr] at HIL
  obtain ⟨y0, y1, y2, y3, y4, y5, y6, y7, y8, y9, y10, y11, y12⟩ := cells13 k3
  clear hw3 AC
  refine wp_region_held_drew (S := (fun w' => w'.cell? ⟨X, 6, none⟩ = some (.map (some IB)) ∧ w'.cell? ⟨s0, 0, none⟩ = some (.int .i64 (x : Nat)) ∧ (Instr.lookup 66 (.map (some IB)) (.int .i64 (x : Nat)) false).run Tryz.prog w' = .ok (.pointer (some ⟨B, 0, none⟩)) w')) (by kernel_rfl) ⟨c6, c0, HIL⟩ (fun hHeld => ?_)
  refine tkA (i := 0) (oi := ⟨_, _, _, _, _, _⟩) ?_
  simp only [putA, List.set]
  refine tkA (i := 1) (oi := ⟨_, _, _, _, _, _⟩) ?_
  simp only [putA, List.set]
  refine tkA (i := 2) (oi := ⟨_, _, _, _, _, _⟩) ?_
  simp only [putA, List.set]
  refine tkA (i := 3) (oi := ⟨_, _, _, _, _, _⟩) ?_
  simp only [putA, List.set]
  refine tkA (i := 4) (oi := ⟨_, _, _, _, _, _⟩) ?_
  simp only [putA, List.set]
  refine tkA (i := 5) (oi := ⟨_, _, _, _, _, _⟩) ?_
  simp only [putA, List.set]
  refine tkA (i := 6) (oi := ⟨_, _, _, _, _, _⟩) ?_
  simp only [putA, List.set]
  refine tkA (i := 7) (oi := ⟨_, _, _, _, _, _⟩) ?_
  simp only [putA, List.set]
  refine wpAnyH_done (by kernel_rfl) ?_ _
  have hB3 := (h3.tks x B hadr).1
  obtain ⟨kv, hBk, hBo⟩ := hB3
  have b1 := hBk.cell 1; have b17 := hBk.cell 17; have lB := hBk.lt; have f17 := hBk.frozen 17
  unfold tkV at b1 b17
  simp only [List.getElem?_cons_zero, List.getElem?_cons_succ] at b1 b17
  have hBw : Below w.heap.size w w3 := by rw [← HS0.out]; exact hB1.trans (hB13.mono (by omega))
  have q1 : ((((tk x).i 0 : Nat) : Int) == 2) = false := by simp; omega
  have q2 : ¬ (32000 : Int) ≤ ((tk x).links : Nat) := by omega
  have q3 : IntKind.i64.wrap ((((tk x).links : Nat) : Int) + 1) = (((tk x).links + 1 : Nat) : Int) := by rw [← Int.natCast_succ]; exact wrap_nat _ (by omega)
  go_wp2
  go_ret
  have hm3 := (h3.links hadr ((tk x).links + 1) (u := .int .i64 (((tk x).links : Nat) + 1 : Int)) (by rw [Int.natCast_add]; rfl)).drew
  refine ⟨rfl, hm3, ?_⟩
  have a1 : Mods (fun k => k = B) w w3 := (Mods.of_below hBw).mono (fun i hi e => by omega)
  exact (a1.setCell ⟨B, 17, none⟩ (fun _ => rfl) _).drew

set_option maxRecDepth 100000 in
set_option maxHeartbeats 4000000 in
theorem stays_new_no (g : Geo) (b o N cap : Nat) (f : Nat → Nat) (X CB IB M : Nat) (out way : Value) (c : Nat → Bool) (adr : Nat → Option Nat) (tk : Nat → Tk) (w : World) (h : MAt w g b o N cap f X CB IB M out way c adr tk) (TB NB x m : Nat) (s : ByteArray) (nm : ByteArray → Bool) (hn : NameM w NB m nm) (hs : strOk s) (hx : natOk x) (hb : badN nm x s = false) (hadr : adr x = none) (hk : inoAt g f x 0 = 0) :
    Calls Tryz.prog 55 #[.pointer (some ⟨X, 0, none⟩), .pointer (some ⟨TB, 0, none⟩), .agg #[.int .i64 x, .string s], .map (some NB)] w fun e w' => e = .returned (.bool false) ∧ Below w.heap.size w w' := by
  have HL := name_look (hn.alloc (.cells #[.int .i64 (x : Int), .string s] 43)) hs
  obtain ⟨e0, e1, e2, e3, e4, e5⟩ := badN_no hb
  rw [e5] at HL
  obtain ⟨I, hI⟩ : ∃ I, I = inoAt g f x := ⟨_, rfl⟩
  obtain ⟨s0, hs0⟩ : ∃ s0, s0 = w.heap.size := ⟨_, rfl⟩
  obtain ⟨w1, hw1⟩ : ∃ W, W = w.alloc (.cells #[.int .i64 (x : Int), .string s] 43) := ⟨_, rfl⟩
  have hB1 : Below s0 w w1 := by rw [hw1, hs0]; exact (Below.refl _ w).alloc (Nat.le_refl _) _
  have z1 : w1.heap.size = s0 + 1 := by rw [hw1, hs0]; simp
  have k1 : Blk 43 w1 s0 [.int .i64 (x : Int), .string s] := by rw [hw1, hs0]; exact Blk.newL _
  have h1 : MAt w1 g b o N cap f X CB IB M out way c adr tk := h.below (by rw [← hs0]; exact hB1)
  have AC := as_c g X b o N cap x f w1 h1.img (h1.men.cell 0) (h1.men.cell 1) (h1.men.cell 2) (h1.men.cell 3)
  rw [← hI] at AC
  unfold inoV at AC
  have hX : X < s0 := by rw [hs0]; exact h.men.lt
  rw [hw1] at AC
  have HS0 := Lib.hid hs0; have HW1 := Lib.hid hw1; have HI := Lib.hid hI
  have S0 : Blk 43 (w.alloc (.cells #[.int .i64 (x : Int), .string s] 43)) w.heap.size [.int .i64 (x : Int), .string s] := Blk.newL _
  clear hs0 hw1 hI hb
  go_enter Tryz.func55, Tryz.ntmps55
  go_wp2_with (go_at_call 48; refine AC.mono ?_; rintro e w2 ⟨rfl, hb2⟩)
  rw [← HW1.out] at hb2
  have hz2 : s0 + 1 ≤ w2.heap.size := by have := hb2.size; omega
  obtain ⟨w3, hw3⟩ : ∃ W, W = w2.alloc (.cells (inoL I).toArray 40) := ⟨_, rfl⟩
  have k3 : Blk 40 w3 w2.heap.size (inoL I) := by rw [hw3]; exact Blk.newL _
  have hB23 : Below w2.heap.size w2 w3 := by rw [hw3]; exact (Below.refl _ _).alloc (Nat.le_refl _) _
  have z3 : w3.heap.size = w2.heap.size + 1 := by rw [hw3]; simp
  unfold inoL at hw3
  rw [← hw3]
  have hB13 : Below w1.heap.size w1 w3 := hb2.trans (hB23.mono hb2.size)
  have h3 : MAt w3 g b o N cap f X CB IB M out way c adr tk := h1.below hB13
  have c6 : w3.cell? ⟨X, 6, none⟩ = some (.map (some IB)) := h3.men.cell 6
  have hk3 : Blk 43 w3 s0 [.int .i64 (x : Int), .string s] := k1.below hB13 (by omega)
  have c0 := hk3.cell 0
  simp only [List.getElem?_cons_zero] at c0
  simp only [← HS0.out]
  have L3 := h3.men.lt
  have HIL := in_look h3.drew.im hx
  rw [hadr] at HIL
  obtain ⟨y0, y1, y2, y3, y4, y5, y6, y7, y8, y9, y10, y11, y12⟩ := cells13 k3
  clear hw3 AC
  refine wp_region_held_drew (S := (fun w' => w'.cell? ⟨X, 6, none⟩ = some (.map (some IB)) ∧ w'.cell? ⟨s0, 0, none⟩ = some (.int .i64 (x : Nat)) ∧ (Instr.lookup 66 (.map (some IB)) (.int .i64 (x : Nat)) false).run Tryz.prog w' = .ok (.pointer none) w')) (by kernel_rfl) ⟨c6, c0, HIL⟩ (fun hHeld => ?_)
  refine tkA (i := 0) (oi := ⟨_, _, _, _, _, _⟩) ?_
  simp only [putA, List.set]
  refine tkA (i := 1) (oi := ⟨_, _, _, _, _, _⟩) ?_
  simp only [putA, List.set]
  refine tkA (i := 2) (oi := ⟨_, _, _, _, _, _⟩) ?_
  simp only [putA, List.set]
  refine tkA (i := 3) (oi := ⟨_, _, _, _, _, _⟩) ?_
  simp only [putA, List.set]
  refine tkA (i := 4) (oi := ⟨_, _, _, _, _, _⟩) ?_
  simp only [putA, List.set]
  refine tkA (i := 5) (oi := ⟨_, _, _, _, _, _⟩) ?_
  simp only [putA, List.set]
  refine tkA (i := 6) (oi := ⟨_, _, _, _, _, _⟩) ?_
  simp only [putA, List.set]
  refine tkA (i := 7) (oi := ⟨_, _, _, _, _, _⟩) ?_
  simp only [putA, List.set]
  refine wpAnyH_done (by kernel_rfl) ?_ _
  have hBw : Below w.heap.size w w3 := by rw [← HS0.out]; exact hB1.trans (hB13.mono (by omega))
  have q1 : (((I 0 : Nat) : Int) == 0) = true := by rw [HI.out, hk]; rfl
  go_wp2
  go_ret
  exact ⟨rfl, hBw.drew⟩

set_option maxRecDepth 100000 in
set_option maxHeartbeats 6000000 in
theorem stays_new_yes (g : Geo) (b o N cap : Nat) (f : Nat → Nat) (X CB IB M : Nat) (out way : Value) (c : Nat → Bool) (adr : Nat → Option Nat) (tk : Nat → Tk) (w : World) (h : MAt w g b o N cap f X CB IB M out way c adr tk) (TB NB x m : Nat) (s : ByteArray) (nm : ByteArray → Bool) (hn : NameM w NB m nm) (hs : strOk s) (hx : natOk x) (hb : badN nm x s = false) (hadr : adr x = none) (hk : inoAt g f x 0 ≠ 0) (hk2 : inoAt g f x 0 ≠ 2) (hs1 : g.dOk (inoAt g f x 11) = false) (hs2 : g.dOk (inoAt g f x 12) = false) (hIb : ∀ k, inoAt g f x k < 4294967296) (hM : M ≤ 900000000) (ti : Nat) (hti : adr ti = some TB) :
    Calls Tryz.prog 55 #[.pointer (some ⟨X, 0, none⟩), .pointer (some ⟨TB, 0, none⟩), .agg #[.int .i64 x, .string s], .map (some NB)] w fun e w' => e = .returned (.bool true) ∧ ∃ B, w.heap.size ≤ B ∧ B < w'.heap.size ∧ MAt w' g b o N cap f X CB IB (M + 10) out way (keepR g (countN (capI (inoAt g f x) 2)) c (ptrsI (capI (inoAt g f x)))).2 (fun y => if y = x then some B else adr y)
        (fun y => if y = x then ⟨x, capI (inoAt g f x), (keepR g (countN (capI (inoAt g f x) 2)) c (ptrsI (capI (inoAt g f x)))).1, ti, false, 1⟩ else tk y) ∧ Mods (fun k => k = CB ∨ k = IB) w w' := by
  have HL := name_look (hn.alloc (.cells #[.int .i64 (x : Int), .string s] 43)) hs
  obtain ⟨e0, e1, e2, e3, e4, e5⟩ := badN_no hb
  rw [e5] at HL
  obtain ⟨I, hI⟩ : ∃ I, I = inoAt g f x := ⟨_, rfl⟩
  obtain ⟨s0, hs0⟩ : ∃ s0, s0 = w.heap.size := ⟨_, rfl⟩
  obtain ⟨w1, hw1⟩ : ∃ W, W = w.alloc (.cells #[.int .i64 (x : Int), .string s] 43) := ⟨_, rfl⟩
  have hB1 : Below s0 w w1 := by rw [hw1, hs0]; exact (Below.refl _ w).alloc (Nat.le_refl _) _
  have z1 : w1.heap.size = s0 + 1 := by rw [hw1, hs0]; simp
  have k1 : Blk 43 w1 s0 [.int .i64 (x : Int), .string s] := by rw [hw1, hs0]; exact Blk.newL _
  have h1 : MAt w1 g b o N cap f X CB IB M out way c adr tk := h.below (by rw [← hs0]; exact hB1)
  have AC := as_c g X b o N cap x f w1 h1.img (h1.men.cell 0) (h1.men.cell 1) (h1.men.cell 2) (h1.men.cell 3)
  rw [← hI] at AC
  unfold inoV at AC
  have hX : X < s0 := by rw [hs0]; exact h.men.lt
  rw [hw1] at AC
  have HS0 := Lib.hid hs0; have HW1 := Lib.hid hw1; have HI := Lib.hid hI
  have S0 : Blk 43 (w.alloc (.cells #[.int .i64 (x : Int), .string s] 43)) w.heap.size [.int .i64 (x : Int), .string s] := Blk.newL _
  clear hs0 hw1 hI hb
  go_enter Tryz.func55, Tryz.ntmps55
  go_wp2_with (go_at_call 48; refine AC.mono ?_; rintro e w2 ⟨rfl, hb2⟩)
  rw [← HW1.out] at hb2
  have hz2 : s0 + 1 ≤ w2.heap.size := by have := hb2.size; omega
  obtain ⟨w3, hw3⟩ : ∃ W, W = w2.alloc (.cells (inoL I).toArray 40) := ⟨_, rfl⟩
  have k3 : Blk 40 w3 w2.heap.size (inoL I) := by rw [hw3]; exact Blk.newL _
  have hB23 : Below w2.heap.size w2 w3 := by rw [hw3]; exact (Below.refl _ _).alloc (Nat.le_refl _) _
  have z3 : w3.heap.size = w2.heap.size + 1 := by rw [hw3]; simp
  unfold inoL at hw3
  rw [← hw3]
  have hB13 : Below w1.heap.size w1 w3 := hb2.trans (hB23.mono hb2.size)
  have h3 : MAt w3 g b o N cap f X CB IB M out way c adr tk := h1.below hB13
  have c6 : w3.cell? ⟨X, 6, none⟩ = some (.map (some IB)) := h3.men.cell 6
  have hk3 : Blk 43 w3 s0 [.int .i64 (x : Int), .string s] := k1.below hB13 (by omega)
  have c0 := hk3.cell 0
  simp only [List.getElem?_cons_zero] at c0
  simp only [← HS0.out]
  have L3 := h3.men.lt
  have HIL := in_look h3.drew.im hx
  rw [hadr] at HIL
  obtain ⟨y0, y1, y2, y3, y4, y5, y6, y7, y8, y9, y10, y11, y12⟩ := cells13 k3
  clear hw3 AC
  refine wp_region_held_drew (S := (fun w' => w'.cell? ⟨X, 6, none⟩ = some (.map (some IB)) ∧ w'.cell? ⟨s0, 0, none⟩ = some (.int .i64 (x : Nat)) ∧ (Instr.lookup 66 (.map (some IB)) (.int .i64 (x : Nat)) false).run Tryz.prog w' = .ok (.pointer none) w')) (by kernel_rfl) ⟨c6, c0, HIL⟩ (fun hHeld => ?_)
  refine tkA (i := 0) (oi := ⟨_, _, _, _, _, _⟩) ?_
  simp only [putA, List.set]
  refine tkA (i := 1) (oi := ⟨_, _, _, _, _, _⟩) ?_
  simp only [putA, List.set]
  refine tkA (i := 2) (oi := ⟨_, _, _, _, _, _⟩) ?_
  simp only [putA, List.set]
  refine tkA (i := 3) (oi := ⟨_, _, _, _, _, _⟩) ?_
  simp only [putA, List.set]
  refine tkA (i := 4) (oi := ⟨_, _, _, _, _, _⟩) ?_
  simp only [putA, List.set]
  refine tkA (i := 5) (oi := ⟨_, _, _, _, _, _⟩) ?_
  simp only [putA, List.set]
  refine tkA (i := 6) (oi := ⟨_, _, _, _, _, _⟩) ?_
  simp only [putA, List.set]
  refine tkA (i := 7) (oi := ⟨_, _, _, _, _, _⟩) ?_
  simp only [putA, List.set]
  refine wpAnyH_done (by kernel_rfl) ?_ _
  have hBw : Below w.heap.size w w3 := by rw [← HS0.out]; exact hB1.trans (hB13.mono (by omega))
  have q1 : (((I 0 : Nat) : Int) == 0) = false := by rw [HI.out]; simp; omega
  have q2 : (((I 0 : Nat) : Int) == 2) = false := by rw [HI.out]; simp; omega
  rw [← HI.out] at hk2 hs1 hs2 hIb
  have t0 : w3.cell? ⟨TB, 0, none⟩ = some (.int .i64 (ti : Nat)) := by
    obtain ⟨⟨v, hT, _⟩, hin, _⟩ := h3.tks ti TB hti
    rw [hT.cell 0]; simp only [tkV, List.getElem?_cons_zero]; rw [hin]
  have TBl : TB < w3.heap.size := (h3.tks ti TB hti).1.lt
  have TC := takef_c g b o N cap f X CB IB M out way c adr tk w3.drew.drew h3.drew.drew hM x ti hx I hIb hk2 hs1 hs2 hadr
  unfold inoV at TC
  obtain ⟨q, hq⟩ : ∃ q, q = w2.heap.size := ⟨_, rfl⟩
  rw [← hq] at k3 y0 y1 y2 y3 y4 y5 y6 y7 y8 y9 y10 y11 y12 z3
  simp only [← hq]
  have HQ := Lib.hid hq
  clear hq
  have nTC : TB ≠ CB := fun e => by obtain ⟨⟨v, hT, _⟩, _⟩ := h3.tks ti TB hti; subst e; exact not_map h3.cl hT
  have nTI : TB ≠ IB := fun e => by obtain ⟨⟨v, hT, _⟩, _⟩ := h3.tks ti TB hti; subst e; exact not_map h3.im hT
  have nSC : s0 ≠ CB := fun e => by subst e; exact not_map h3.cl hk3
  have nSI : s0 ≠ IB := fun e => by subst e; exact not_map h3.im hk3
  have nqC : q ≠ CB := fun e => by subst e; exact not_map h3.cl k3
  have nqI : q ≠ IB := fun e => by subst e; exact not_map h3.im k3
  have lq := k3.lt; have ls := hk3.lt
  go_wp2
  refine wp_region_held_drew (S := (fun w' => w'.cell? ⟨s0, 0, none⟩ = some (.int .i64 (x : Nat)) ∧ w'.cell? ⟨TB, 0, none⟩ = some (.int .i64 (ti : Nat)) ∧ w'.cell? ⟨q, 0, none⟩ = some (.int .i64 (I 0 : Nat)) ∧ w'.cell? ⟨q, 1, none⟩ = some (.int .i64 (I 1 : Nat)) ∧ w'.cell? ⟨q, 2, none⟩ = some (.int .i64 (I 2 : Nat)) ∧ w'.cell? ⟨q, 3, none⟩ = some (.int .i64 (I 3 : Nat)) ∧ w'.cell? ⟨q, 4, none⟩ = some (.int .i64 (I 4 : Nat)) ∧ w'.cell? ⟨q, 5, none⟩ = some (.int .i64 (I 5 : Nat)) ∧ w'.cell? ⟨q, 6, none⟩ = some (.int .i64 (I 6 : Nat)) ∧ w'.cell? ⟨q, 7, none⟩ = some (.int .i64 (I 7 : Nat)) ∧ w'.cell? ⟨q, 8, none⟩ = some (.int .i64 (I 8 : Nat)) ∧ w'.cell? ⟨q, 9, none⟩ = some (.int .i64 (I 9 : Nat)) ∧ w'.cell? ⟨q, 10, none⟩ = some (.int .i64 (I 10 : Nat)) ∧ w'.cell? ⟨q, 11, none⟩ = some (.int .i64 (I 11 : Nat)) ∧ w'.cell? ⟨q, 12, none⟩ = some (.int .i64 (I 12 : Nat)))) (by kernel_rfl) ⟨c0, t0, y0, y1, y2, y3, y4, y5, y6, y7, y8, y9, y10, y11, y12⟩ (fun hHeld => ?_)
  refine tkA (i := 0) (oi := ⟨_, _, _, _, _, _⟩) ?_
  simp only [putA, List.set]
  refine tkA (i := 1) (oi := ⟨_, _, _, _, _, _⟩) ?_
  simp only [putA, List.set]
  refine tkA (i := 2) (oi := ⟨_, _, _, _, _, _⟩) ?_
  simp only [putA, List.set]
  refine tkA (i := 3) (oi := ⟨_, _, _, _, _, _⟩) ?_
  simp only [putA, List.set]
  refine tkA (i := 4) (oi := ⟨_, _, _, _, _, _⟩) ?_
  simp only [putA, List.set]
  refine tkA (i := 5) (oi := ⟨_, _, _, _, _, _⟩) ?_
  simp only [putA, List.set]
  refine tkA (i := 6) (oi := ⟨_, _, _, _, _, _⟩) ?_
  simp only [putA, List.set]
  refine tkA (i := 7) (oi := ⟨_, _, _, _, _, _⟩) ?_
  simp only [putA, List.set]
  refine wpAnyH_ready (rs := [8]) (by kernel_rfl) (by simp) ?_
  refine AllReadyH.cons rfl (fun K hK => ?_) AllReadyH.nil
  go_simp
  go_wp2_with (go_at_call 50; refine TC.mono ?_; rintro e w5 ⟨rfl, B, hBl, hBs, h5, hm5⟩; have hc5 : ∀ k z, k < w3.heap.size → k ≠ CB → k ≠ IB → w5.cell? ⟨k, z, none⟩ = w3.cell? ⟨k, z, none⟩ := fun k z hk h1 h2 => hm5.cell (a := w3.drew.drew) hk (fun e => e.elim h1 h2))
  refine hK.out _ _ ?_ (fun hHeld => ?_)
  · exact ⟨(hc5 _ _ ls nSC nSI).trans c0, (hc5 _ _ TBl nTC nTI).trans t0, (hc5 _ _ lq nqC nqI).trans y0, (hc5 _ _ lq nqC nqI).trans y1, (hc5 _ _ lq nqC nqI).trans y2, (hc5 _ _ lq nqC nqI).trans y3, (hc5 _ _ lq nqC nqI).trans y4, (hc5 _ _ lq nqC nqI).trans y5, (hc5 _ _ lq nqC nqI).trans y6, (hc5 _ _ lq nqC nqI).trans y7, (hc5 _ _ lq nqC nqI).trans y8, (hc5 _ _ lq nqC nqI).trans y9, (hc5 _ _ lq nqC nqI).trans y10, (hc5 _ _ lq nqC nqI).trans y11, (hc5 _ _ lq nqC nqI).trans y12⟩
  clear hK K
  refine tkA (i := 9) (oi := ⟨_, _, _, _, _, _⟩) ?_
  simp only [putA, List.set]
  refine tkA (i := 10) (oi := ⟨_, _, _, _, _, _⟩) ?_
  simp only [putA, List.set]
  refine wpAnyH_done (by kernel_rfl) ?_ _
  have hxB : (fun y => if y = x then some B else adr y) x = some B := if_pos rfl
  have h6 := h5.drew.links hxB 1 (u := .int .i64 1) rfl
  have HIL6 := in_look h6.im hx
  have c6' : w5.cell? ⟨X, 6, none⟩ = some (.map (some IB)) := h5.men.cell 6
  have c0' : w5.cell? ⟨s0, 0, none⟩ = some (.int .i64 (x : Nat)) := (hc5 _ _ ls nSC nSI).trans c0
  have HIL5 := in_look h5.drew.im hx
  simp only [if_true, ptrTo] at HIL5 HIL6
  have y0' : w5.cell? ⟨q, 0, none⟩ = some (.int .i64 (I 0 : Nat)) := (hc5 _ _ lq nqC nqI).trans y0
  have f17 : w5.drew.frozen? ⟨B, 17, none⟩ = false := by
    obtain ⟨⟨v, hT, _⟩, _⟩ := h5.tks x B hxB
    exact hT.frozen 17
  have c17 : w5.drew.cell? ⟨B, 17, none⟩ = some (.int .i64 0) := by
    obtain ⟨⟨v, hT, _⟩, _⟩ := h5.tks x B hxB
    have := hT.cell 17
    simp only [tkV, List.getElem?_cons_zero, List.getElem?_cons_succ, if_true] at this
    exact this
  have hlt5 : w3.heap.size ≤ w5.heap.size := hm5.size
  have hBl' : w3.heap.size ≤ B := hBl
  have nSB : s0 ≠ B := by omega
  have hse : ∀ k z, k ≠ B → (w5.drew.setCell ⟨B, 17, none⟩ (.int .i64 1)).cell? ⟨k, z, none⟩ = w5.cell? ⟨k, z, none⟩ := fun k z hk => World.cell?_of_block (w := w5.drew) (Below.heap_setCell _ _ _ _ hk)
  clear y1 y2 y3 y4 y5 y6 y7 y8 y9 y10 y11 y12 y0 hc5
  go_wp2
  refine wp_region_held_drew (S := (fun w' => w'.cell? ⟨X, 6, none⟩ = some (.map (some IB)) ∧ w'.cell? ⟨s0, 0, none⟩ = some (.int .i64 (x : Nat)) ∧ (Instr.lookup 66 (.map (some IB)) (.int .i64 (x : Nat)) false).run Tryz.prog w' = .ok (.pointer (some ⟨B, 0, none⟩)) w')) (by kernel_rfl) ⟨c6', c0', HIL5⟩ (fun hHeld => ?_)
  refine tkA (i := 0) (oi := ⟨_, _, _, _, _, _⟩) ?_
  simp only [putA, List.set]
  refine tkA (i := 1) (oi := ⟨_, _, _, _, _, _⟩) ?_
  simp only [putA, List.set]
  refine tkA (i := 2) (oi := ⟨_, _, _, _, _, _⟩) ?_
  simp only [putA, List.set]
  refine tkA (i := 3) (oi := ⟨_, _, _, _, _, _⟩) ?_
  simp only [putA, List.set]
  refine tkA (i := 4) (oi := ⟨_, _, _, _, _, _⟩) ?_
  simp only [putA, List.set]
  refine tkA (i := 5) (oi := ⟨_, _, _, _, _, _⟩) ?_
  simp only [putA, List.set]
  refine tkA (i := 6) (oi := ⟨_, _, _, _, _, _⟩) ?_
  simp only [putA, List.set]
  refine tkA (i := 7) (oi := ⟨_, _, _, _, _, _⟩) ?_
  simp only [putA, List.set]
  refine tkA (i := 8) (oi := ⟨_, _, _, _, _, _⟩) ?_
  simp only [putA, List.set]
  refine wpAnyH_ready (rs := [9]) (by kernel_rfl) (by simp) ?_
  refine AllReadyH.cons rfl (fun K hK => ?_) AllReadyH.nil
  go_simp
  refine hK.out _ _ ?_ (fun hHeld => ?_)
  · exact ⟨h6.men.cell 6, (hse s0 0 nSB).trans c0', HIL6⟩
  clear hK K
  refine wpAnyH_done (by kernel_rfl) ?_ _
  go_wp2
  go_ret
  refine ⟨rfl, B, ?_, ?_, ?_, ?_⟩
  · have := hBw.size; omega
  · simp [World.setCell] at hBs ⊢; exact hBs
  · rw [← HI.out]
    exact h6.tkc (fun y => by by_cases hy : y = x <;> simp [hy])
  · have a1 : Mods (fun k => k = CB ∨ k = IB) w w3.drew.drew := ((Mods.of_below hBw).mono (fun i hi e => by omega)).drew.drew
    have a2 := a1.trans hm5 (fun i _ e => e)
    exact (a2.trans_below (B := w3.heap.size) (((Below.refl _ w5).drew).setCell (p := ⟨B, 17, none⟩) hBl' (.int .i64 1)) hBw.size)
end Go.Proofs.YtbeabehebenocaaGreatDoor
end

section
/- mend: the blocks of what was taken in, by their numbers. -/
namespace Go.Proofs.YtbeabehebenocaaGreatDoor
open Go.RowKit

def IntM (w : World) (AB n : Nat) (at' : Nat → Option Nat) : Prop := MapG 3 (plainElem Tryz.prog 3) natK natOk w AB n (fun x => intD (at' x))
def atS (m : Nat → Option Nat) (p : Ptr) : Nat → Option Nat := if p.lv = 0 then fun x => if x = p.n then some p.tgt else m x else m
def atF (L : List Ptr) : Nat → Option Nat := L.foldl atS (fun _ => none)
theorem atF_take (L : List Ptr) (k : Nat) (p : Ptr) (h : L[k]? = some p) : atF (L.take (k + 1)) = atS (atF (L.take k)) p := by
  unfold atF
  rw [List.take_add_one, h]
  simp
theorem flat_get : ∀ (L : List Ptr) (k : Nat) (p : Ptr) (j : Nat) (u : Value), L[k]? = some p → (ptrV p)[j]? = some u → (L.flatMap ptrV)[k * 4 + j]? = some u
  | [], k, p, j, u, h, _ => by simp at h
  | q :: r, 0, p, j, u, h, hj => by
    simp at h; subst h
    rw [List.flatMap_cons, List.getElem?_append_left (by have := (List.getElem?_eq_some_iff.1 hj).1; simp; omega)]
    simpa using hj
  | q :: r, k + 1, p, j, u, h, hj => by
    have hl : (ptrV q).length = 4 := rfl
    rw [List.flatMap_cons, List.getElem?_append_right (by rw [hl]; omega), hl, show (k + 1) * 4 + j - 4 = k * 4 + j by omega]
    exact flat_get r k p j u (by simpa using h) hj
theorem own_rdp {w : World} {base : Nat} {v : Value} {L : List Ptr} (h : w.ownsRow base 114 4 v L.length (L.flatMap ptrV)) :
    ∃ A cap, v = .slice A L.length cap ∧ ∀ k p, L[k]? = some p → ∃ b, A = some ⟨b, 0, none⟩ ∧ b < w.heap.size ∧ w.cell? ⟨b, k * 4, none⟩ = some (.int .i64 p.lv) ∧ w.cell? ⟨b, k * 4 + 1, none⟩ = some (.int .i64 (p.n : Nat)) ∧ w.cell? ⟨b, k * 4 + 2, none⟩ = some (.int .i64 (p.first : Nat)) ∧ w.cell? ⟨b, k * 4 + 3, none⟩ = some (.int .i64 (p.tgt : Nat)) := by
  obtain ⟨hl, h⟩ := h
  rcases h with ⟨hv, hn⟩ | ⟨g, cap, cur, rfl, hb, hg, hc, hm, hs, ht⟩
  · have : L = [] := List.length_eq_zero_iff.1 hn
    subst this
    exact ⟨none, 0, hv, fun k p hp => by simp at hp⟩
  · refine ⟨_, cap, rfl, fun k p hp => ⟨g, rfl, (Array.getElem?_eq_some_iff.1 hg).1, ?_⟩⟩
    have hk : k < L.length := (List.getElem?_eq_some_iff.1 hp).1
    have hcell : ∀ j u, j < 4 → (ptrV p)[j]? = some u → w.cell? ⟨g, k * 4 + j, none⟩ = some u := fun j u hj hu => by
      rw [cell_of_row w g (k * 4 + j) cur _ (0, 0) hg]
      have h1 := flat_get L k p j u hp hu
      rw [← ht, List.getElem?_take_of_lt (by omega)] at h1
      simpa using h1
    exact ⟨hcell 0 _ (by omega) rfl, hcell 1 _ (by omega) rfl, hcell 2 _ (by omega) rfl, hcell 3 _ (by omega) rfl⟩

set_option maxRecDepth 100000 in
set_option maxHeartbeats 4000000 in
theorem tblocks_c (TB : Nat) (t : Tk) (w : World) (h : TkAt w TB t) (hL : t.L.length ≤ 100000000) (hp : ∀ p ∈ t.L, natOk p.n ∧ natOk p.tgt) :
    Calls Tryz.prog 52 #[.pointer (some ⟨TB, 0, none⟩)] w fun e w' => ∃ AB, e = .returned (.map (some AB)) ∧ w.heap.size ≤ AB ∧ IntM w' AB t.L.length (atF t.L) ∧ Below w.heap.size w w' := by
  obtain ⟨v, hB, ho⟩ := h
  obtain ⟨A, cap, rfl, hr⟩ := own_rdp ho
  obtain ⟨L, hLL⟩ : ∃ L, L = t.L := ⟨_, rfl⟩
  obtain ⟨n, hn⟩ : ∃ n, n = L.length := ⟨_, rfl⟩
  have c14 := hB.cell 14
  unfold tkV at c14
  simp only [List.getElem?_cons_zero, List.getElem?_cons_succ] at c14
  rw [← hLL] at hL hp hr ⊢
  rw [← hLL, ← hn] at c14
  have lB := hB.lt
  have hLn : n ≤ 100000000 := by rw [hn]; exact hL
  have HN := Lib.hid hn; have HR := Lib.hid hr
  clear hn hLL hr ho hB
  have hmm := @run_makeMap Tryz.prog
  go_enter Tryz.func52, Tryz.ntmps52
  go_wp2
  go_loopw [5, 12] (fun _ i' wr => ∃ k : Nat, k ≤ n ∧ i' = .int .i64 k ∧ IntM wr w.heap.size k (atF (L.take k)) ∧ Below w.heap.size w wr) (fun _ i' _ => n - (intOf i').toNat)
  case atStart => exact ⟨0, by omega, rfl, MapG.made w, (Below.refl _ _).alloc (Nat.le_refl _) _⟩
  case round =>
    obtain ⟨k, hk, rfl, hM, hBw⟩ := hrel
    have hs := hBw.size
    by_cases hlt : k < n
    · obtain ⟨p, hpk⟩ : ∃ p, L[k]? = some p := ⟨L[k]'(by rw [← HN.out]; exact hlt), List.getElem?_eq_getElem _⟩
      obtain ⟨b, rfl, hbl, c0, c1, c2, c3⟩ := HR.out k p hpk
      have hpb := hp p (List.mem_of_getElem? hpk)
      have hc := fun q => (hBw.cell (p := ⟨b, q, none⟩) hbl)
      have d0 := (hc _).trans c0; have d1 := (hc _).trans c1; have d2 := (hc _).trans c2; have d3 := (hc _).trans c3
      have hbl2 : b < wr.heap.size := by omega
      have hat := atF_take L k p hpk
      have HAT := Lib.hid hat
      clear c0 c1 c2 c3 hc hat hp hpk
      by_cases h0 : p.lv = 0
      · have e0 : (p.lv == 0) = true := by simp [h0]
        have HE0 : ∀ m, atS m p = fun x => if x = p.n then some p.tgt else m x := fun m => by unfold atS; rw [if_pos h0]
        have HE := Lib.hid HE0
        rw [h0] at d0
        clear h0 e0 HE0
        go_wp2_with (first | (at_mapUpdate; refine mapg_store natWay rfl _ _ _ 92 rfl 3 intKeyed Tryz.underlying92 rfl (hM.alloc _) (by unfold maxLen; omega) _ _ p.n hpb.1 rfl rfl (nat_key hpb.1) (.lit (.int .i64 (p.tgt : Int))) [] (intRn hpb.2) ?_; intro w' hM' hm' hz'))
        go_roundw
        case rel =>
          refine ⟨k + 1, by omega, by go_num, ?_, ?_⟩
          · rw [HAT.out, HE.out]
            have e : (fun z => if z = p.n then some (DataW.lit (.int .i64 (p.tgt : Int))) else intD (atF (L.take k) z)) = (fun z => intD (if z = p.n then some p.tgt else atF (L.take k) z)) := by
              funext z
              by_cases hz : z = p.n
              · simp [hz, intD]
              · simp [hz]
            unfold IntM
            rw [← e]
            exact hM'
          · exact (hBw.alloc hs _).trans ((hm'.below (B := w.heap.size) (fun k hk => by omega) (by simp; omega)))
        case measure => simp [intOf]; omega
      · have e0 : (p.lv == 0) = false := by simpa using h0
        have HE0 : ∀ m, atS m p = m := fun m => by unfold atS; rw [if_neg h0]
        have HE := Lib.hid HE0
        clear h0 HE0
        go_wp2
        go_roundw
        case rel => exact ⟨k + 1, by omega, by go_num, by rw [HAT.out, HE.out]; exact (hM.alloc _).mono (by omega), hBw.alloc hs _⟩
        case measure => simp [intOf]; omega
    · obtain rfl : k = n := by omega
      have e : L.take k = L := List.take_of_length_le (by rw [← HN.out]; omega)
      rw [e] at hM
      go_wp2
      go_ret
      rw [← HN.out]
      exact ⟨_, rfl, Nat.le_refl _, hM, hBw⟩
end Go.Proofs.YtbeabehebenocaaGreatDoor
end

section
/- mend: whether an entry stays, in one word. -/
namespace Go.Proofs.YtbeabehebenocaaGreatDoor
open Go.RowKit

def updT (ins : Nat → Option Tk) (x : Nat) (t : Tk) : Nat → Option Tk := fun y => if y = x then some t else ins y
/-- an entry of inode x, named s: does it stay? what is claimed and taken in, then -/
def stayF (g : Geo) (f : Nat → Nat) (ti : Nat) (c : Nat → Bool) (ins : Nat → Option Tk) (nm : ByteArray → Bool) (x : Nat) (s : ByteArray) : Option ((Nat → Bool) × (Nat → Option Tk)) :=
  if badN nm x s then none else
  match ins x with
  | some t => if t.i 0 = 2 ∨ 32000 ≤ t.links then none else some (c, updT ins x { t with links := t.links + 1 })
  | none => if inoAt g f x 0 = 0 then none else
    some ((keepR g (countN (capI (inoAt g f x) 2)) c (ptrsI (capI (inoAt g f x)))).2, updT ins x ⟨x, capI (inoAt g f x), (keepR g (countN (capI (inoAt g f x) 2)) c (ptrsI (capI (inoAt g f x)))).1, ti, false, 1⟩)
/-- an inode that is no directory, whose indirect blocks are not gone into -/
def Plain (g : Geo) (f : Nat → Nat) (x : Nat) : Prop := inoAt g f x 0 ≠ 2 ∧ g.dOk (inoAt g f x 11) = false ∧ g.dOk (inoAt g f x 12) = false
def TkB (w : World) (k : Nat) : Prop := ∃ ys fr, w.heap[k]? = some (.cells ys 90 fr)
theorem inoAt_lt {g : Geo} {b o N cap : Nat} {f : Nat → Nat} {w : World} (h : ImgOk g b o N cap f w) (x k : Nat) : inoAt g f x k < 4294967296 := by
  unfold inoAt
  split
  · unfold inoRd
    have hb : ∀ m, rawF g f x m < 256 := fun m => h.byte _
    split
    · have := leN_lt (rawF g f x) hb 2; omega
    · split
      · have := leN_lt (fun k => rawF g f x (2 + k)) (fun k => hb _) 2; omega
      · split
        · exact leN_lt (fun k => rawF g f x (4 + k)) (fun k => hb _) 4
        · exact leN_lt (fun j => rawF g f x (8 + 4 * (k - 3) + j)) (fun k => hb _) 4
  · simp [noIno]

theorem stays_c (g : Geo) (b o N cap : Nat) (f : Nat → Nat) (X CB IB M : Nat) (out way : Value) (c : Nat → Bool) (ins : Nat → Option Tk) (ti TB : Nat) (w : World) (h : MS w g b o N cap f X CB IB M out way c ins ti TB) (NB x m : Nat) (s : ByteArray) (nm : ByteArray → Bool) (hn : NameM w NB m nm) (hs : strOk s) (hx : natOk x) (hM : M ≤ 900000000) (hP : ins x = none → Plain g f x) :
    Calls Tryz.prog 55 #[.pointer (some ⟨X, 0, none⟩), .pointer (some ⟨TB, 0, none⟩), .agg #[.int .i64 x, .string s], .map (some NB)] w fun e w' => (stayF g f ti c ins nm x s = none → e = .returned (.bool false) ∧ Below w.heap.size w w') ∧
      ∀ r, stayF g f ti c ins nm x s = some r → e = .returned (.bool true) ∧ MS w' g b o N cap f X CB IB (M + 10) out way r.1 r.2 ti TB ∧ Mods (fun k => k = CB ∨ k = IB ∨ (TkB w k ∧ X < k)) w w' := by
  obtain ⟨adr, tk, hA, hi, hti⟩ := h
  unfold stayF
  cases hb : badN nm x s with
  | true =>
    refine (stays_bad X TB NB x m s nm w hn hs hb).mono ?_
    rintro e w' ⟨rfl, h2⟩
    exact ⟨fun _ => ⟨rfl, h2⟩, fun r hr => by simp at hr⟩
  | false =>
    have hix := hi x
    simp only [Bool.false_eq_true, if_false]
    cases ha : adr x with
    | some B =>
      rw [ha] at hix
      simp only [Option.map_some] at hix
      rw [hix]
      by_cases hno : (tk x).i 0 = 2 ∨ 32000 ≤ (tk x).links
      · refine (stays_in_no g b o N cap f X CB IB M out way c adr tk w hA TB NB x m s nm hn hs hx hb B ha hno).mono ?_
        rintro e w' ⟨rfl, h2⟩
        exact ⟨fun _ => ⟨rfl, h2⟩, fun r hr => by simp [hno] at hr⟩
      · refine (stays_in_yes g b o N cap f X CB IB M out way c adr tk w hA TB NB x m s nm hn hs hx hb B ha (by omega) (by omega)).mono ?_
        rintro e w' ⟨rfl, h2, h3⟩
        refine ⟨fun hr => by simp [hno] at hr, fun r hr => ?_⟩
        simp only [if_neg hno, Option.some.injEq] at hr
        subst hr
        refine ⟨rfl, ⟨adr, _, ⟨h2.men, h2.img, h2.cl.mono (by omega), h2.im.mono (by omega), h2.ne, h2.tks⟩, fun y => ?_, hti⟩, h3.mono (fun k hk e => ?_)⟩
        · unfold updT
          by_cases hy : y = x
          · simp [hy, ha]
          · simp [hy, hi y]
        · subst e
          obtain ⟨⟨v, hv, _⟩, _, hXk⟩ := hA.tks x k ha
          exact .inr (.inr ⟨⟨_, _, hv⟩, hXk⟩)
    | none =>
      rw [ha] at hix
      simp only [Option.map_none] at hix
      rw [hix]
      have hpl := hP hix
      by_cases hk : inoAt g f x 0 = 0
      · refine (stays_new_no g b o N cap f X CB IB M out way c adr tk w hA TB NB x m s nm hn hs hx hb ha hk).mono ?_
        rintro e w' ⟨rfl, h2⟩
        exact ⟨fun _ => ⟨rfl, h2⟩, fun r hr => by simp [hk] at hr⟩
      · refine (stays_new_yes g b o N cap f X CB IB M out way c adr tk w hA TB NB x m s nm hn hs hx hb ha hk hpl.1 hpl.2.1 hpl.2.2 (inoAt_lt hA.img x) hM ti hti).mono ?_
        rintro e w' ⟨rfl, B, h1, h2, h3, h4⟩
        refine ⟨fun hr => by simp [hk] at hr, fun r hr => ?_⟩
        simp only [if_neg hk, Option.some.injEq] at hr
        subst hr
        refine ⟨rfl, ⟨_, _, h3, fun y => ?_, ?_⟩, h4.mono (fun k hk e => e.elim .inl (fun e => .inr (.inl e)))⟩
        · unfold updT
          by_cases hy : y = x
          · simp [hy]
          · simp [hy, hi y]
        · have hne : ti ≠ x := fun e => by rw [e, ha] at hti; cases hti
          simp [hne, hti]
end Go.Proofs.YtbeabehebenocaaGreatDoor
end

section
/- mend: a directory's entries in memory and what becomes of them. -/
namespace Go.Proofs.YtbeabehebenocaaGreatDoor
open Go.RowKit

/-- 32 entries in a block of memory of the call's own -/
def RowE (w : World) (lb : Nat) (E : Nat → Nat × ByteArray) : Prop := ∃ xs, Blk 43 w lb xs ∧ 64 ≤ xs.length ∧ ∀ j, j < 32 → xs[j * 2]? = some (.int .i64 ((E j).1 : Nat)) ∧ xs[j * 2 + 1]? = some (.string (E j).2)
theorem RowE.rd {w : World} {lb : Nat} {E : Nat → Nat × ByteArray} (h : RowE w lb E) : RdE w lb 32 E := fun k hk => by
  obtain ⟨xs, hb, _, hx⟩ := h
  rw [hb.cell, hb.cell]; exact hx k hk
theorem RowE.mods {s : Nat → Prop} {w w' : World} {lb : Nat} {E : Nat → Nat × ByteArray} (h : RowE w lb E) (hm : Mods s w w') (hs : ¬ s lb) : RowE w' lb E := by
  obtain ⟨xs, hb, h2⟩ := h
  exact ⟨xs, hb.mods hm hs, h2⟩
theorem RowE.lt {w : World} {lb : Nat} {E : Nat → Nat × ByteArray} (h : RowE w lb E) : lb < w.heap.size := by obtain ⟨xs, hb, _⟩ := h; exact hb.lt
theorem RowE.frozen {w : World} {lb : Nat} {E : Nat → Nat × ByteArray} (h : RowE w lb E) (i : Nat) : w.frozen? ⟨lb, i, none⟩ = false := by obtain ⟨xs, hb, _⟩ := h; exact hb.frozen i
theorem RowE.set {w : World} {lb : Nat} {E : Nat → Nat × ByteArray} (h : RowE w lb E) (k : Nat) (hk : k < 32) (x : Nat) (s : ByteArray) :
    RowE ((w.setCell ⟨lb, k * 2, none⟩ (.int .i64 (x : Nat))).setCell ⟨lb, k * 2 + 1, none⟩ (.string s)) lb (fun j => if j = k then (x, s) else E j) := by
  obtain ⟨xs, hb, hl, hx⟩ := h
  refine ⟨_, (hb.set (k * 2) _).set (k * 2 + 1) _, by simpa using hl, fun j hj => ?_⟩
  by_cases e : j = k
  · subst e
    simp only [if_true]
    refine ⟨?_, ?_⟩
    · rw [List.getElem?_set_ne (by omega), List.getElem?_set_self (by omega)]
    · rw [List.getElem?_set_self (by simp; omega)]
  · simp only [if_neg e]
    obtain ⟨h1, h2⟩ := hx j hj
    refine ⟨?_, ?_⟩
    · rw [List.getElem?_set_ne (by omega), List.getElem?_set_ne (by omega)]; exact h1
    · rw [List.getElem?_set_ne (by omega), List.getElem?_set_ne (by omega)]; exact h2
theorem entsL_get (E : Nat → Nat × ByteArray) : ∀ n j, j < n → (entsL E n)[j * 2]? = some (.int .i64 ((E j).1 : Nat)) ∧ (entsL E n)[j * 2 + 1]? = some (.string (E j).2)
  | 0, _, h => by omega
  | n + 1, j, h => by
    have hl := entsL_length E n
    by_cases e : j = n
    · subst e
      unfold entsL
      rw [List.getElem?_append_right (by omega), List.getElem?_append_right (by omega), hl, Nat.sub_self, show j * 2 + 1 - j * 2 = 1 by omega]
      exact ⟨rfl, rfl⟩
    · obtain ⟨h1, h2⟩ := entsL_get E n j (by omega)
      unfold entsL
      rw [List.getElem?_append_left (by omega), List.getElem?_append_left (by omega)]
      exact ⟨h1, h2⟩
theorem RowE.of_own {w : World} {base : Nat} {v : Value} {E : Nat → Nat × ByteArray} (h : w.ownsRow base 43 2 v 32 (entsL E 32)) : ∃ lb cap, v = .slice (some ⟨lb, 0, none⟩) 32 cap ∧ base ≤ lb ∧ RowE w lb E := by
  obtain ⟨hl, h⟩ := h
  rcases h with ⟨_, hn⟩ | ⟨g, cap, cur, rfl, hb, hg, hc, hm, hs, ht⟩
  · omega
  · refine ⟨g, cap, rfl, hb, cur.toList, hg, ?_, fun j hj => ?_⟩
    · have := congrArg List.length ht
      rw [List.length_take, entsL_length] at this
      omega
    · obtain ⟨h1, h2⟩ := entsL_get E 32 j hj
      rw [← ht] at h1 h2
      rw [List.getElem?_take_of_lt (by omega)] at h1
      rw [List.getElem?_take_of_lt (by omega)] at h2
      exact ⟨h1, h2⟩

theorem int_look {w : World} {AB n : Nat} {at' : Nat → Option Nat} (h : IntM w AB n at') {y : Nat} (hy : natOk y) : (Instr.lookup 92 (.map (some AB)) (.int .i64 (y : Int)) false).run Tryz.prog w = .ok (.int .i64 (((at' y).getD 0 : Nat) : Int)) w := by
  obtain ⟨D, h1, h2, h3⟩ := h
  obtain ⟨v, ps, hrun, hv⟩ := h1.lookup intKeyed Tryz.underlying92 (zeroInt w) intRz (nat_key hy)
  rw [(h2 y hy).2] at hv
  rw [hrun, int_elem _ _ _ hv]
/-- what is none of the mender's may change -/
theorem MAt.keep {s : Nat → Prop} {w w' : World} {g : Geo} {b o N cap : Nat} {f : Nat → Nat} {X CB IB M : Nat} {out way : Value} {c : Nat → Bool} {adr : Nat → Option Nat} {tk : Nat → Tk} (h : MAt w g b o N cap f X CB IB M out way c adr tk)
    (hm : Mods s w w') (hb : ¬ s b) (hX : ¬ s X) (hC : ¬ s CB) (hI : ¬ s IB) (hs : ∀ k, s k → k < w.heap.size → ¬ ∃ ys fr, w.heap[k]? = some (.cells ys 90 fr) ∨ w.heap[k]? = some (.cells ys 114 fr)) : MAt w' g b o N cap f X CB IB M out way c adr tk :=
  ⟨h.men.mods hm hX, { h.img with rd := fun k hk => (hm.cell h.img.lt hb).trans (h.img.rd k hk) }, h.cl.mods hm hC, h.im.mods hm hI, h.ne, fun x B e => ⟨(h.tks x B e).1.mods hm hs, (h.tks x B e).2⟩⟩
theorem MS.keep {s : Nat → Prop} {w w' : World} {g : Geo} {b o N cap : Nat} {f : Nat → Nat} {X CB IB M : Nat} {out way : Value} {c : Nat → Bool} {ins : Nat → Option Tk} {ti TB : Nat} (h : MS w g b o N cap f X CB IB M out way c ins ti TB)
    (hm : Mods s w w') (hb : ¬ s b) (hX : ¬ s X) (hC : ¬ s CB) (hI : ¬ s IB) (hs : ∀ k, s k → k < w.heap.size → ¬ ∃ ys fr, w.heap[k]? = some (.cells ys 90 fr) ∨ w.heap[k]? = some (.cells ys 114 fr)) : MS w' g b o N cap f X CB IB M out way c ins ti TB := by
  obtain ⟨adr, tk, h1, h2, h3⟩ := h
  exact ⟨adr, tk, h1.keep hm hb hX hC hI hs, h2, h3⟩
theorem MS.below {w w' : World} {g : Geo} {b o N cap : Nat} {f : Nat → Nat} {X CB IB M : Nat} {out way : Value} {c : Nat → Bool} {ins : Nat → Option Tk} {ti TB : Nat} (h : MS w g b o N cap f X CB IB M out way c ins ti TB) (hb : Below w.heap.size w w') : MS w' g b o N cap f X CB IB M out way c ins ti TB := by
  obtain ⟨adr, tk, h1, h2, h3⟩ := h
  exact ⟨adr, tk, h1.below hb, h2, h3⟩
theorem MS.mono {w : World} {g : Geo} {b o N cap : Nat} {f : Nat → Nat} {X CB IB M M' : Nat} {out way : Value} {c : Nat → Bool} {ins : Nat → Option Tk} {ti TB : Nat} (h : MS w g b o N cap f X CB IB M out way c ins ti TB) (hM : M ≤ M') : MS w g b o N cap f X CB IB M' out way c ins ti TB := by
  obtain ⟨adr, tk, h1, h2, h3⟩ := h
  exact ⟨adr, tk, ⟨h1.men, h1.img, h1.cl.mono hM, h1.im.mono hM, h1.ne, h1.tks⟩, h2, h3⟩

/-- the way changes -/
theorem MAt.setWay {w : World} {g : Geo} {b o N cap : Nat} {f : Nat → Nat} {X CB IB M : Nat} {out way : Value} {c : Nat → Bool} {adr : Nat → Option Nat} {tk : Nat → Tk} (h : MAt w g b o N cap f X CB IB M out way c adr tk) (ho : ∀ k q, out ≠ .int k q) (hw : ∀ k q, way ≠ .int k q) (v : Value) : MAt (w.setCell ⟨X, 7, none⟩ v) g b o N cap f X CB IB M out v c adr tk := by
  have hm : Mods (fun k => k = X) w (w.setCell ⟨X, 7, none⟩ v) := (Mods.refl (fun k => k = X) w).setCell ⟨X, 7, none⟩ (fun _ => rfl) _
  refine ⟨h.men.set 7 v, { h.img with rd := fun k hk => (hm.cell h.img.lt (h.img_ne ho hw)).trans (h.img.rd k hk) }, h.cl.mods hm (fun e => ?_), h.im.mods hm (fun e => ?_), h.ne, fun x B e => ⟨(h.tks x B e).1.mods hm (fun k hk _ ⟨ys, fr, hh⟩ => ?_), (h.tks x B e).2⟩⟩
  · have := h.men; rw [← e] at this; exact not_map h.cl this
  · have := h.men; rw [← e] at this; exact not_map h.im this
  · subst hk
    rcases hh with hh | hh <;> (have hm2 := h.men; rw [show w.heap[k]? = _ from hm2] at hh; exact absurd (tag_inj hh) (by decide))
theorem MS.setWay {w : World} {g : Geo} {b o N cap : Nat} {f : Nat → Nat} {X CB IB M : Nat} {out way : Value} {c : Nat → Bool} {ins : Nat → Option Tk} {ti TB : Nat} (h : MS w g b o N cap f X CB IB M out way c ins ti TB) (ho : ∀ k q, out ≠ .int k q) (hw : ∀ k q, way ≠ .int k q) (v : Value) : MS (w.setCell ⟨X, 7, none⟩ v) g b o N cap f X CB IB M out v c ins ti TB := by
  obtain ⟨adr, tk, h1, h2, h3⟩ := h
  exact ⟨adr, tk, h1.setWay ho hw v, h2, h3⟩

/-! ### what becomes of the entries -/
structure DS where
  c : Nat → Bool
  ins : Nat → Option Tk
  nm : ByteArray → Bool
  E : Nat → Nat × ByteArray
def setE (E : Nat → Nat × ByteArray) (k : Nat) (e : Nat × ByteArray) : Nat → Nat × ByteArray := fun j => if j = k then e else E j
def dirS (g : Geo) (f : Nat → Nat) (ti par : Nat) (E0 : Nat → Nat × ByteArray) (k : Nat) (D : DS) : DS :=
  if k < 2 then { D with E := setE D.E k (if k = 0 then (ti, ⟨#[46]⟩) else (par, ⟨#[46, 46]⟩)) } else
  match stayF g f ti D.c D.ins D.nm (E0 k).1 (E0 k).2 with
  | none => { D with E := setE D.E k (0, ⟨#[]⟩) }
  | some r => { D with c := r.1, ins := r.2, nm := fun s => D.nm s || decide (s = (E0 k).2) }
def dirF (g : Geo) (f : Nat → Nat) (ti par : Nat) (E0 : Nat → Nat × ByteArray) (D : DS) : Nat → DS
  | 0 => D
  | k + 1 => dirS g f ti par E0 k (dirF g f ti par E0 D k)
theorem setE_other {E : Nat → Nat × ByteArray} {k j : Nat} {e : Nat × ByteArray} (h : j ≠ k) : setE E k e j = E j := if_neg h
theorem dirF_later (g : Geo) (f : Nat → Nat) (ti par : Nat) (E0 : Nat → Nat × ByteArray) (D : DS) : ∀ k j, k ≤ j → (dirF g f ti par E0 D k).E j = D.E j
  | 0, _, _ => rfl
  | k + 1, j, h => by
    have ih := dirF_later g f ti par E0 D k j (by omega)
    unfold dirF dirS
    split
    · rw [← ih]; exact setE_other (by omega)
    · split
      · rw [← ih]; exact setE_other (by omega)
      · exact ih
end Go.Proofs.YtbeabehebenocaaGreatDoor
end
