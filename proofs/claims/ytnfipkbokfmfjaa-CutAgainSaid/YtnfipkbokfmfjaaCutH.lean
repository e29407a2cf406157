import Derived.Test.YtnfipkbokfmfjaaCutG
namespace Go.Proofs.Ytnfipkbokfmfjaa
open Go.RowKit
def kn : Nat → Int × Int
  | 0 => (0, 1)
  | k + 1 => (((kn k).1 + (kn k).2) % 4294967296, (kn k).2 * 31 % 4294967296)
theorem kn_range (k : Nat) : (0 ≤ (kn k).1 ∧ (kn k).1 < 4294967296) ∧ 0 ≤ (kn k).2 ∧ (kn k).2 < 4294967296 := by
  cases k with
  | zero => simp [kn]
  | succ k => simp only [kn]; omega
def zz : List Int := List.replicate 200 0
theorem zz_pl : pl zz = 64 ∧ pl (zz.drop 64) = 64 ∧ pl (zz.drop 128) = 64 ∧ pl (zz.drop 192) = 8 := by decide +kernel
theorem zz_cut : cut zz = [List.replicate 64 0, List.replicate 64 0, List.replicate 64 0, List.replicate 8 0] := by
  obtain ⟨h1, h2, h3, h4⟩ := zz_pl
  rw [cut_cons _ (by decide), h1, cut_cons (zz.drop 64) (by decide), h2, List.drop_drop, cut_cons (zz.drop (64 + 64)) (by decide), h3, List.drop_drop, cut_cons (zz.drop (64 + 64 + 64)) (by decide), h4, List.drop_drop]
  rw [show zz.drop (64 + 64 + 64 + 8) = [] by decide, cut_nil]
  decide
theorem zz_hashes : hashZ zz 7 = 2659897472 ∧ hashZ zz 199 = 2659897472 ∧ hashZ zz 0 = 1 ∧ hashZ zz (-1) = 0 ∧ hashZ zz 200 = 0 := by decide +kernel
theorem zz_ends : endsZ zz 195 = 200 ∧ endsZ zz 200 = 200 ∧ endsZ zz (-1) = 200 := by decide +kernel
theorem kn8 : (kn 8).1 = 2659897472 := by decide +kernel
def zps : List (List Int) := [List.replicate 64 0, List.replicate 64 0, List.replicate 64 0, List.replicate 8 0]
/-- What the walk needs of the four pieces. -/
theorem zz_view {w w' : World} {e : Ending} (h : CutView w zps 4 e w') : ∃ (g cap : Nat) (x0 x1 x2 x3 : Addr) (c0 c1 c2 c3 : Nat), e = .returned (.slice (some ⟨g, 0, none⟩) 4 cap) ∧ Hid (Below w.heap.size w w') ∧
    w'.cell? ⟨g, 0, none⟩ = some (.slice (some x0) 64 c0) ∧ w'.cell? ⟨g, 1, none⟩ = some (.slice (some x1) 64 c1) ∧ w'.cell? ⟨g, 2, none⟩ = some (.slice (some x2) 64 c2) ∧ w'.cell? ⟨g, 3, none⟩ = some (.slice (some x3) 8 c3) := by
  obtain ⟨A, cap, rfl, _, hB, hv⟩ := h
  obtain ⟨g, rfl, x0, c0, h0, _⟩ := hv 0 (by omega)
  obtain ⟨g1, e1, x1, c1, h1, _⟩ := hv 1 (by omega)
  cases e1
  obtain ⟨g2, e2, x2, c2, h2, _⟩ := hv 2 (by omega)
  cases e2
  obtain ⟨g3, e3, x3, c3, h3, _⟩ := hv 3 (by omega)
  cases e3
  exact ⟨g, cap, x0, x1, x2, x3, c0, c1, c2, c3, rfl, hB, h0, h1, h2, h3⟩
theorem byt_made {w1 : World} {B k : Nat} (h : w1.ownsRow B 5 1 (.slice (some ⟨B, 0, none⟩) k k) k (madeCells #[.int .u8 0] k).toList) (hk : k ≤ 1000000) : Byt w1 (some ⟨B, 0, none⟩) k (List.replicate k 0) := by
  refine ⟨by simp, by simpa using hk, fun j hj => ⟨_, rfl, ?_, ?_⟩⟩
  · simp at hj
    rw [show (⟨B, 0, none⟩ : Addr).add j = ⟨B, j, none⟩ by unfold Addr.add; split <;> simp_all, h.cellAt j (by omega), toList_madeCells_one]
    simp [hj, List.getD]
  · simp at hj
    simp [List.getD, hj]
/-- Two worlds that differ in what has been drawn alone. -/
structure Same (a b : World) : Prop where
  heap : a.heap = b.heap
  os : a.os = b.os
  tape : a.tape = b.tape
  output : a.output = b.output
theorem Same.refl (a : World) : Same a a := ⟨rfl, rfl, rfl, rfl⟩
theorem Same.drewN {a b : World} (h : Same a b) (n : Nat) : Same (a.drewN n) b := ⟨h.heap, h.os, h.tape, h.output⟩
theorem Same.cell {a b : World} (h : Same a b) {p : Addr} {v : Value} (hc : b.cell? p = some v) : a.cell? p = some v := by rw [← hc]; simp [World.cell?, h.heap]
theorem Same.byt {a b : World} (h : Same a b) {A : Option Addr} {cap : Nat} {l : List Int} (hB : Byt b A cap l) : Byt a A cap l :=
  ⟨hB.le, hB.small, fun j hj => by obtain ⟨x, e, hc, r⟩ := hB.cell j hj; exact ⟨x, e, h.cell hc, r⟩⟩
theorem Same.below {a b w : World} {B : Nat} (h : Same a b) (hb : Below B w b) : Below B w a :=
  ⟨h.os.trans hb.os, h.tape.trans hb.tape, h.output.trans hb.output, by rw [h.heap]; exact hb.size, fun k hk => by rw [h.heap]; exact hb.block k hk⟩
def nk (k : Nat) : Int := if k < 4 then 64 * k else 200
set_option maxRecDepth 100000 in
set_option maxHeartbeats 1000000 in
theorem walk_CutKnown (w : World) : Calls Try.prog 6 #[] w fun e w' => e = .returned (.bool true) ∧ Below w.heap.size w w' := by
  obtain ⟨i0, hi, hz0, hz1, hz2⟩ := info_parts info5
  have ZC : Hid (cut zz = zps) := zz_cut
  have Z4 : Hid (zps.length = 4) := rfl
  have ZL : Hid (zz.length = 200) := List.length_replicate
  have Z0 : Hid (cut [] = []) := cut_nil
  have N0 : Hid (([] : List Int).length = 0) := rfl
  have M0 : Hid (([] : List (List Int)).length = 0) := rfl
  go_enter Try.func6, Try.ntmps6
  go_wp2_with (first | (go_at_call 8; refine (awake_any w).mono ?_; rintro e w1 ⟨rfl, hb⟩; have HB1 := Lib.hid hb; clear hb) | (at_make; refine wpList_make_full _ rfl _ _ 22 rfl w1.heap.size 5 i0 (.int .u8 0) 1 Try.underlying22 hi hz0 hz1 _ _ _ _ 200 rfl rfl rfl rfl (by omega) (by decide) (Nat.le_refl _) ?_))
  intro w2 ho hg
  have HY : Hid (Byt w2 (some ⟨w1.heap.size, 0, none⟩) 200 zz) := byt_made ho (by decide)
  have HB2 := Lib.hid (HB1.out.grown hg HB1.out.size (by simp))
  clear ho hg HB1
  generalize w1.heap.size = B at HY ⊢
  go_wp2_with (go_at_call 9; (with_reducible refine (cut_view _ _ _ zz _ _ 4 HY.out ZL.out ZC.out Z4.out).mono ?_); rintro e w3 hv; obtain ⟨g, cap, x0, x1, x2, x3, c0, c1, c2, c3, rfl, hb3, h0, h1, h2, h3⟩ := zz_view hv; have HY3 := Lib.hid (HY.out.below hb3.out); have HB3 := Lib.hid (HB2.out.trans (hb3.out.mono HB2.out.size)); clear hv hb3)
  have H0 := Lib.hid h0
  have H1 := Lib.hid h1
  have H2 := Lib.hid h2
  have H3 := Lib.hid h3
  clear h0 h1 h2 h3
  go_loopw [3, 4] (fun s t wr => ∃ k : Nat, k ≤ 4 ∧ t = .int .i64 k ∧ s = .int .i64 (nk k) ∧ Hid (Same wr w3)) (fun _ t _ => 4 - (intOf t).toNat)
  case atStart => exact ⟨0, by omega, rfl, rfl, Same.refl _⟩
  case round =>
    obtain ⟨k, hk, rfl, rfl, hS⟩ := hrel
    have h0 := hS.out.cell H0.out
    rcases (by omega : k = 0 ∨ k = 1 ∨ k = 2 ∨ k = 3 ∨ k = 4) with rfl | rfl | rfl | rfl | rfl
    · rw [show nk 0 = 0 from rfl, show ((0 : Nat) : Int) = 0 from rfl]
      go_wp2
      go_quiet (fail)
      go_wp2
      go_roundw
      case rel => exact ⟨1, by omega, rfl, rfl, hS.out.drewN _⟩
      case measure => simp [intOf]
    · have h1 := hS.out.cell H1.out
      rw [show nk 1 = 64 from rfl, show ((1 : Nat) : Int) = 1 from rfl]
      go_wp2
      go_quiet (fail)
      go_wp2
      go_roundw
      case rel => exact ⟨2, by omega, rfl, rfl, hS.out.drewN _⟩
      case measure => simp [intOf]
    · have h2 := hS.out.cell H2.out
      rw [show nk 2 = 128 from rfl, show ((2 : Nat) : Int) = 2 from rfl]
      go_wp2
      go_quiet (fail)
      go_wp2
      go_roundw
      case rel => exact ⟨3, by omega, rfl, rfl, hS.out.drewN _⟩
      case measure => simp [intOf]
    · have h3 := hS.out.cell H3.out
      rw [show nk 3 = 192 from rfl, show ((3 : Nat) : Int) = 3 from rfl]
      go_wp2
      go_quiet (fail)
      go_wp2
      go_roundw
      case rel => exact ⟨4, by omega, rfl, rfl, hS.out.drewN _⟩
      case measure => simp [intOf]
    · rw [show nk 4 = 200 from rfl, show ((4 : Nat) : Int) = 4 from rfl]
      have HYw := Lib.hid (hS.out.byt HY3.out)
      have HBw := Lib.hid (hS.out.below HB3.out)
      clear H0 H1 H2 H3 HY3 HB3 hS
      go_wp2
      go_loop [5, 6, 7] (fun h q t => ∃ k : Nat, k ≤ 8 ∧ t = .int .i64 k ∧ h = .int .u32 (kn k).1 ∧ q = .int .u32 (kn k).2) (fun _ _ t => 8 - (intOf t).toNat)
      case atStart => exact ⟨0, by omega, rfl, rfl, rfl⟩
      case round =>
        obtain ⟨k, hk, rfl, rfl, rfl⟩ := hrel
        by_cases hlt : k < 8
        · have hr := kn_range k
          have HS : Hid (kn (k + 1) = (((kn k).1 + (kn k).2) % 4294967296, (kn k).2 * 31 % 4294967296)) := rfl
          generalize (kn k).1 = a at hr HS ⊢
          generalize (kn k).2 = b at hr HS ⊢
          obtain ⟨⟨r1, r2⟩, r3, r4⟩ := hr
          go_wp2
          go_round
          case rel => exact ⟨k + 1, by omega, by go_num, by rw [HS.out], by rw [HS.out]⟩
          case measure => simp [intOf]; omega
        · obtain rfl : k = 8 := by omega
          rw [kn8]
          have z1 := Lib.hid zz_hashes.1
          have z2 := Lib.hid zz_hashes.2.1
          have z3 := Lib.hid zz_hashes.2.2.1
          have z4 := Lib.hid zz_hashes.2.2.2.1
          have z5 := Lib.hid zz_hashes.2.2.2.2
          have y1 := Lib.hid zz_ends.1
          have y2 := Lib.hid zz_ends.2.1
          have y3 := Lib.hid zz_ends.2.2
          have y4 : Hid (endsZ [] 0 = 0) := by show _ = _; decide
          have hbt : bits BinOp.and IntKind.u32 (2659897472 / 65536) 15 = 10 := by decide +kernel
          have KC : Hid (∀ w5, Below wr.heap.size wr w5 → w5.cell? ⟨g, 0, none⟩ = some (.slice (some x0) 64 c0)) := fun w5 hb => (hb.cell (p := ⟨g, 0, none⟩) (World.block_lt_of_cell? wr _ h0)).trans h0
          go_wp2_with (first | (go_at_call 9; (with_reducible refine (cut_view _ _ _ [] _ _ 0 (Byt.none _) N0.out Z0.out M0.out).mono ?_); rintro e w5 ⟨A5, cap5, rfl, _, hb5, hv5⟩; have HY5 := Lib.hid (HYw.out.below hb5); have HB5 := Lib.hid (HBw.out.trans (hb5.mono HBw.out.size)); have h05 := KC.out w5 hb5; clear hv5 hb5) | (go_at_call 11; first | ((with_reducible refine (hash_eq _ _ _ zz 7 _ _ HY5.out ZL.out z1.out).mono ?_); rintro e w' ⟨rfl, rfl⟩) | ((with_reducible refine (hash_eq _ _ _ zz 199 _ _ HY5.out ZL.out z2.out).mono ?_); rintro e w' ⟨rfl, rfl⟩) | ((with_reducible refine (hash_eq _ _ _ zz 0 _ _ HY5.out ZL.out z3.out).mono ?_); rintro e w' ⟨rfl, rfl⟩) | ((with_reducible refine (hash_eq _ _ _ zz (-1) _ _ HY5.out ZL.out z4.out).mono ?_); rintro e w' ⟨rfl, rfl⟩) | ((with_reducible refine (hash_eq _ _ _ zz 200 _ _ HY5.out ZL.out z5.out).mono ?_); rintro e w' ⟨rfl, rfl⟩)) | (go_at_call 13; first | ((with_reducible refine (ends_eq _ _ _ zz 195 _ _ HY5.out ZL.out y1.out).mono ?_); rintro e w' ⟨rfl, rfl⟩) | ((with_reducible refine (ends_eq _ _ _ zz 200 _ _ HY5.out ZL.out y2.out).mono ?_); rintro e w' ⟨rfl, rfl⟩) | ((with_reducible refine (ends_eq _ _ _ zz (-1) _ _ HY5.out ZL.out y3.out).mono ?_); rintro e w' ⟨rfl, rfl⟩) | ((with_reducible refine (ends_eq _ _ _ [] 0 _ _ (Byt.none _) N0.out y4.out).mono ?_); rintro e w' ⟨rfl, rfl⟩)))
          go_ret
          exact ⟨by first | rfl | decide, HB5.out⟩
end Go.Proofs.Ytnfipkbokfmfjaa
