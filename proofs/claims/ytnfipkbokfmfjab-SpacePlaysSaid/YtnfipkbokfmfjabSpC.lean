import Derived.Test.YtnfipkbokfmfjabSpB
import Derived.OpenShut
namespace Go.Proofs.Ytnfipkbokfmfjab
open Go.RowKit

theorem grown_trans {a b c : World} {r s : Option Nat} (h : a.grownBy b r) (k : b.grownBy c s) (hs : ∀ x, s = some x → a.heap.size ≤ x ∨ r = some x) : a.grownBy c r :=
  ⟨k.os.trans h.os, k.tape.trans h.tape, k.output.trans h.output, Nat.le_trans h.size k.size, fun i hi hne => by
    rw [k.block i (Nat.lt_of_lt_of_le hi h.size) (fun e => by rcases hs i e.symm with h1 | h1; · omega
                                                              · exact hne h1.symm)]
    exact h.block i hi hne⟩
theorem SpaceAt.lt {w : World} {base b g : Nat} {bs : List Bool} (h : SpaceAt w base b g bs) : base ≤ b ∧ base ≤ g ∧ b < w.heap.size ∧ g < w.heap.size := by
  obtain ⟨hb, ne, c, hh, own⟩ := h
  exact ⟨hb, (own.lt g rfl).1, (Array.getElem?_eq_some_iff.1 hh).1, (own.lt g rfl).2⟩
theorem SpaceAt.keep {w w' : World} {base b g : Nat} {bs : List Bool} {r : Option Nat} (h : SpaceAt w base b g bs) (hg : w.grownBy w' r) (h1 : r ≠ some b) (h2 : r ≠ some g) : SpaceAt w' base b g bs := by
  have hl := h.lt
  obtain ⟨hb, ne, c, hh, own⟩ := h
  exact ⟨hb, ne, c, by rw [hg.block b hl.2.2.1 (fun e => h1 e.symm)]; exact hh, own.kept hg (.inr (fun e => h2 (by simpa [Value.ownBlock] using e.symm)))⟩
theorem take_some (base b g : Nat) (bs : List Bool) (k : Nat) (w : World) (h : SpaceAt w base b g bs) (hk : idx bs 0 = k) :
    Calls Try.prog 13 #[.pointer (some ⟨b, 0, none⟩)] w fun e w' => e = .returned (.tuple #[.int .i64 k, .bool true]) ∧ SpaceAt w' base b g (bs.set k true) ∧ w.grownBy w' (some g) := by
  refine (take_any _ _ _ _ _ h).mono ?_
  rintro e w' (⟨h1, _, _⟩ | ⟨_, rfl, hs, hg⟩)
  · omega
  · rw [hk] at hs ⊢
    exact ⟨rfl, hs, hg⟩
theorem take_none (base b g : Nat) (bs : List Bool) (w : World) (h : SpaceAt w base b g bs) (hk : idx bs 0 < 0) :
    Calls Try.prog 13 #[.pointer (some ⟨b, 0, none⟩)] w fun e w' => e = .returned (.tuple #[.int .i64 0, .bool false]) ∧ w = w' := by
  refine (take_any _ _ _ _ _ h).mono ?_
  rintro e w' (⟨_, rfl, rfl⟩ | ⟨h1, _, _, _⟩)
  · exact ⟨rfl, rfl⟩
  · omega
set_option maxHeartbeats 400000 in
theorem awake_any (w : World) : Calls Try.prog 8 #[] w fun e w' => e = .returned (.bool true) ∧ w.grownBy w' none := by
  go_enter Try.func8, Try.ntmps8
  go_wp2_with (go_at_call 11; refine (new_any 2 w).mono ?_; rintro e w1 ⟨b, g, rfl, HS, HG⟩)
  have HS1 : Hid (SpaceAt w1 w.heap.size b g [false, false]) := HS
  have HG1 : Hid (w.grownBy w1 none) := HG
  clear HS HG
  go_wp2_with (go_at_call 13; refine (take_some _ _ _ _ 0 _ HS1.out rfl).mono ?_; rintro e w2 ⟨rfl, HS, HG⟩)
  have HS2 : Hid (SpaceAt w2 w.heap.size b g [true, false]) := HS
  have HG2 : Hid (w.grownBy w2 none) := grown_trans HG1.out HG (by rintro x ⟨⟩; exact .inl HS1.out.lt.2.1)
  clear HS HG HS1 HG1
  go_wp2_with (first | (go_at_call 9; refine (segs_any 17 _ (by decide) (by decide)).mono ?_; rintro e w' ⟨rfl, rfl⟩) | (go_at_call 14; refine (free_any _ _ _ _ _ HS2.out).mono ?_; rintro e w' ⟨rfl, rfl⟩) | (go_at_call 10; refine (first_any _ _).mono ?_; rintro e w' ⟨rfl, rfl⟩))
  go_ret
  exact ⟨by first | rfl | decide, HG2.out⟩

theorem below_of_grown {w w' : World} {r : Option Nat} (h : w.grownBy w' r) (hr : ∀ x, r = some x → w.heap.size ≤ x) : Below w.heap.size w w' :=
  ⟨h.os, h.tape, h.output, h.size, fun k hk => h.block k hk (fun e => by have := hr k e.symm; omega)⟩
theorem segs_loop (n : Int) (k : Nat) (h : k ≤ 96) : (segsN n = k) ↔ (k = 0 ∨ (8 ≤ n ∧ k * 8 ≤ n - 8)) ∧ (k = 96 ∨ ¬ (8 ≤ n ∧ (k + 1) * 8 ≤ n - 8)) := by
  unfold segsN
  omega
theorem first_out (n : Int) (w : World) (h : n < 0 ∨ 96 ≤ n) : Calls Try.prog 10 #[.int .i64 n] w fun e w' => e = .returned (.int .i64 (-1)) ∧ w = w' := by
  have := first_any n w
  rwa [show firstN n = -1 by unfold firstN; omega] at this
theorem first_in (n : Int) (w : World) (h : 0 ≤ n) (h2 : n < 96) : Calls Try.prog 10 #[.int .i64 n] w fun e w' => e = .returned (.int .i64 (8 + n * 8)) ∧ w = w' := by
  have := first_any n w
  rwa [show firstN n = 8 + n * 8 by unfold firstN; omega] at this
set_option maxHeartbeats 1000000 in
theorem spaceSegs_any (n seg : Int) (w : World) (h0 : -9223372036854775808 ≤ n) (h1 : n ≤ 9223372036854775807) :
    Calls Try.prog 3 #[.int .i64 n, .int .i64 seg] w fun e w' => e = .returned (.bool true) ∧ Below w.heap.size w w' := by
  go_enter Try.func3, Try.ntmps3
  go_wp2_with (first | (go_at_call 8; refine (awake_any w).mono ?_; rintro e w1 ⟨rfl, HG⟩) | (go_at_call 9; refine (segs_any _ _ h0 h1).mono ?_; rintro e w' ⟨rfl, rfl⟩))
  have HB : Hid (Below w.heap.size w w1) := below_of_grown HG (by simp)
  clear HG
  go_loop [6, 7, 13, 14, 15, 16, 17, 18, 19, 20, 21, 22, 23, 24, 25, 26] (fun r i _ _ _ _ _ _ _ _ _ _ _ _ _ _ => ∃ k : Nat, k ≤ 96 ∧ i = .int .i64 k ∧ r = .int .i64 k ∧ (k = 0 ∨ (8 ≤ n ∧ k * 8 ≤ n - 8))) (fun _ i _ _ _ _ _ _ _ _ _ _ _ _ _ _ => 96 - (intOf i).toNat)
  case atStart => exact ⟨0, by omega, rfl, rfl, .inl rfl⟩
  case round =>
    obtain ⟨k, hk, rfl, rfl, hj⟩ := hrel
    rcases (by omega : (k < 96 ∧ 8 ≤ n ∧ (k + 1) * 8 ≤ n - 8) ∨ (k < 96 ∧ 8 ≤ n ∧ n - 8 < (k + 1) * 8) ∨ (k < 96 ∧ n < 8) ∨ k = 96) with ⟨c1, c2, c3⟩ | ⟨c1, c2, c3⟩ | ⟨c1, c2⟩ | c1
    · clear hj
      go_wp2
      go_round
      case rel => exact ⟨k + 1, by omega, by go_num, by go_num, .inr ⟨by omega, by omega⟩⟩
      case measure => simp [intOf]; omega
    all_goals
      have hs : segsN n = k := by unfold segsN; omega
      have hsn : 0 ≤ segsN n → 1 ≤ segsN n → 8 + (segsN n - 1) * 8 + 8 ≤ n := by unfold segsN; omega
      rw [hs] at hsn
      clear hj
      rcases (by omega : seg < 0 ∨ 96 ≤ seg ∨ (0 ≤ seg ∧ seg < 96 ∧ k ≤ seg) ∨ (0 ≤ seg ∧ seg < 96 ∧ seg < k)) with d1 | d1 | ⟨d0, d1, d2⟩ | ⟨d0, d1, d2⟩
      · go_wp2_with (go_at_call 10; refine (first_out _ _ (.inl d1)).mono ?_; rintro e w' ⟨rfl, rfl⟩)
        all_goals (go_ret; exact ⟨rfl, HB.out⟩)
      · go_wp2_with (go_at_call 10; refine (first_out _ _ (.inr d1)).mono ?_; rintro e w' ⟨rfl, rfl⟩)
        all_goals (go_ret; exact ⟨rfl, HB.out⟩)
      · go_wp2_with (go_at_call 10; refine (first_in _ _ d0 d1).mono ?_; rintro e w' ⟨rfl, rfl⟩)
        all_goals (go_ret; exact ⟨rfl, HB.out⟩)
      · have d3 : 8 + seg * 8 + 8 ≤ n := by omega
        go_wp2_with (go_at_call 10; refine (first_in _ _ d0 d1).mono ?_; rintro e w' ⟨rfl, rfl⟩)
        all_goals (go_ret; exact ⟨rfl, HB.out⟩)
/-- What the walk is told of a slice of integers that came in. -/
def IsRow (k : IntKind) (w : World) (a : Option Addr) (len cap : Nat) (zs : List Int) : Prop :=
  (a = none ∧ len = 0 ∧ cap = 0 ∧ zs = []) ∨
  ∃ x, a = some x ∧ len ≤ cap ∧ cap ≤ maxLen ∧ zs.length = cap ∧ (∀ i, i < zs.length → w.cell? (x.add i) = some (.int k (zs.getD i 0))) ∧ ∀ n ∈ zs, (Lit.int k n).wf = true
/-- .. of a slice of bools. -/
def IsBools (w : World) (a : Option Addr) (len cap : Nat) (B : Nat → Bool) : Prop :=
  (a = none ∧ len = 0 ∧ cap = 0) ∨ ∃ x, a = some x ∧ len ≤ cap ∧ cap ≤ maxLen ∧ ∀ i, i < cap → w.cell? (x.add i) = some (.bool (B i))
theorem walk_SpaceSegs (n seg : Int) (w : World) (w0 : (Lit.int .i64 n).wf = true) (_w1 : (Lit.int .i64 seg).wf = true) :
    Calls Try.prog 3 #[.int .i64 n, .int .i64 seg] w fun e w' => e = .returned (.bool true) ∧ Below w.heap.size w w' := by
  have := bounds_i64 w0
  exact spaceSegs_any n seg w (by omega) (by omega)
end Go.Proofs.Ytnfipkbokfmfjab
