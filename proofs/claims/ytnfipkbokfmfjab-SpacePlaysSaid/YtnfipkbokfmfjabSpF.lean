import Derived.Test.YtnfipkbokfmfjabSpE
import Derived.Deep.Onto
namespace Go.Proofs.Ytnfipkbokfmfjab
open Go.RowKit
/-- The first a of k are taken. -/
def fi (k a : Nat) : List Bool := List.replicate a true ++ List.replicate (k - a) false
theorem fi_len (k a : Nat) (h : a ≤ k) : (fi k a).length = k := by simp [fi]; omega
theorem fi_zero (k : Nat) : fi k 0 = List.replicate k false := by simp [fi]
theorem frees_fi (k a : Nat) : frees (fi k a) = k - a := by
  have h1 := frees_replicate a true
  have h2 := frees_replicate (k - a) false
  unfold frees fi at *
  rw [List.countP_append, h1, h2]; simp
theorem take_fi (base b g k a : Nat) (w : World) (h : SpaceAt w base b g (fi k a)) (ha : a < k) :
    Calls Try.prog 13 #[.pointer (some ⟨b, 0, none⟩)] w fun e w' => e = .returned (.tuple #[.int .i64 a, .bool true]) ∧ SpaceAt w' base b g (fi k (a + 1)) ∧ w.grownBy w' (some g) := by
  have h1 : idx (fi k a) 0 = a := by unfold fi; rw [idx_first, if_neg (by omega)]
  refine (take_some _ _ _ _ a _ h h1).mono ?_
  rintro e w' ⟨he, hs, hg⟩
  refine ⟨he, ?_, hg⟩
  unfold fi at *
  obtain ⟨m, hm⟩ : ∃ m, k - a = m + 1 := ⟨k - a - 1, by omega⟩
  rw [hm, set_first] at hs
  rw [show k - (a + 1) = m by omega]
  exact hs
theorem take_fi_no (base b g k : Nat) (w : World) (h : SpaceAt w base b g (fi k k)) :
    Calls Try.prog 13 #[.pointer (some ⟨b, 0, none⟩)] w fun e w' => e = .returned (.tuple #[.int .i64 0, .bool false]) ∧ w = w' :=
  take_none _ _ _ _ _ h (by unfold fi; rw [idx_first]; simp)
theorem free_fi (base b g k a : Nat) (w : World) (h : SpaceAt w base b g (fi k a)) (ha : a ≤ k) :
    Calls Try.prog 14 #[.pointer (some ⟨b, 0, none⟩)] w fun e w' => e = .returned (.int .i64 ((k : Int) - a)) ∧ w = w' := by
  have := free_eq _ _ _ _ (k - a) _ h (frees_fi k a)
  rwa [show ((k - a : Nat) : Int) = (k : Int) - a by omega] at this

structure Two (wr w : World) (B b g c d k s t : Nat) : Prop where
  hS : SpaceAt wr B b g (fi k s)
  hC : SpaceAt wr B c d (fi k t)
  hB : Below w.heap.size w wr
  h0 : w.heap.size ≤ B
  n1 : g ≠ c
  n2 : g ≠ d
  n3 : d ≠ b
theorem Two.fst {wr w w' : World} {B b g c d k s t s' : Nat} (h : Two wr w B b g c d k s t) (hs : SpaceAt w' B b g (fi k s')) (hg : wr.grownBy w' (some g)) : Two w' w B b g c d k s' t :=
  ⟨hs, h.hC.keep hg (by simpa using h.n1) (by simpa using h.n2), h.hB.grown hg h.hB.size (by rintro x ⟨⟩; exact Nat.le_trans h.h0 h.hS.lt.2.1), h.h0, h.n1, h.n2, h.n3⟩
theorem Two.snd {wr w w' : World} {B b g c d k s t t' : Nat} (h : Two wr w B b g c d k s t) (hs : SpaceAt w' B c d (fi k t')) (hg : wr.grownBy w' (some d)) : Two w' w B b g c d k s t' :=
  ⟨h.hS.keep hg (by simpa using h.n3) (by have := h.n2; simp; omega), hs, h.hB.grown hg h.hB.size (by rintro x ⟨⟩; exact Nat.le_trans h.h0 h.hC.lt.2.1), h.h0, h.n1, h.n2, h.n3⟩

theorem Addr.add_block (x : Addr) (n : Nat) : (x.add n).block = x.block := by unfold Addr.add; split <;> rfl
set_option maxHeartbeats 400000 in
theorem spaceCopies_any (n : Nat) (a : Option Addr) (len cap : Nat) (z : Nat → Bool) (w : World) (hn : n < 256) (hb : IsBools w a len cap z) :
    Calls Try.prog 6 #[.int .u8 n, .slice a len cap] w fun e w' => e = .returned (.bool true) ∧ Below w.heap.size w w' := by
  obtain ⟨k, HK⟩ : ∃ k, Hid (k = n % 20) := ⟨_, rfl⟩
  have hk97 : k < 20 := by have := HK.out; omega
  have hmod : (n : Int) % 20 = k := by have := HK.out; omega
  have hlen : len ≤ 9223372036854775807 := by
    rcases hb with ⟨_, h, _⟩ | ⟨_, _, h, h2, _⟩
    · omega
    · unfold maxLen at h2; omega
  have HC : Hid (∀ j, j < len → ∃ x, a = some x ∧ w.cell? (x.add j) = some (.bool (z j))) := by
    intro j hj
    rcases hb with ⟨_, h, _⟩ | ⟨x, hx, h, _, h2⟩
    · omega
    · exact ⟨x, hx, h2 j (by omega)⟩
  clear hb
  by_cases hbig : 100 < len
  · go_enter Try.func6, Try.ntmps6
    go_wp2_with (first | (go_at_call 8; refine (awake_any w).mono ?_; rintro e w1 ⟨rfl, HG⟩) | (go_at_call 11; refine (new_nat k (by omega) _).mono ?_; rintro e w2 ⟨b, g, rfl, HS, HG2⟩))
    go_ret
    exact ⟨rfl, (below_of_grown HG (by simp)).trans (below_of_grown' HG2 HG.size)⟩
  · go_enter Try.func6, Try.ntmps6
    go_wp2_with (go_at_call 8; refine (awake_any w).mono ?_; rintro e w1 ⟨rfl, HG⟩)
    have HB1 : Hid (Below w.heap.size w w1) := below_of_grown HG (by simp)
    clear HG
    go_wp2_with (go_at_call 11; refine (new_nat k (by omega) _).mono ?_; rintro e w2 ⟨b, g, rfl, HS, HG⟩)
    have HB2 : Hid (Below w.heap.size w w2) := HB1.out.trans (below_of_grown' HG HB1.out.size)
    have HS2 : Hid (SpaceAt w2 w1.heap.size b g (fi k 0)) := by show SpaceAt _ _ _ _ _; rw [fi_zero]; exact HS
    have hsz : Hid (w.heap.size ≤ w1.heap.size) := HB1.out.size
    clear HS HG HB1
    go_wp2_with (go_at_call 16; refine (copy_any _ _ _ _ _ HS2.out (by rw [fi_len _ _ (by omega)]; omega)).mono ?_; rintro e w3 ⟨c, d, rfl, HS, HG⟩)
    have HT : Hid (Two w3 w w1.heap.size b g c d k 0 0) := by
      have l1 := HS2.out.lt
      have l2 := HS.lt
      have l3 := HB2.out.size
      have l4 := hsz.out
      exact ⟨HS2.out.keep HG (by simp) (by simp), ⟨by omega, HS.ne, by
        obtain ⟨c', h1, h2⟩ := HS.st
        exact ⟨c', h1, World.ownsRow.mono h2 (by omega)⟩⟩, HB2.out.trans (below_of_grown' HG l3), l4, by omega, by omega, by omega⟩
    clear HS HG HB2 HS2 hsz
    go_loopw [8, 9, 10, 11, 12, 13, 14] (fun s t i _ _ _ _ wr => ∃ j p q : Nat, j ≤ len ∧ i = .int .i64 j ∧ s = .int .i64 p ∧ t = .int .i64 q ∧ p ≤ k ∧ q ≤ k ∧ Hid (Two wr w w1.heap.size b g c d k p q)) (fun _ _ i _ _ _ _ _ => len - (intOf i).toNat)
    case atStart => exact ⟨0, 0, 0, by omega, rfl, rfl, rfl, by omega, by omega, HT⟩
    case round =>
      clear HT
      obtain ⟨j, p, q, hj, rfl, rfl, rfl, hp, hq, hT⟩ := hrel
      by_cases hlt : j < len
      · obtain ⟨x, rfl, hc⟩ := HC.out j hlt
        have hcell : wr.cell? (x.add j) = some (.bool (z j)) := (hT.out.hB.cell (p := x.add j) (World.block_lt_of_cell? w _ hc)).trans hc
        have hc' := hc
        clear hc
        have hxl : x.block < w.heap.size := by have := World.block_lt_of_cell? w (x.add j) hc'; rwa [Addr.add_block] at this
        clear hc'
        have KCs : Hid (∀ w4, wr.grownBy w4 (some g) → w4.cell? (x.add j) = some (.bool (z j))) := fun w4 HG => HG.cell hcell (by have := hT.out.hS.lt; have := hT.out.h0; simp [Addr.add_block]; omega)
        have KCc : Hid (∀ w4, wr.grownBy w4 (some d) → w4.cell? (x.add j) = some (.bool (z j))) := fun w4 HG => HG.cell hcell (by have := hT.out.hC.lt; have := hT.out.h0; simp [Addr.add_block]; omega)
        generalize z j = zj at hcell KCs KCc
        cases zj
        · by_cases hpk : p < k
          · go_wp2_with (go_at_call 13; refine (take_fi _ _ _ _ _ _ hT.out.hS hpk).mono ?_; rintro e w4 ⟨rfl, HS, HG⟩; have hT4 := Lib.hid (hT.out.fst HS HG); have hcell4 := KCs.out w4 HG)
            clear HS HG hT hcell KCs KCc
            go_wp2_with (go_at_call 14; first | ((with_reducible refine (free_fi _ _ _ _ _ _ hT4.out.hS (by omega)).mono ?_); rintro e w' ⟨rfl, rfl⟩) | ((with_reducible refine (free_fi _ _ _ _ _ _ hT4.out.hC (by omega)).mono ?_); rintro e w' ⟨rfl, rfl⟩))
            go_roundw
            case rel => exact ⟨j + 1, p + 1, q, by omega, by go_num, by go_num, rfl, by omega, by omega, hT4⟩
            case measure => simp [intOf]; omega
          · obtain rfl : k = p := by omega
            go_wp2_with (go_at_call 13; refine (take_fi_no _ _ _ _ _ hT.out.hS).mono ?_; rintro e w' ⟨rfl, rfl⟩)
            go_wp2_with (go_at_call 14; first | ((with_reducible refine (free_fi _ _ _ _ _ _ hT.out.hS (by omega)).mono ?_); rintro e w' ⟨rfl, rfl⟩) | ((with_reducible refine (free_fi _ _ _ _ _ _ hT.out.hC (by omega)).mono ?_); rintro e w' ⟨rfl, rfl⟩))
            go_roundw
            case rel => exact ⟨j + 1, k, q, by omega, by go_num, rfl, rfl, by omega, by omega, hT⟩
            case measure => simp [intOf]; omega
        · by_cases hpk : q < k
          · go_wp2_with (go_at_call 13; refine (take_fi _ _ _ _ _ _ hT.out.hC hpk).mono ?_; rintro e w4 ⟨rfl, HS, HG⟩; have hT4 := Lib.hid (hT.out.snd HS HG); have hcell4 := KCc.out w4 HG)
            clear HS HG hT hcell KCs KCc
            go_wp2_with (go_at_call 14; first | ((with_reducible refine (free_fi _ _ _ _ _ _ hT4.out.hS (by omega)).mono ?_); rintro e w' ⟨rfl, rfl⟩) | ((with_reducible refine (free_fi _ _ _ _ _ _ hT4.out.hC (by omega)).mono ?_); rintro e w' ⟨rfl, rfl⟩))
            go_roundw
            case rel => exact ⟨j + 1, p, q + 1, by omega, by go_num, rfl, by go_num, by omega, by omega, hT4⟩
            case measure => simp [intOf]; omega
          · obtain rfl : k = q := by omega
            go_wp2_with (go_at_call 13; refine (take_fi_no _ _ _ _ _ hT.out.hC).mono ?_; rintro e w' ⟨rfl, rfl⟩)
            go_wp2_with (go_at_call 14; first | ((with_reducible refine (free_fi _ _ _ _ _ _ hT.out.hS (by omega)).mono ?_); rintro e w' ⟨rfl, rfl⟩) | ((with_reducible refine (free_fi _ _ _ _ _ _ hT.out.hC (by omega)).mono ?_); rintro e w' ⟨rfl, rfl⟩))
            go_roundw
            case rel => exact ⟨j + 1, p, k, by omega, by go_num, rfl, rfl, by omega, by omega, hT⟩
            case measure => simp [intOf]; omega
      · go_wp2
        go_ret
        exact ⟨rfl, hT.out.hB⟩
theorem walk_SpaceCopies (n : Int) (a : Option Addr) (len cap : Nat) (z : Nat → Bool) (w : World) (w0 : (Lit.int .u8 n).wf = true) (w1 : IsBools w a len cap z) :
    Calls Try.prog 6 #[.int .u8 n, .slice a len cap] w fun e w' => e = .returned (.bool true) ∧ Below w.heap.size w w' := by
  have h0 := bounds_u8 w0
  obtain ⟨m, rfl⟩ : ∃ m : Nat, n = m := ⟨n.toNat, by omega⟩
  exact spaceCopies_any m a len cap z w (by omega) w1
end Go.Proofs.Ytnfipkbokfmfjab
