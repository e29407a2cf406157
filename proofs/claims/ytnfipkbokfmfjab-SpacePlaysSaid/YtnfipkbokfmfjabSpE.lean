import Derived.Test.YtnfipkbokfmfjabSpD
namespace Go.Proofs.Ytnfipkbokfmfjab
open Go.RowKit
theorem below_of_grown' {B : Nat} {w w' : World} {r : Option Nat} (h : w.grownBy w' r) (hB : B ≤ w.heap.size) (hr : ∀ x, r = some x → B ≤ x := by simp) : Below B w w' :=
  ⟨h.os, h.tape, h.output, h.size, fun k hk => h.block k (by omega) (fun e => by have := hr k e.symm; omega)⟩
set_option maxHeartbeats 2000000 in
theorem spaceAll_any (n o : Nat) (w : World) (hn : n < 256) (ho : o < 256) :
    Calls Try.prog 5 #[.int .u8 n, .int .u8 o] w fun e w' => e = .returned (.bool true) ∧ Below w.heap.size w w' := by
  obtain ⟨k, HK⟩ : ∃ k, Hid (k = n % 97) := ⟨_, rfl⟩
  have hk97 : k < 97 := by have := HK.out; omega
  have hmod : (n : Int) % 97 = k := by have := HK.out; omega
  go_enter Try.func5, Try.ntmps5
  go_wp2_with (go_at_call 8; refine (awake_any w).mono ?_; rintro e w1 ⟨rfl, HG⟩)
  have HB1 : Hid (Below w.heap.size w w1) := below_of_grown HG (by simp)
  clear HG
  go_wp2_with (go_at_call 11; refine (new_nat k (by omega) _).mono ?_; rintro e w2 ⟨b, g, rfl, HS, HG⟩)
  have HB2 : Hid (Below w.heap.size w w2) := HB1.out.trans (below_of_grown' HG HB1.out.size)
  have HS2 : Hid (SpaceAt w2 w1.heap.size b g (List.replicate k false)) := HS
  have hsz : Hid (w.heap.size ≤ w1.heap.size) := HB1.out.size
  clear HS HG HB1
  go_loopw [7, 8, 9] (fun i _ _ wr => ∃ j m : Nat, Hid (j + m = k) ∧ i = .int .i64 j ∧ Hid (SpaceAt wr w1.heap.size b g (List.replicate j true ++ List.replicate m false)) ∧ Hid (Below w.heap.size w wr)) (fun i _ _ _ => k - (intOf i).toNat)
  case atStart => exact ⟨0, k, by show _ = _; omega, rfl, by simpa using HS2, HB2⟩
  case round =>
    obtain ⟨j, m, hj, rfl, hS, hB⟩ := hrel
    by_cases hlt : j < k
    · obtain ⟨m, rfl⟩ : ∃ m', m = m' + 1 := ⟨m - 1, by have := hj.out; omega⟩
      go_wp2_with (go_at_call 13; refine (take_some _ _ _ _ j _ hS.out (by rw [idx_first]; simp)).mono ?_; rintro e w3 ⟨rfl, HS, HG⟩)
      have HS3 : Hid (SpaceAt w3 w1.heap.size b g (List.replicate (j + 1) true ++ List.replicate m false)) := by rw [set_first] at HS; exact HS
      have HB3 : Hid (Below w.heap.size w w3) := hB.out.grown HG hB.out.size (by rintro x ⟨⟩; exact Nat.le_trans hsz.out hS.out.lt.2.1)
      clear HS HG
      go_wp2
      go_roundw
      case rel => exact ⟨j + 1, m, by show _ = _; have := hj.out; omega, by go_num, HS3, HB3⟩
      case measure => simp [intOf]; omega
    · obtain rfl : k = j := by have := hj.out; omega
      obtain rfl : m = 0 := by have := hj.out; omega
      have HS3 : Hid (SpaceAt wr w1.heap.size b g (turned k (o % k) 0)) := by show SpaceAt _ _ _ _ _; rw [turned_zero]; simpa using hS.out
      have hfr : Hid (frees (List.replicate k true ++ List.replicate 0 false) = 0) := by show _ = _; rw [List.replicate_zero, List.append_nil, frees_replicate]; rfl
      go_wp2_with (first | (go_at_call 13; refine (take_none _ _ _ _ _ hS.out (by rw [idx_first]; simp)).mono ?_; rintro e w' ⟨rfl, rfl⟩) | (go_at_call 14; refine (free_eq _ _ _ _ 0 _ hS.out hfr.out).mono ?_; rintro e w' ⟨rfl, rfl⟩))
      clear hfr hS hj hlt
      go_loopw [12] (fun i wr => ∃ j : Nat, j ≤ k ∧ i = .int .i64 j ∧ Hid (SpaceAt wr w1.heap.size b g (turned k (o % k) j)) ∧ Hid (Below w.heap.size w wr)) (fun i _ => k - (intOf i).toNat)
      case atStart => exact ⟨0, by omega, rfl, HS3, hB⟩
      case round =>
        clear HS3 hB
        obtain ⟨j, hj, rfl, hS, hB⟩ := hrel
        by_cases hlt : j < k
        · have hr : o % k < k := Nat.mod_lt _ (by omega)
          obtain ⟨q, HQ⟩ : ∃ q, Hid (q = if j + o % k < k then j + o % k else j + o % k - k) := ⟨_, rfl⟩
          have hmq : ((j : Int) + (o : Int)) % (k : Int) = q := by rw [HQ.out]; exact mod_add _ _ _ hlt
          obtain ⟨T1, T2, T3⟩ := turned_set k (o % k) j hr hlt q HQ.out
          have HT2 := Lib.hid T2
          have HT3 := Lib.hid T3
          have HL := Lib.hid (turned_len k (o % k) j)
          clear T2 T3 hr
          have hkp : 0 < k := by omega
          go_wp2_with (go_at_call 15; refine (give_yes _ _ _ _ q _ hS.out (by rw [HL.out]; exact T1) HT2.out).mono ?_; rintro e w3 ⟨rfl, HS, HG⟩)
          have HS3 : Hid (SpaceAt w3 w1.heap.size b g (turned k (o % k) (j + 1))) := by rw [HT3.out] at HS; exact HS
          have HB3 : Hid (Below w.heap.size w w3) := hB.out.grown HG hB.out.size (by rintro x ⟨⟩; exact Nat.le_trans hsz.out hS.out.lt.2.1)
          clear HS HG
          go_wp2
          go_roundw
          case rel => exact ⟨j + 1, by omega, by go_num, HS3, HB3⟩
          case measure => simp [intOf]; omega
        · obtain rfl : k = j := by omega
          by_cases hk0 : k = 0
          · subst hk0
            have HS3 : Hid (SpaceAt wr w1.heap.size b g []) := by show SpaceAt _ _ _ _ _; have := hS.out; simpa [turned] using this
            clear hS
            go_wp2_with (first | (go_at_call 13; refine (take_none _ _ _ _ _ HS3.out (by decide)).mono ?_; rintro e w' ⟨rfl, rfl⟩) | (go_at_call 15; refine (give_no _ _ _ _ _ _ HS3.out (.inr (.inl (by simp)))).mono ?_; rintro e w' ⟨rfl, rfl⟩) | (go_at_call 12; refine (claim_no _ _ _ _ _ _ HS3.out (.inl (by omega))).mono ?_; rintro e w' ⟨rfl, rfl⟩))
            go_ret
            exact ⟨by first | rfl | decide, hB.out⟩
          · obtain ⟨m, rfl⟩ : ∃ m, k = m + 1 := ⟨k - 1, by omega⟩
            have HS3 : Hid (SpaceAt wr w1.heap.size b g (List.replicate (m + 1) false)) := by have := hS.out; rw [turned_all _ _ (Nat.mod_lt _ (by omega))] at this; exact this
            clear hS
            go_wp2_with (go_at_call 13; refine (take_some _ _ _ _ 0 _ HS3.out (by have := idx_first 0 (m + 1); simpa using this)).mono ?_; rintro e w3 ⟨rfl, HS, HG⟩)
            have HS4 : Hid (SpaceAt w3 w1.heap.size b g (true :: List.replicate m false)) := HS
            have HB3 : Hid (Below w.heap.size w w3) := hB.out.grown HG hB.out.size (by rintro x ⟨⟩; exact Nat.le_trans hsz.out HS3.out.lt.2.1)
            have hfr : Hid (frees (true :: List.replicate m false) = m) := by show _ = _; have := frees_replicate m false; unfold frees at *; simpa using this
            clear HS HG HS3
            go_wp2_with (first | (go_at_call 14; refine (free_eq _ _ _ _ m _ HS4.out hfr.out).mono ?_; rintro e w' ⟨rfl, rfl⟩) | (go_at_call 15; refine (give_no _ _ _ _ _ _ HS4.out (.inr (.inl (by simp)))).mono ?_; rintro e w' ⟨rfl, rfl⟩) | (go_at_call 12; refine (claim_no _ _ _ _ _ _ HS4.out (.inl (by omega))).mono ?_; rintro e w' ⟨rfl, rfl⟩))
            go_ret
            exact ⟨by first | rfl | simp, HB3.out⟩
theorem walk_SpaceAll (n o : Int) (w : World) (w0 : (Lit.int .u8 n).wf = true) (w1 : (Lit.int .u8 o).wf = true) :
    Calls Try.prog 5 #[.int .u8 n, .int .u8 o] w fun e w' => e = .returned (.bool true) ∧ Below w.heap.size w w' := by
  have h0 := bounds_u8 w0
  have h1 := bounds_u8 w1
  obtain ⟨a, rfl⟩ : ∃ a : Nat, n = a := ⟨n.toNat, by omega⟩
  obtain ⟨b, rfl⟩ : ∃ b : Nat, o = b := ⟨o.toNat, by omega⟩
  exact spaceAll_any a b w (by omega) (by omega)
end Go.Proofs.Ytnfipkbokfmfjab
