import Derived.Test.YtnfipkbokfmfjaaRows
import Derived.Test.YtnfipkbokfmfjaaCutA
import Derived.WalkKit
import Derived.WalkSpells
import Derived.WalkLawsBesides
import Derived.Lib.Hide
import Derived.OpenShut
namespace Go.Proofs.Ytnfipkbokfmfjaa
open Go.RowKit
theorem ret_int {k : IntKind} {a b : Int} (h : a = b) : Ending.returned (.int k a) = .returned (.int k b) := by rw [h]
/-- A slice of bytes reads as a list of numbers. -/
structure Byt (w : World) (A : Option Addr) (cap : Nat) (l : List Int) : Prop where
  le : l.length ≤ cap
  small : l.length ≤ 1000000
  cell : ∀ j, j < l.length → ∃ x, A = some x ∧ w.cell? (x.add j) = some (.int .u8 (l.getD j 0)) ∧ 0 ≤ l.getD j 0 ∧ l.getD j 0 ≤ 255
theorem hash_out (A : Option Addr) (n cap : Nat) (i : Int) (w : World) (hi : i < 0 ∨ n ≤ i) :
    Calls Try.prog 11 #[.slice A n cap, .int .i64 i] w fun e w' => e = .returned (.int .u32 0) ∧ w = w' := by
  rcases hi with h | h
  · go_enter Try.func11, Try.ntmps11
    go_wp2
    go_ret
    exact ⟨rfl, rfl⟩
  · by_cases h2 : i < 0
    · go_enter Try.func11, Try.ntmps11
      go_wp2
      go_ret
      exact ⟨rfl, rfl⟩
    · go_enter Try.func11, Try.ntmps11
      go_wp2
      go_ret
      exact ⟨rfl, rfl⟩
set_option maxHeartbeats 400000 in
theorem hash_in (A : Option Addr) (n cap : Nat) (l : List Int) (i : Nat) (w : World) (h : Byt w A cap l) (hn : l.length = n) (hi : i < n) :
    Calls Try.prog 11 #[.slice A n cap, .int .i64 i] w fun e w' => e = .returned (.int .u32 (hash l i)) ∧ w = w' := by
  obtain ⟨hle, hsm, hcell⟩ := h
  have hn6 : n ≤ 1000000 := by omega
  have HN := Lib.hid hn
  have HC := Lib.hid hcell
  clear hcell hn hle hsm
  obtain ⟨x, rfl, _⟩ := HC.out i (by have := HN.out; omega)
  obtain ⟨k0, hk0⟩ : ∃ k0, Hid (k0 = i + 1 - 8) := ⟨_, rfl⟩
  have hk0i : k0 ≤ i := by have := hk0.out; omega
  have start : (i < 7 ∧ Hid (k0 = 0)) ∨ (7 ≤ i ∧ Hid ((i : Int) - 8 + 1 = k0)) := by
    have := hk0.out
    by_cases h : i < 7
    · exact .inl ⟨h, by show _ = _; omega⟩
    · exact .inr ⟨by omega, by show _ = _; omega⟩
  rcases start with ⟨h7, hS⟩ | ⟨h7, hS⟩
  all_goals
    go_enter Try.func11, Try.ntmps11
    go_wp2
    go_loop [5, 6] (fun h q => ∃ k : Nat, k0 ≤ k ∧ k ≤ i + 1 ∧ q = .int .i64 k ∧ h = .int .u32 (((l.take k).drop k0).foldl hs 0)) (fun _ q => i + 1 - (intOf q).toNat)
    case atStart => exact ⟨k0, by omega, by omega, (by first | (rw [hS.out]; rfl) | rw [hS.out]), by rw [List.drop_eq_nil_of_le (by simp; omega)]; rfl⟩
    case round =>
      obtain ⟨k, hk1, hk2, rfl, rfl⟩ := hrel
      by_cases hlt : k ≤ i
      · obtain ⟨y, hy, hc, hb0, hb1⟩ := HC.out k (by have := HN.out; omega)
        cases hy
        have HSTEP := Lib.hid (hash_step l k0 k hk1 (by have := HN.out; omega))
        have hfr := foldl_range ((l.take k).drop k0)
        generalize ((l.take k).drop k0).foldl hs 0 = F at hfr HSTEP ⊢
        generalize l.getD k 0 = v at hc hb0 hb1 HSTEP
        obtain ⟨hfr0, hfr1⟩ := hfr
        go_wp2
        go_round
        case rel => exact ⟨k + 1, by omega, by omega, by go_num, by rw [HSTEP.out]; unfold hs; go_num⟩
        case measure => simp [intOf]; omega
      · obtain rfl : k = i + 1 := by omega
        go_wp2
        go_ret
        exact ⟨ret_int (by unfold hash; rw [← hk0.out]), rfl⟩
theorem hash_any (A : Option Addr) (n cap : Nat) (l : List Int) (i : Int) (w : World) (h : Byt w A cap l) (hn : l.length = n) :
    Calls Try.prog 11 #[.slice A n cap, .int .i64 i] w fun e w' => e = .returned (.int .u32 (hashZ l i)) ∧ w = w' := by
  unfold hashZ
  split
  · rename_i hi
    obtain ⟨k, rfl⟩ : ∃ k : Nat, i = k := ⟨i.toNat, by omega⟩
    rw [Int.toNat_natCast]
    exact hash_in A n cap l k w h hn (by omega)
  · exact hash_out A n cap i w (by omega)
/-- Alike but for whole rounds of 2^32. -/
def Cg (a b : Int) : Prop := ∃ t, a = b + 4294967296 * t
theorem Cg.refl (a : Int) : Cg a a := ⟨0, by omega⟩
theorem Cg.mod (a : Int) : Cg (a % 4294967296) a := ⟨-(a / 4294967296), by omega⟩
theorem Cg.trans {a b c : Int} (h : Cg a b) (k : Cg b c) : Cg a c := by
  obtain ⟨s, rfl⟩ := h; obtain ⟨t, rfl⟩ := k; exact ⟨s + t, by omega⟩
theorem Cg.add {a b c d : Int} (h : Cg a b) (k : Cg c d) : Cg (a + c) (b + d) := by
  obtain ⟨s, rfl⟩ := h; obtain ⟨t, rfl⟩ := k; exact ⟨s + t, by omega⟩
theorem Cg.mul {a b c d : Int} (h : Cg a b) (k : Cg c d) : Cg (a * c) (b * d) := by
  obtain ⟨s, rfl⟩ := h; obtain ⟨t, rfl⟩ := k; exact ⟨b * t + s * d + 4294967296 * s * t, by grind⟩
theorem Cg.eq {a b : Int} (h : Cg a b) (h0 : 0 ≤ a) (h1 : a < 4294967296) (k0 : 0 ≤ b) (k1 : b < 4294967296) : a = b := by
  obtain ⟨s, rfl⟩ := h; omega
/-- What the reference's loop has behind k rounds: the sum, the power. -/
def refh (l : List Int) (i : Nat) : Nat → Int × Int
  | 0 => (0, 1)
  | k + 1 => (((refh l i k).1 + (l.getD (i - k) 0 + 1) * (refh l i k).2 % 4294967296) % 4294967296, (refh l i k).2 * 31 % 4294967296)
theorem refh_range (l : List Int) (i k : Nat) : (0 ≤ (refh l i k).1 ∧ (refh l i k).1 < 4294967296) ∧ 0 ≤ (refh l i k).2 ∧ (refh l i k).2 < 4294967296 := by
  cases k with
  | zero => simp [refh]
  | succ k => simp only [refh]; omega
theorem hs_cg (h b : Int) : Cg (hs h b) (h * 31 + b + 1) := by
  unfold hs
  refine (Cg.mod _).trans (.add ?_ (.refl _))
  exact (Cg.mod _).trans (.add (Cg.mod _) (Cg.mod _))
theorem refh_cg (l : List Int) (i : Nat) (hi : i < l.length) (k : Nat) (hk : k ≤ i + 1) : ∀ H, Cg (((l.take (i + 1)).drop (i + 1 - k)).foldl hs H) (H * (refh l i k).2 + (refh l i k).1) := by
  induction k with
  | zero => intro H; rw [List.drop_eq_nil_of_le (by simp; omega)]; simp [refh]; exact .refl _
  | succ k ih =>
    intro H
    have hd : (l.take (i + 1)).drop (i + 1 - (k + 1)) = l.getD (i - k) 0 :: (l.take (i + 1)).drop (i + 1 - k) := by
      rw [List.drop_eq_getElem_cons (by simp; omega)]
      congr 1
      · simp [List.getD, show i + 1 - (k + 1) = i - k by omega, show i - k < l.length by omega]
      · rw [show i + 1 - (k + 1) + 1 = i + 1 - k by omega]
    rw [hd, List.foldl_cons]
    refine (ih (by omega) _).trans ?_
    simp only [refh]
    generalize l.getD (i - k) 0 = v
    generalize (refh l i k).1 = h
    generalize (refh l i k).2 = p
    have h1 : Cg (hs H v * p + h) ((H * 31 + v + 1) * p + h) := .add (.mul (hs_cg H v) (.refl _)) (.refl _)
    have h2 : Cg (H * (p * 31 % 4294967296) + (h + (v + 1) * p % 4294967296) % 4294967296) (H * (p * 31) + (h + (v + 1) * p)) :=
      .add (.mul (.refl _) (Cg.mod _)) ((Cg.mod _).trans (.add (.refl _) (Cg.mod _)))
    obtain ⟨s, hs1⟩ := h1
    obtain ⟨t, ht1⟩ := h2
    exact ⟨s - t, by grind⟩
theorem refh_is (l : List Int) (i : Nat) (hi : i < l.length) : (refh l i (min 8 (i + 1))).1 = hash l i := by
  have h := refh_cg l i hi (min 8 (i + 1)) (by omega) 0
  have r := refh_range l i (min 8 (i + 1))
  have q := hash_range l i
  unfold hash at q ⊢
  rw [show i + 1 - min 8 (i + 1) = i + 1 - 8 by omega, Int.zero_mul, Int.zero_add] at h
  exact (h.eq q.1 q.2 r.1.1 r.1.2).symm
set_option maxHeartbeats 400000 in
theorem rhash_in (A : Option Addr) (n cap : Nat) (l : List Int) (i : Nat) (w : World) (h : Byt w A cap l) (hn : l.length = n) (hi : i < n) :
    Calls Try.prog 12 #[.slice A n cap, .int .i64 i] w fun e w' => e = .returned (.int .u32 (hash l i)) ∧ w = w' := by
  obtain ⟨hle, hsm, hcell⟩ := h
  have hn6 : n ≤ 1000000 := by omega
  have HN := Lib.hid hn
  have HC := Lib.hid hcell
  clear hcell hn hle hsm
  obtain ⟨x, rfl, _⟩ := HC.out i (by have := HN.out; omega)
  have HR := Lib.hid (refh_is l i (by have := HN.out; omega))
  have hd0 : decide ((i : Int) < 0) = false := by simp
  have hd1 : decide ((n : Int) ≤ i) = false := by simp; omega
  have hd2 : decide (n ≤ i) = false := by simp; omega
  go_enter Try.func12, Try.ntmps12
  go_wp2
  go_loop [5, 6, 7, 16, 17, 18, 19, 20, 21, 22, 23] (fun h p q _ _ _ _ _ _ _ _ => ∃ k : Nat, k ≤ min 8 (i + 1) ∧ q = .int .i64 k ∧ h = .int .u32 (refh l i k).1 ∧ p = .int .u32 (refh l i k).2) (fun _ _ q _ _ _ _ _ _ _ _ => 8 - (intOf q).toNat)
  case atStart => exact ⟨0, by omega, rfl, rfl, rfl⟩
  case round =>
    obtain ⟨k, hk, rfl, rfl, rfl⟩ := hrel
    by_cases h8 : k < 8
    · by_cases hki : k ≤ i
      · obtain ⟨y, hy, hc, hb0, hb1⟩ := HC.out (i - k) (by have := HN.out; omega)
        cases hy
        have hr := refh_range l i k
        have HST : Hid (refh l i (k + 1) = (((refh l i k).1 + (l.getD (i - k) 0 + 1) * (refh l i k).2 % 4294967296) % 4294967296, (refh l i k).2 * 31 % 4294967296)) := rfl
        generalize (refh l i k).1 = h at hr HST ⊢
        generalize (refh l i k).2 = p at hr HST ⊢
        generalize l.getD (i - k) 0 = v at hc hb0 hb1 HST
        obtain ⟨⟨h0, h1⟩, p0, p1⟩ := hr
        have hik : ((i : Int) - (k : Int)).toNat = i - k := by omega
        go_wp2
        go_round
        case rel => exact ⟨k + 1, by omega, by go_num, by rw [HST.out], by rw [HST.out]⟩
        case measure => simp [intOf]; omega
      · obtain rfl : k = i + 1 := by omega
        go_wp2
        go_ret
        exact ⟨ret_int (by rw [← HR.out]; congr 2; omega), rfl⟩
    · obtain rfl : k = 8 := by omega
      go_wp2
      go_ret
      exact ⟨ret_int (by rw [← HR.out]; congr 2; omega), rfl⟩
theorem rhash_out (A : Option Addr) (n cap : Nat) (i : Int) (w : World) (hi : i < 0 ∨ n ≤ i) :
    Calls Try.prog 12 #[.slice A n cap, .int .i64 i] w fun e w' => e = .returned (.int .u32 0) ∧ w = w' := by
  by_cases h2 : i < 0
  · go_enter Try.func12, Try.ntmps12
    go_wp2
    go_ret
    exact ⟨rfl, rfl⟩
  · have h : (n : Int) ≤ i := by omega
    go_enter Try.func12, Try.ntmps12
    go_wp2
    go_ret
    exact ⟨rfl, rfl⟩
theorem rhash_any (A : Option Addr) (n cap : Nat) (l : List Int) (i : Int) (w : World) (h : Byt w A cap l) (hn : l.length = n) :
    Calls Try.prog 12 #[.slice A n cap, .int .i64 i] w fun e w' => e = .returned (.int .u32 (hashZ l i)) ∧ w = w' := by
  unfold hashZ
  split
  · rename_i hi
    obtain ⟨k, rfl⟩ : ∃ k : Nat, i = k := ⟨i.toNat, by omega⟩
    rw [Int.toNat_natCast]
    exact rhash_in A n cap l k w h hn (by omega)
  · exact rhash_out A n cap i w (by omega)
end Go.Proofs.Ytnfipkbokfmfjaa
