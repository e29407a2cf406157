import Derived.Test.YtnfipkbokfmfjaaCutB
namespace Go.Proofs.Ytnfipkbokfmfjaa
open Go.RowKit
/-- From a place on: where the piece ends. -/
def plFrom (s : List Int) (k : Nat) : Nat :=
  match (List.range' k (min s.length 64 - k)).find? (good s) with
  | some i => i + 1
  | none => min s.length 64
theorem pl_from (s : List Int) : pl s = plFrom s 7 := rfl
theorem plFrom_step (s : List Int) (k : Nat) (h : k < min s.length 64) : plFrom s k = if good s k then k + 1 else plFrom s (k + 1) := by
  unfold plFrom
  obtain ⟨n, hn⟩ : ∃ n, min s.length 64 - k = n + 1 := ⟨min s.length 64 - k - 1, by omega⟩
  rw [hn, find_step, show min s.length 64 - (k + 1) = n by omega]
  cases good s k <;> simp
theorem plFrom_end (s : List Int) (k : Nat) (h : min s.length 64 ≤ k) : plFrom s k = min s.length 64 := by
  unfold plFrom
  rw [show min s.length 64 - k = 0 by omega]; rfl
theorem ends_out (A : Option Addr) (n cap : Nat) (i : Int) (w : World) (hi : i < 0 ∨ n ≤ i) :
    Calls Try.prog 13 #[.slice A n cap, .int .i64 i] w fun e w' => e = .returned (.int .i64 n) ∧ w = w' := by
  by_cases h2 : i < 0
  · go_enter Try.func13, Try.ntmps13
    go_wp2
    go_ret
    exact ⟨rfl, rfl⟩
  · have h : (n : Int) ≤ i := by omega
    go_enter Try.func13, Try.ntmps13
    go_wp2
    go_ret
    exact ⟨rfl, rfl⟩
theorem hash_at (A : Option Addr) (n cap : Nat) (l : List Int) (i : Nat) (z H : Int) (w : World) (h : Byt w A cap l) (hn : l.length = n) (hi : i < n) (hz : z = i) (hH : hash l i = H) :
    Calls Try.prog 11 #[.slice A n cap, .int .i64 z] w fun e w' => e = .returned (.int .u32 H) ∧ w = w' := by
  subst hz; subst hH; exact hash_in A n cap l i w h hn hi
theorem rhash_at (A : Option Addr) (n cap : Nat) (l : List Int) (i : Nat) (z H : Int) (w : World) (h : Byt w A cap l) (hn : l.length = n) (hi : i < n) (hz : z = i) (hH : hash l i = H) :
    Calls Try.prog 12 #[.slice A n cap, .int .i64 z] w fun e w' => e = .returned (.int .u32 H) ∧ w = w' := by
  subst hz; subst hH; exact rhash_in A n cap l i w h hn hi
set_option maxHeartbeats 400000 in
theorem ends_in (A : Option Addr) (n cap : Nat) (l : List Int) (f : Nat) (w : World) (h : Byt w A cap l) (hn : l.length = n) (hi : f < n) :
    Calls Try.prog 13 #[.slice A n cap, .int .i64 f] w fun e w' => e = .returned (.int .i64 ((f : Int) + pl (l.drop f))) ∧ w = w' := by
  have hn6 : n ≤ 1000000 := by have := h.small; omega
  have HN := Lib.hid hn
  have HB := Lib.hid h
  clear h hn
  obtain ⟨m, hm⟩ : ∃ m, Hid (m = min (l.drop f).length 64) := ⟨_, rfl⟩
  have hm64 : m ≤ 64 := by have := hm.out; omega
  have hmn : f + m ≤ n := by have := hm.out; have := HN.out; simp at *; omega
  have start : (n ≤ f + 64 ∧ n = f + m) ∨ (f + 64 < n ∧ m = 64) := by have := hm.out; have := HN.out; simp at *; omega
  have hd0 : decide ((f : Int) < 0) = false := by simp
  have hd1 : decide ((n : Int) ≤ f) = false := by simp; omega
  have hd3 : decide (n ≤ f) = false := by simp; omega
  rcases start with ⟨hs, rfl⟩ | ⟨hs, rfl⟩
  · have hd2 : decide ((f : Int) + m ≤ f) = false := by simp; omega
    go_enter Try.func13, Try.ntmps13
    go_wp2
    go_loop [6] (fun q => ∃ k : Nat, 7 ≤ k ∧ k ≤ 64 ∧ q = .int .i64 ((f : Int) + k) ∧ Hid (pl (l.drop f) = plFrom (l.drop f) k)) (fun q => f + 65 - (intOf q).toNat)
    case atStart => exact ⟨7, by omega, by omega, by congr 1; omega, pl_from _⟩
    case round =>
      obtain ⟨k, hk1, hk2, rfl, hp⟩ := hrel
      by_cases hlt : k < m
      · have HST := Lib.hid (plFrom_step (l.drop f) k (by have := hm.out; omega))
        have hgr := hash_range l (f + k)
        have HG : Hid (good (l.drop f) k = (bits BinOp.and IntKind.u32 (hash l (f + k) / 65536) 15 == 0)) := by show _ = _; rw [← good_drop l f k hk1]; rfl
        obtain ⟨H, hH⟩ : ∃ H, Hid (hash l (f + k) = H) := ⟨_, rfl⟩
        rw [hH.out] at hgr HG
        obtain ⟨hg0, hg1⟩ := hgr
        go_wp2_with (go_at_call 11; (with_reducible refine (hash_at A _ cap l (f + k) _ H w HB.out HN.out (by omega) (by omega) hH.out).mono ?_); rintro e w' ⟨rfl, rfl⟩)
        · go_ret
          exact ⟨ret_int (by rw [hp.out, HST.out, HG.out, if_pos (by assumption)]; omega), rfl⟩
        · go_round
          case rel => exact ⟨k + 1, by omega, by omega, by go_num, by show _ = _; rw [hp.out, HST.out, HG.out, if_neg (by rw [Bool.not_eq_true]; assumption)]⟩
          case measure => simp [intOf]; omega
      · have HE := Lib.hid (plFrom_end (l.drop f) k (by have := hm.out; omega))
        go_wp2
        go_ret
        exact ⟨ret_int (by rw [hp.out, HE.out, ← hm.out] <;> rfl), rfl⟩
  · go_enter Try.func13, Try.ntmps13
    go_wp2
    go_loop [6] (fun q => ∃ k : Nat, 7 ≤ k ∧ k ≤ 64 ∧ q = .int .i64 ((f : Int) + k) ∧ Hid (pl (l.drop f) = plFrom (l.drop f) k)) (fun q => f + 65 - (intOf q).toNat)
    case atStart => exact ⟨7, by omega, by omega, by congr 1; omega, pl_from _⟩
    case round =>
      obtain ⟨k, hk1, hk2, rfl, hp⟩ := hrel
      by_cases hlt : k < 64
      · have HST := Lib.hid (plFrom_step (l.drop f) k (by have := hm.out; omega))
        have hgr := hash_range l (f + k)
        have HG : Hid (good (l.drop f) k = (bits BinOp.and IntKind.u32 (hash l (f + k) / 65536) 15 == 0)) := by show _ = _; rw [← good_drop l f k hk1]; rfl
        obtain ⟨H, hH⟩ : ∃ H, Hid (hash l (f + k) = H) := ⟨_, rfl⟩
        rw [hH.out] at hgr HG
        obtain ⟨hg0, hg1⟩ := hgr
        go_wp2_with (go_at_call 11; (with_reducible refine (hash_at A _ cap l (f + k) _ H w HB.out HN.out (by omega) (by omega) hH.out).mono ?_); rintro e w' ⟨rfl, rfl⟩)
        · go_ret
          exact ⟨ret_int (by rw [hp.out, HST.out, HG.out, if_pos (by assumption)]; omega), rfl⟩
        · go_round
          case rel => exact ⟨k + 1, by omega, by omega, by go_num, by show _ = _; rw [hp.out, HST.out, HG.out, if_neg (by rw [Bool.not_eq_true]; assumption)]⟩
          case measure => simp [intOf]; omega
      · have HE := Lib.hid (plFrom_end (l.drop f) k (by have := hm.out; omega))
        go_wp2
        go_ret
        exact ⟨ret_int (by rw [hp.out, HE.out, ← hm.out] <;> rfl), rfl⟩
theorem ends_any (A : Option Addr) (n cap : Nat) (l : List Int) (f : Int) (w : World) (h : Byt w A cap l) (hn : l.length = n) :
    Calls Try.prog 13 #[.slice A n cap, .int .i64 f] w fun e w' => e = .returned (.int .i64 (endsZ l f)) ∧ w = w' := by
  unfold endsZ
  split
  · rename_i hi
    obtain ⟨k, rfl⟩ : ∃ k : Nat, f = k := ⟨f.toNat, by omega⟩
    rw [Int.toNat_natCast]
    exact ends_in A n cap l k w h hn (by omega)
  · rw [hn]
    exact ends_out A n cap f w (by omega)
theorem rends_out (A : Option Addr) (n cap : Nat) (i : Int) (w : World) (hi : i < 0 ∨ n ≤ i) :
    Calls Try.prog 14 #[.slice A n cap, .int .i64 i] w fun e w' => e = .returned (.int .i64 n) ∧ w = w' := by
  by_cases h2 : i < 0
  · go_enter Try.func14, Try.ntmps14
    go_wp2
    go_ret
    exact ⟨rfl, rfl⟩
  · have h : (n : Int) ≤ i := by omega
    go_enter Try.func14, Try.ntmps14
    go_wp2
    go_ret
    exact ⟨rfl, rfl⟩
set_option maxHeartbeats 400000 in
theorem rends_in (A : Option Addr) (n cap : Nat) (l : List Int) (f : Nat) (w : World) (h : Byt w A cap l) (hn : l.length = n) (hi : f < n) :
    Calls Try.prog 14 #[.slice A n cap, .int .i64 f] w fun e w' => e = .returned (.int .i64 ((f : Int) + pl (l.drop f))) ∧ w = w' := by
  have hn6 : n ≤ 1000000 := by have := h.small; omega
  have HN := Lib.hid hn
  have HB := Lib.hid h
  clear h hn
  obtain ⟨m, hm⟩ : ∃ m, Hid (m = min (l.drop f).length 64) := ⟨_, rfl⟩
  have hm' : m = min (n - f) 64 := by have := hm.out; have := HN.out; simp at *; omega
  have HM := Lib.hid hm'
  clear hm'
  have hd0 : decide ((f : Int) < 0) = false := by simp
  have hd1 : decide ((n : Int) ≤ f) = false := by simp; omega
  have hd3 : decide (n ≤ f) = false := by simp; omega
  go_enter Try.func14, Try.ntmps14
  go_wp2
  go_loop [5, 28, 29, 30, 31, 32, 33, 34, 35, 36, 37, 38, 39, 40, 41] (fun q _ _ _ _ _ _ _ _ _ _ _ _ _ _ => ∃ k : Nat, k ≤ m ∧ k < 64 ∧ q = .int .i64 ((f : Int) + k) ∧ Hid (pl (l.drop f) = plFrom (l.drop f) (max 7 k))) (fun q _ _ _ _ _ _ _ _ _ _ _ _ _ _ => f + 65 - (intOf q).toNat)
  case atStart => exact ⟨0, by omega, by omega, by simp, pl_from _⟩
  case round =>
    obtain ⟨k, hkm, hk2, rfl, hp⟩ := hrel
    by_cases hlt : f + k < n
    · have hsub : (f : Int) + k - f + 1 = k + 1 := by omega
      by_cases h63 : k = 63
      · subst h63
        have HE : Hid (pl (l.drop f) = 64) := by
          show _ = _
          have hml : min (l.drop f).length 64 = 64 := by have := hm.out; have := HM.out; omega
          rw [hp.out, show max 7 63 = 63 from rfl, plFrom_step _ _ (by omega), plFrom_end _ _ (by omega), hml]; simp
        go_wp2
        go_ret
        exact ⟨ret_int (by rw [HE.out]; omega), rfl⟩
      · have h63' : k < 63 := by omega
        by_cases h7 : k < 7
        · go_wp2
          go_round
          case rel => exact ⟨k + 1, by have := HM.out; omega, by omega, by go_num, by rw [show max 7 (k + 1) = max 7 k by omega]; exact hp⟩
          case measure => simp [intOf]; omega
        · have HST := Lib.hid (plFrom_step (l.drop f) k (by have := hm.out; have := HM.out; omega))
          have HP : Hid (pl (l.drop f) = plFrom (l.drop f) k) := by show _ = _; rw [hp.out, show max 7 k = k by omega]
          have hgr := hash_range l (f + k)
          have HG : Hid (good (l.drop f) k = (bits BinOp.and IntKind.u32 (hash l (f + k) / 65536) 15 == 0)) := by show _ = _; rw [← good_drop l f k (by omega)]; rfl
          obtain ⟨H, hH⟩ : ∃ H, Hid (hash l (f + k) = H) := ⟨_, rfl⟩
          rw [hH.out] at hgr HG
          obtain ⟨hg0, hg1⟩ := hgr
          have h7' : 7 ≤ k := by omega
          have hd4 : (((k : Int) + 1) == 64) = false := by simp; omega
          go_wp2_with (go_at_call 12; (with_reducible refine (rhash_at A _ cap l (f + k) _ H w HB.out HN.out (by omega) (by omega) hH.out).mono ?_); rintro e w' ⟨rfl, rfl⟩)
          · go_ret
            exact ⟨ret_int (by rw [HP.out, HST.out, HG.out, if_pos (by assumption)]; omega), rfl⟩
          · go_round
            case rel => exact ⟨k + 1, by have := HM.out; omega, by omega, by go_num, by show _ = _; rw [HP.out, HST.out, HG.out, if_neg (by rw [Bool.not_eq_true]; assumption), show max 7 (k + 1) = k + 1 by omega]⟩
            case measure => simp [intOf]; omega
    · have HE : Hid (f + pl (l.drop f) = n) := by
        show _ = _
        rw [hp.out, plFrom_end _ _ (by have := hm.out; have := HM.out; omega), ← hm.out]; have := HM.out; omega
      go_wp2
      go_ret
      exact ⟨ret_int (by have := HE.out; omega), rfl⟩
theorem rends_any (A : Option Addr) (n cap : Nat) (l : List Int) (f : Int) (w : World) (h : Byt w A cap l) (hn : l.length = n) :
    Calls Try.prog 14 #[.slice A n cap, .int .i64 f] w fun e w' => e = .returned (.int .i64 (endsZ l f)) ∧ w = w' := by
  unfold endsZ
  split
  · rename_i hi
    obtain ⟨k, rfl⟩ : ∃ k : Nat, f = k := ⟨f.toNat, by omega⟩
    rw [Int.toNat_natCast]
    exact rends_in A n cap l k w h hn (by omega)
  · rw [hn]
    exact rends_out A n cap f w (by omega)
end Go.Proofs.Ytnfipkbokfmfjaa
