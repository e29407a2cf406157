import Derived.Test.YtnfipkbokfmfjaaCutF
import Derived.Deep.QuietTactic
import Derived.BigQuiet
namespace Go.Proofs.Ytnfipkbokfmfjaa
open Go.RowKit
/-- Where the pieces ahead of the k-th end. -/
def sumTo (ps : List (List Int)) (k : Nat) : Nat := ((ps.take k).map List.length).sum
theorem sumTo_step (ps : List (List Int)) (k : Nat) (h : k < ps.length) : sumTo ps (k + 1) = sumTo ps k + (ps.getD k []).length := by
  unfold sumTo
  rw [List.take_succ_eq_append_getElem h, List.map_append, List.sum_append]
  simp [List.getD, h]
theorem cut_at (l : List Int) (k : Nat) (h : k < (cut l).length) : (cut l).getD k [] = (l.drop (sumTo (cut l) k)).take (pl (l.drop (sumTo (cut l) k))) ∧ sumTo (cut l) k < l.length := by
  induction k generalizing l with
  | zero =>
    by_cases hl : l = []
    · subst hl; simp [cut_nil] at h
    · rw [cut_cons l hl]; simp [sumTo]; exact List.length_pos_iff.2 hl
  | succ k ih =>
    by_cases hl : l = []
    · subst hl; simp [cut_nil] at h
    · rw [cut_cons l hl] at h ⊢
      have hp := pl_bounds l
      obtain ⟨h1, h2⟩ := ih (l.drop (pl l)) (by simpa using h)
      have hs : sumTo (l.take (pl l) :: cut (l.drop (pl l))) (k + 1) = pl l + sumTo (cut (l.drop (pl l))) k := by
        simp [sumTo]; omega
      rw [hs]
      simp at h2
      refine ⟨?_, by omega⟩
      rw [List.getD_cons_succ, h1, List.drop_drop]
theorem cut_len_at (l : List Int) (k : Nat) (h : k < (cut l).length) : endsZ l (sumTo (cut l) k) = sumTo (cut l) k + ((cut l).getD k []).length := by
  obtain ⟨h1, h2⟩ := cut_at l k h
  rw [h1]
  have := pl_bounds (l.drop (sumTo (cut l) k))
  unfold endsZ
  rw [if_pos (by omega)]
  simp at this ⊢
  omega
theorem sumTo_le (l : List Int) (k : Nat) (h : k ≤ (cut l).length) : sumTo (cut l) k ≤ l.length := by
  cases k with
  | zero => simp [sumTo]
  | succ k =>
    obtain ⟨h1, h2⟩ := cut_at l k (by omega)
    rw [sumTo_step _ _ (by omega), h1]
    simp; omega
theorem Byt.below {w w' : World} {A : Option Addr} {cap : Nat} {l : List Int} (h : Byt w A cap l) (hb : Below w.heap.size w w') : Byt w' A cap l :=
  ⟨h.le, h.small, fun j hj => by
    obtain ⟨x, rfl, hc, h0, h1⟩ := h.cell j hj
    exact ⟨x, rfl, by rw [hb.cell (World.block_lt_of_cell? w _ hc)]; exact hc, h0, h1⟩⟩
set_option maxHeartbeats 400000 in
theorem cutSizes_any (a : Option Addr) (len cap : Nat) (z : List Int) (q : Nat) (w : World) (h : IsRow .u8 w a len cap z) (hq : q < 65536) :
    Calls Try.prog 7 #[.slice a len cap, .int .u16 q] w fun e w' => e = .returned (.bool true) ∧ Below w.heap.size w w' := by
  have hl := h.len
  by_cases hbig : 5000 < len
  · go_enter Try.func7, Try.ntmps7
    go_wp2_with (go_at_call 8; refine (awake_any w).mono ?_; rintro e w1 ⟨rfl, HB⟩)
    go_ret
    exact ⟨rfl, HB⟩
  have hlen5 : len ≤ 5000 := by omega
  obtain ⟨hB0, hL0⟩ := h.byt (by omega)
  generalize z.take len = l at hB0 hL0
  have HL := Lib.hid hL0
  obtain ⟨ps, HC⟩ : ∃ ps, Hid (cut l = ps) := ⟨_, rfl⟩
  obtain ⟨k, hk⟩ : ∃ k, Hid (ps.length = k) := ⟨_, rfl⟩
  have hb := cut_length l
  rw [HC.out, hk.out, HL.out] at hb
  obtain ⟨hb1, hb2⟩ := hb
  have HB0 := Lib.hid hB0
  clear hB0 hL0 h
  have HKB : Hid (∀ w1, Below w.heap.size w w1 → Byt w1 a cap l) := fun w1 hb => HB0.out.below hb
  by_cases hk0 : k = 0
  · subst hk0
    have e1 : ((len : Int) + 64 - 1) / 64 = 0 := by omega
    go_enter Try.func7, Try.ntmps7
    go_wp2_with (first | (go_at_call 8; refine (awake_any w).mono ?_; rintro e w1 ⟨rfl, hb⟩; have HB1 := Lib.hid hb; have HY := Lib.hid (HKB.out w1 hb); clear hb) | (go_at_call 9; (with_reducible refine (cut_view _ _ _ l _ _ 0 HY.out HL.out HC.out hk.out).mono ?_); rintro e w2 ⟨A, cap2, rfl, hcap2, hB2, hv⟩; have HB2 := Lib.hid (HB1.out.trans (hB2.mono HB1.out.size)); clear hB2 hv))
    go_ret
    exact ⟨rfl, HB2.out⟩
  · obtain ⟨i, hi⟩ : ∃ i, Hid (i = q % k) := ⟨_, rfl⟩
    have hik : i < k := by rw [hi.out]; exact Nat.mod_lt _ (by omega)
    have hmod : (q : Int) % (k : Int) = i := by have := hi.out; omega
    have e1 : decide ((k : Int) < ((len : Int) + 64 - 1) / 64) = false := by simp; omega
    have e2 : decide (((len : Int) + 8 - 1) / 8 < (k : Int)) = false := by simp; omega
    have e3 : ((k : Int) == 0) = false := by simp; omega
    have e4 : decide ((5000 : Int) < len) = false := by simp; omega
    have hkp : 0 < k := by omega
    go_enter Try.func7, Try.ntmps7
    go_wp2_with (first | (go_at_call 8; refine (awake_any w).mono ?_; rintro e w1 ⟨rfl, hb⟩; have HB1 := Lib.hid hb; have HY := Lib.hid (HKB.out w1 hb); clear hb) | (go_at_call 9; (with_reducible refine (cut_view _ _ _ l _ _ k HY.out HL.out HC.out hk.out).mono ?_); rintro e w2 ⟨A, cap2, rfl, hcap2, hB2, hv⟩; have HB2 := Lib.hid (HB1.out.trans (hB2.mono HB1.out.size)); have HV := Lib.hid hv; clear hB2 hv))
    first | rw [hmod] | skip
    have HKN : Hid (k ≤ len ∧ ∀ j, j ≤ k → sumTo ps j ≤ len) := ⟨by omega, fun j hj => by have := sumTo_le l j (by rw [HC.out, hk.out]; exact hj); rw [HC.out, HL.out] at this; exact this⟩
    have HCA := Lib.hid (fun j (hj : j < k) => cut_len_at l j (by rw [HC.out, hk.out]; exact hj))
    go_loop [7, 8] (fun f t => ∃ j : Nat, j ≤ i ∧ t = .int .i64 j ∧ f = .int .i64 (sumTo ps j)) (fun _ t => i - (intOf t).toNat)
    case atStart => exact ⟨0, by omega, rfl, rfl⟩
    case round =>
      obtain ⟨j, hj, rfl, rfl⟩ := hrel
      have hsj := HKN.out.2 j (by omega)
      obtain ⟨g, rfl, x, c, hc, _, _⟩ := HV.out j (by omega)
      by_cases hlt : j < i
      · have HS := Lib.hid (sumTo_step ps j (by rw [hk.out]; omega))
        have hsj1 := HKN.out.2 (j + 1) (by omega)
        rw [HS.out] at hsj1
        generalize (ps.getD j []).length = m at hc HS hsj1
        go_wp2
        go_round
        case rel => exact ⟨j + 1, by omega, by go_num, by rw [HS.out]; go_num⟩
        case measure => simp [intOf]; omega
      · obtain rfl : i = j := by omega
        have HE := HCA.out i hik
        rw [HC.out] at HE
        have HEE := Lib.hid HE
        clear HE
        have hs1 := HKN.out.2 (i + 1) (by omega)
        rw [sumTo_step ps i (by rw [hk.out]; omega)] at hs1
        generalize (ps.getD i []).length = m at hc HEE hs1
        have HY2 := HKB.out w2 HB2.out
        have HYq : Hid (∀ n, Byt (w2.drewN n) a cap l) := fun n => ⟨HY2.le, HY2.small, HY2.cell⟩
        clear HY2
        go_wp2
        go_quiet ((go_at_call 13; exact Calls.quiet_of_same ((ends_eq _ _ _ l _ _ _ (HYq.out _) HL.out HEE.out).mono fun _ _ ⟨h1, h2⟩ => ⟨h1, h2.symm⟩)))
        go_wp2
        go_ret
        exact ⟨by first | rfl | simp, ⟨HB2.out.os, HB2.out.tape, HB2.out.output, HB2.out.size, HB2.out.block⟩⟩
theorem walk_CutSizes (a : Option Addr) (len cap : Nat) (z : List Int) (q : Int) (w : World) (h : IsRow .u8 w a len cap z) (hq : (Lit.int .u16 q).wf = true) :
    Calls Try.prog 7 #[.slice a len cap, .int .u16 q] w fun e w' => e = .returned (.bool true) ∧ Below w.heap.size w w' := by
  have h0 := bounds_u16 hq
  obtain ⟨m, rfl⟩ : ∃ m : Nat, q = m := ⟨q.toNat, by omega⟩
  exact cutSizes_any a len cap z m w h (by omega)
end Go.Proofs.Ytnfipkbokfmfjaa
