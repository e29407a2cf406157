import Derived.Test.YtnfipkbokfmfjaaCutI
import Derived.Test.YtnfipkbokfmfjaaCutH
import Derived.Laws.BytesString
namespace Go.Proofs.Ytnfipkbokfmfjaa
open Go.RowKit
/-- Bytes as a text. -/
def toS (l : List Int) : ByteArray := l.foldl (fun r n => r.push (UInt8.ofNat n.toNat)) ByteArray.empty
theorem Byt.conv {w : World} {x : Addr} {c m : Nat} {l : List Int} (h : Byt w (some x) c l) (hm : l.length = m) : (convert 22 9 (.slice (some x) m c)).run Try.prog w = .ok (.string (toS l)) w := by
  rw [run_convert_bytes_string w 22 9 5 _ m c Try.underlying22 Try.underlying5 Try.underlying9]
  refine run_bytesToString w x m c l ?_
  have := run_loadCells_list (P := Try.prog) w x (u8s l) (h.news x rfl)
  rw [u8s_length, hm] at this
  exact this
theorem rhash_eq (A : Option Addr) (n cap : Nat) (l : List Int) (i H : Int) (w : World) (h : Byt w A cap l) (hn : l.length = n) (hH : hashZ l i = H) :
    Calls Try.prog 12 #[.slice A n cap, .int .i64 i] w fun e w' => e = .returned (.int .u32 H) ∧ w = w' := by
  subst hH; exact rhash_any A n cap l i w h hn
theorem rends_eq (A : Option Addr) (n cap : Nat) (l : List Int) (i H : Int) (w : World) (h : Byt w A cap l) (hn : l.length = n) (hH : endsZ l i = H) :
    Calls Try.prog 14 #[.slice A n cap, .int .i64 i] w fun e w' => e = .returned (.int .i64 H) ∧ w = w' := by
  subst hH; exact rends_any A n cap l i w h hn
theorem Pcs_bounds (l : List Int) (k : Nat) (h : k < (cut l).length) : 0 < ((cut l).getD k []).length ∧ ((cut l).getD k []).length ≤ 64 ∧ (k + 1 < (cut l).length → 8 ≤ ((cut l).getD k []).length) := by
  obtain ⟨h1, h2⟩ := cut_at l k h
  have hb := pl_bounds (l.drop (sumTo (cut l) k))
  have hp := pl_pos (l.drop (sumTo (cut l) k)) (by intro e; have := congrArg List.length e; simp at this; omega)
  have hlen : ((cut l).getD k []).length = pl (l.drop (sumTo (cut l) k)) := by rw [h1]; simp at hb ⊢; omega
  refine ⟨by omega, by omega, fun h3 => ?_⟩
  have h4 := cut_at l (k + 1) h3
  rw [sumTo_step _ _ h] at h4
  rcases hb.2.2 with h5 | h5
  · omega
  · simp at h5; omega
theorem sumTo_all (l : List Int) : sumTo (cut l) (cut l).length = l.length := by
  induction hn : l.length using Nat.strongRecOn generalizing l with
  | _ n ih =>
    by_cases h : l = []
    · subst h; rw [cut_nil]; simp [sumTo] at hn ⊢; omega
    · have hp := pl_pos l h
      have hb := pl_bounds l
      have := ih (l.drop (pl l)).length (by simp; omega) _ rfl
      rw [cut_cons l h]
      unfold sumTo at this ⊢
      rw [List.take_length] at this ⊢
      simp at this ⊢
      omega
set_option maxRecDepth 100000 in
set_option maxHeartbeats 1000000 in
theorem cutCuts_any (a : Option Addr) (n cap : Nat) (l : List Int) (at_ : Int) (w : World) (h : Arg w a n cap l) (hn : n ≤ 5000) :
    Calls Try.prog 3 #[.slice a n cap, .int .i64 at_] w fun e w' => e = .returned (.bool true) ∧ Below w.heap.size w w' := by
  have HL := Lib.hid h.len
  have HA := Lib.hid h
  clear h
  obtain ⟨ps, HC⟩ : ∃ ps, Hid (cut l = ps) := ⟨_, rfl⟩
  obtain ⟨k, hk⟩ : ∃ k, Hid (ps.length = k) := ⟨_, rfl⟩
  obtain ⟨H, hH⟩ : ∃ H, Hid (hashZ l at_ = H) := ⟨_, rfl⟩
  obtain ⟨E, hE⟩ : ∃ E, Hid (endsZ l at_ = E) := ⟨_, rfl⟩
  have d0 : decide ((5000 : Int) < n) = false := by simp; omega
  go_enter Try.func3, Try.ntmps3
  go_wp2_with (first | (go_at_call 8; (with_reducible refine (awake_any w).mono ?_); rintro e w1 ⟨rfl, hb⟩; have HB1 := Lib.hid hb; have HY1 := Lib.hid (HA.out.byt.below hb); clear hb) | (go_at_call 9; (with_reducible refine (cut_view _ _ _ l _ _ k HY1.out HL.out HC.out hk.out).mono ?_); rintro e w2 ⟨A2, cap2, rfl, hcap2, hb2, hv2⟩; have HB2 := Lib.hid (HB1.out.trans (hb2.mono HB1.out.size)); have HY2 := Lib.hid (HA.out.byt.below HB2.out); have HV2 := Lib.hid hv2; clear hb2 hv2) | (go_at_call 10; (with_reducible refine (rcut_view _ _ _ l _ _ k HY2.out HL.out HC.out hk.out).mono ?_); rintro e w3 ⟨A3, cap3, rfl, hcap3, hb3, hv3⟩; have HB3 := Lib.hid (HB2.out.trans (hb3.mono HB2.out.size)); have HY3 := Lib.hid (HA.out.byt.below HB3.out); have HV3 := Lib.hid hv3; have HK3 := Lib.hid hb3; clear hb3 hv3) | (go_at_call 11; (with_reducible refine (hash_eq _ _ _ l _ _ _ HY3.out HL.out hH.out).mono ?_); rintro e w' ⟨rfl, rfl⟩) | (go_at_call 12; (with_reducible refine (rhash_eq _ _ _ l _ _ _ HY3.out HL.out hH.out).mono ?_); rintro e w' ⟨rfl, rfl⟩) | (go_at_call 13; (with_reducible refine (ends_eq _ _ _ l _ _ _ HY3.out HL.out hE.out).mono ?_); rintro e w' ⟨rfl, rfl⟩) | (go_at_call 14; (with_reducible refine (rends_eq _ _ _ l _ _ _ HY3.out HL.out hE.out).mono ?_); rintro e w' ⟨rfl, rfl⟩))
  have HBD : Hid (∀ j, j < k → 0 < (ps.getD j []).length ∧ (ps.getD j []).length ≤ 64 ∧ (j + 1 < k → 8 ≤ (ps.getD j []).length)) := fun j hj => by
    have := Pcs_bounds l j (by rw [HC.out, hk.out]; exact hj)
    rwa [HC.out, hk.out] at this
  have HSM : Hid (∀ j, j ≤ k → sumTo ps j ≤ n) := fun j hj => by
    have := sumTo_le l j (by rw [HC.out, hk.out]; exact hj)
    rwa [HC.out, HL.out] at this
  have HALL : Hid (sumTo ps k = n) := by have := sumTo_all l; rw [HC.out, hk.out, HL.out] at this; exact this
  have HKN : Hid (k ≤ n) := by
    have := cut_length l
    rw [HC.out, hk.out, HL.out] at this
    show _ ≤ _; omega
  have hk5 : k ≤ 5000 := by have := HKN.out; omega
  have CELL : Hid (∀ wr j, Same wr w3 → j < k → ∃ g2 g3 x2 x3 e2 e3, A2 = some ⟨g2, 0, none⟩ ∧ A3 = some ⟨g3, 0, none⟩ ∧ wr.cell? ⟨g2, j, none⟩ = some (.slice (some x2) (ps.getD j []).length e2) ∧ wr.cell? ⟨g3, j, none⟩ = some (.slice (some x3) (ps.getD j []).length e3) ∧ Byt wr (some x2) e2 (ps.getD j []) ∧ Byt wr (some x3) e3 (ps.getD j [])) := fun wr j hS hj => by
    obtain ⟨g2, h1, x2, e2, h2, h3, _⟩ := HV2.out j hj
    obtain ⟨g3, h4, x3, e3, h5, h6, _⟩ := HV3.out j hj
    exact ⟨g2, g3, x2, x3, e2, e3, h1, h4, hS.cell ((HK3.out.cell (p := ⟨g2, j, none⟩) (World.block_lt_of_cell? w2 _ h2)).trans h2), hS.cell h5, hS.byt (h3.below HK3.out), hS.byt h6⟩
  clear HV2 HV3 HB1 HB2 HY1 HY2 HY3 HK3
  go_loopw [7, 8] (fun s t wr => ∃ j : Nat, j ≤ k ∧ t = .int .i64 j ∧ s = .int .i64 (sumTo ps j) ∧ Hid (Same wr w3)) (fun _ t _ => k - (intOf t).toNat)
  case atStart => exact ⟨0, by omega, rfl, rfl, Same.refl _⟩
  case round =>
    obtain ⟨j, hj, rfl, rfl, hS⟩ := hrel
    by_cases hlt : j < k
    · obtain ⟨g2, g3, x2, x3, e2, e3, rfl, rfl, hc2, hc3, hb2, hb3⟩ := CELL.out wr j hS.out hlt
      obtain ⟨hm0, hm64, hm8⟩ := HBD.out j hlt
      have hst := Lib.hid (sumTo_step ps j (by rw [hk.out]; exact hlt))
      have hs0 := HSM.out j (by omega)
      have hs1 := HSM.out (j + 1) (by omega)
      rw [hst.out] at hs1
      have cv2 : ∀ d, (convert 22 9 (.slice (some x2) (ps.getD j []).length e2)).run Try.prog (wr.drewN d) = .ok (.string (toS (ps.getD j []))) (wr.drewN d) := fun d => ((Same.refl wr).drewN d).byt hb2 |>.conv rfl
      have cv3 : ∀ d, (convert 22 9 (.slice (some x3) (ps.getD j []).length e3)).run Try.prog (wr.drewN d) = .ok (.string (toS (ps.getD j []))) (wr.drewN d) := fun d => ((Same.refl wr).drewN d).byt hb3 |>.conv rfl
      clear hb2 hb3
      generalize toS (ps.getD j []) = S at cv2 cv3
      generalize (ps.getD j []).length = m at hc2 hc3 hm0 hm64 hm8 hst hs1 cv2 cv3
      have q1 : decide ((64 : Int) < m) = false := by simp; omega
      have q2 : ((m : Int) == 0) = false := by simp; omega
      by_cases hlast : j + 1 < k
      · have q3 : decide ((j : Int) < k - 1) = true := by simp; omega
        have q4 : decide ((m : Int) < 8) = false := by have := hm8 hlast; simp; omega
        clear hm8 hlast
        go_wp2
        go_quiet (fail)
        go_wp2
        go_roundw
        case rel => exact ⟨j + 1, by omega, by go_num, by rw [hst.out]; go_num, hS.out.drewN _⟩
        case measure => simp [intOf]; omega
      · have q3 : decide ((j : Int) < k - 1) = false := by simp; omega
        clear hm8 hlast
        go_wp2
        go_quiet (fail)
        go_wp2
        go_roundw
        case rel => exact ⟨j + 1, by omega, by go_num, by rw [hst.out]; go_num, hS.out.drewN _⟩
        case measure => simp [intOf]; omega
    · obtain rfl : k = j := by omega
      rw [HALL.out]
      go_wp2
      go_ret
      exact ⟨by first | rfl | simp, hS.out.below HB3.out⟩
theorem walk_CutCuts (a : Option Addr) (n cap : Nat) (z : List Int) (at_ : Int) (w : World) (h : IsRow .u8 w a n cap z) (_hq : (Lit.int .i64 at_).wf = true) :
    Calls Try.prog 3 #[.slice a n cap, .int .i64 at_] w fun e w' => e = .returned (.bool true) ∧ Below w.heap.size w w' := by
  by_cases hn : n ≤ 5000
  · exact cutCuts_any a n cap _ at_ w (h.arg (by omega)) hn
  · have hl := h.len
    clear h
    go_enter Try.func3, Try.ntmps3
    go_wp2_with (go_at_call 8; refine (awake_any w).mono ?_; rintro e w1 ⟨rfl, hb⟩)
    go_ret
    exact ⟨rfl, hb⟩
end Go.Proofs.Ytnfipkbokfmfjaa
