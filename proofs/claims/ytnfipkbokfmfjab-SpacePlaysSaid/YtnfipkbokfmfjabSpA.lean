import Derived.Test.YtnfipkbokfmfjabRows
import Derived.WalkKit
import Derived.WalkSpells
import Derived.WalkLawsBesides
import Derived.Lib.Hide
namespace Go.Proofs.Ytnfipkbokfmfjab
open Go.RowKit

/-- The first place that is free, -1: none. -/
def idx : List Bool → Nat → Int
  | [], _ => -1
  | b :: r, i => if b = false then (i : Int) else idx r (i + 1)
theorem idx_drop (bs : List Bool) (k : Nat) (h : k < bs.length) : idx (bs.drop k) k = if bs.getD k false = false then (k : Int) else idx (bs.drop (k + 1)) (k + 1) := by
  rw [List.drop_eq_getElem_cons h, idx]
  simp [List.getD, h]
theorem idx_range (bs : List Bool) (i : Nat) : idx bs i = -1 ∨ (i ≤ idx bs i ∧ idx bs i < i + bs.length) := by
  induction bs generalizing i with
  | nil => simp [idx]
  | cons b r ih =>
    simp only [idx, List.length_cons]
    split
    · omega
    · have := ih (i + 1); omega
theorem ret_int {k : IntKind} {a b : Int} (h : a = b) : Ending.returned (.int k a) = .returned (.int k b) := by rw [h]
set_option maxHeartbeats 400000 in
theorem index_any (g n c : Nat) (bs : List Bool) (w : World) (hn : bs.length = n) (hm : n ≤ maxLen) (hc : ∀ j, j < n → w.cell? ⟨g, j, none⟩ = some (.bool (bs.getD j false))) :
    Calls Try.prog 18 #[.slice (some ⟨g, 0, none⟩) n c, .bool false] w fun e w' => e = .returned (.int .i64 (idx bs 0)) ∧ w = w' := by
  unfold maxLen at hm
  have HN := Lib.hid hn
  have HC := Lib.hid hc
  clear hn hc
  go_enter Try.func18, Try.ntmps18
  go_wp2
  go_loop [4, 5, 8] (fun r _ i => ∃ k : Nat, k ≤ n ∧ i = .int .i64 k ∧ r = .int .i64 0 ∧ Hid (idx bs 0 = idx (bs.drop k) k)) (fun _ _ i => n - (intOf i).toNat)
  case atStart => exact ⟨0, Nat.zero_le _, rfl, rfl, rfl⟩
  case round =>
    obtain ⟨k, hk, rfl, rfl, hi⟩ := hrel
    by_cases hlt : k < n
    · have hcell := HC.out k hlt
      have hstep := Lib.hid (idx_drop bs k (by have := HN.out; omega))
      by_cases hb : bs.getD k false = false
      · have hb' := Lib.hid hb
        rw [hb] at hcell
        clear hb
        go_wp2
        go_ret
        exact ⟨ret_int (by rw [hi.out, hstep.out, if_pos hb'.out]), rfl⟩
      · have hb' := Lib.hid hb
        rw [Bool.not_eq_false] at hb
        rw [hb] at hcell
        clear hb
        go_wp2
        go_round
        case rel => exact ⟨k + 1, by omega, by go_num, rfl, by show _ = _; rw [hi.out, hstep.out, if_neg hb'.out]⟩
        case measure => simp [intOf]; omega
    · go_wp2
      go_ret
      exact ⟨ret_int (by rw [hi.out, List.drop_eq_nil_of_le (by have := HN.out; omega), idx]), rfl⟩

/-- A space: a struct in block b, its row in block g. -/
structure SpaceAt (w : World) (base b g : Nat) (bs : List Bool) : Prop where
  hb : base ≤ b
  ne : b ≠ g
  st : ∃ c, w.heap[b]? = some (.cells #[.slice (some ⟨g, 0, none⟩) bs.length c] 43 (0, 0)) ∧ w.ownsRow base 4 1 (.slice (some ⟨g, 0, none⟩) bs.length c) bs.length (bs.map Value.bool)

theorem SpaceAt.facts {w : World} {base b g : Nat} {bs : List Bool} (h : SpaceAt w base b g bs) : ∃ c, w.cell? ⟨b, 0, none⟩ = some (.slice (some ⟨g, 0, none⟩) bs.length c) ∧
    (∀ j, j < bs.length → w.cell? ⟨g, j, none⟩ = some (.bool (bs.getD j false))) ∧ (∀ j, w.frozen? ⟨g, j, none⟩ = false) ∧ bs.length ≤ maxLen ∧
    (∀ j u, j < bs.length → SpaceAt (w.setCell ⟨g, j, none⟩ (.bool u)) base b g (bs.set j u) ∧ w.grownBy (w.setCell ⟨g, j, none⟩ (.bool u)) (some g)) := by
  obtain ⟨hb, ne, c, hh, own⟩ := h
  refine ⟨c, by simp [World.cell?, hh], fun j hj => ?_, own.frozenAt, ?_, fun j u hj => ?_⟩
  · rw [own.cellAt j (by omega)]; simp [List.getD, hj]
  · rcases own.2 with ⟨h', _⟩ | ⟨g', cap', cur, h', hb, hg, hnc, hcm, hcs, htake⟩
    · simp at h'
    · omega
  · have hs := own.stored j (.bool u)
    refine ⟨⟨hb, ne, c, ?_, ?_⟩, hs.2⟩
    · rw [hs.2.block b (Array.getElem?_eq_some_iff.1 hh).1 (by simpa using ne), hh]; simp
    · have := hs.1
      simpa using this

set_option maxHeartbeats 400000 in
theorem take_any (base b g : Nat) (bs : List Bool) (w : World) (h : SpaceAt w base b g bs) :
    Calls Try.prog 13 #[.pointer (some ⟨b, 0, none⟩)] w fun e w' =>
      (idx bs 0 < 0 ∧ e = .returned (.tuple #[.int .i64 0, .bool false]) ∧ w = w') ∨
      (0 ≤ idx bs 0 ∧ e = .returned (.tuple #[.int .i64 (idx bs 0), .bool true]) ∧ SpaceAt w' base b g (bs.set (idx bs 0).toNat true) ∧ w.grownBy w' (some g)) := by
  obtain ⟨c, h0, hc, hf, hm, hset⟩ := h.facts
  have hr := idx_range bs 0
  by_cases hi : idx bs 0 < 0
  · go_enter Try.func13, Try.ntmps13
    go_wp2_with (go_at_call 18; refine (index_any _ _ _ _ _ rfl hm hc).mono ?_; rintro e w' ⟨rfl, rfl⟩)
    go_ret2
    exact .inl ⟨hi, rfl, rfl⟩
  · have hcell := hc (idx bs 0).toNat (by omega)
    have hset' := hset (idx bs 0).toNat true (by omega)
    have hf' := hf (idx bs 0).toNat
    clear hset
    go_enter Try.func13, Try.ntmps13
    go_wp2_with (go_at_call 18; refine (index_any _ _ _ _ _ rfl hm hc).mono ?_; rintro e w' ⟨rfl, rfl⟩)
    go_ret2
    exact .inr ⟨by omega, rfl, hset'.1, hset'.2⟩

set_option maxHeartbeats 400000 in
theorem turn_any (base b g : Nat) (bs : List Bool) (seg : Int) (t : Bool) (w : World) (h : SpaceAt w base b g bs) :
    Calls Try.prog 17 #[.pointer (some ⟨b, 0, none⟩), .int .i64 seg, .bool t] w fun e w' =>
      (¬ (0 ≤ seg ∧ seg < bs.length ∧ bs.getD seg.toNat false = !t) ∧ e = .returned (.bool false) ∧ w = w') ∨
      ((0 ≤ seg ∧ seg < bs.length ∧ bs.getD seg.toNat false = !t) ∧ e = .returned (.bool true) ∧ SpaceAt w' base b g (bs.set seg.toNat t) ∧ w.grownBy w' (some g)) := by
  obtain ⟨c, h0, hc, hf, hm, hset⟩ := h.facts
  unfold maxLen at hm
  by_cases h1 : seg < 0
  · clear hc hf hset
    go_enter Try.func17, Try.ntmps17
    go_wp2
    go_ret
    exact .inl ⟨by omega, rfl, rfl⟩
  by_cases h2 : (bs.length : Int) ≤ seg
  · clear hc hf hset
    go_enter Try.func17, Try.ntmps17
    go_wp2
    go_ret
    exact .inl ⟨by omega, rfl, rfl⟩
  obtain ⟨k, rfl⟩ : ∃ k : Nat, seg = k := ⟨seg.toNat, by omega⟩
  have hk : k < bs.length := by omega
  have hcell := hc k hk
  have HS := Lib.hid (hset k t hk)
  have hfk := hf k
  clear hc hf hset h1 h2
  generalize hx : bs.getD k false = x at hcell
  have HX := Lib.hid hx
  clear hx
  cases x <;> cases t <;> (go_enter Try.func17, Try.ntmps17; go_wp2; go_ret)
  · exact .inl ⟨by rw [Int.toNat_natCast, HX.out]; simp, rfl, rfl⟩
  · exact .inr ⟨⟨by omega, by omega, HX.out⟩, rfl, HS.out.1, HS.out.2⟩
  · exact .inr ⟨⟨by omega, by omega, HX.out⟩, rfl, HS.out.1, HS.out.2⟩
  · exact .inl ⟨by rw [Int.toNat_natCast, HX.out]; simp, rfl, rfl⟩
end Go.Proofs.Ytnfipkbokfmfjab
