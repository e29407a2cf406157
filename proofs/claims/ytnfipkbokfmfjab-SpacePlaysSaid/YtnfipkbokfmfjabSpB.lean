import Derived.Test.YtnfipkbokfmfjabSpA
namespace Go.Proofs.Ytnfipkbokfmfjab
open Go.RowKit

/-- How many are free. -/
def frees (bs : List Bool) : Nat := bs.countP (fun b => !b)
theorem frees_le (bs : List Bool) : frees bs ≤ bs.length := List.countP_le_length
theorem frees_snoc (bs : List Bool) (k : Nat) (h : k < bs.length) : frees (bs.take (k + 1)) = frees (bs.take k) + if bs.getD k false then 0 else 1 := by
  unfold frees
  rw [List.take_succ_eq_append_getElem h, List.countP_append]
  simp [List.getD, h]
  cases bs[k] <;> simp
set_option maxHeartbeats 400000 in
theorem free_any (base b g : Nat) (bs : List Bool) (w : World) (h : SpaceAt w base b g bs) :
    Calls Try.prog 14 #[.pointer (some ⟨b, 0, none⟩)] w fun e w' => e = .returned (.int .i64 (frees bs)) ∧ w = w' := by
  obtain ⟨c, h0, hc, hf, hm, hset⟩ := h.facts
  unfold maxLen at hm
  have HC := Lib.hid hc
  clear hc hf hset h
  obtain ⟨n, HN⟩ : ∃ n, Hid (n = bs.length) := ⟨_, rfl⟩
  rw [← HN.out] at h0 hm
  go_enter Try.func14, Try.ntmps14
  go_wp2
  go_loop [3, 5, 13] (fun r _ i => ∃ k : Nat, k ≤ n ∧ i = .int .i64 k ∧ r = .int .i64 (frees (bs.take k))) (fun _ _ i => n - (intOf i).toNat)
  case atStart => exact ⟨0, Nat.zero_le _, rfl, rfl⟩
  case round =>
    obtain ⟨k, hk, rfl, rfl⟩ := hrel
    by_cases hlt : k < n
    · have hcell := HC.out k (by have := HN.out; omega)
      have HS := Lib.hid (frees_snoc bs k (by have := HN.out; omega))
      have hle := frees_le (bs.take k)
      have hl2 : (bs.take k).length ≤ k := List.length_take_le _ _
      generalize hx : bs.getD k false = x at hcell
      have HX := Lib.hid hx
      clear hx
      cases x
      · go_wp2
        go_round
        case rel => exact ⟨k + 1, by omega, by go_num, by rw [HS.out, HX.out]; go_num⟩
        case measure => simp [intOf]; omega
      · go_wp2
        go_round
        case rel => exact ⟨k + 1, by omega, by go_num, by rw [HS.out, HX.out]; rfl⟩
        case measure => simp [intOf]; omega
    · go_wp2
      go_ret
      exact ⟨ret_int (by rw [List.take_of_length_le (by have := HN.out; omega)]), rfl⟩

theorem claim_any (base b g : Nat) (bs : List Bool) (seg : Int) (w : World) (h : SpaceAt w base b g bs) :
    Calls Try.prog 12 #[.pointer (some ⟨b, 0, none⟩), .int .i64 seg] w fun e w' =>
      (¬ (0 ≤ seg ∧ seg < bs.length ∧ bs.getD seg.toNat false = false) ∧ e = .returned (.bool false) ∧ w = w') ∨
      ((0 ≤ seg ∧ seg < bs.length ∧ bs.getD seg.toNat false = false) ∧ e = .returned (.bool true) ∧ SpaceAt w' base b g (bs.set seg.toNat true) ∧ w.grownBy w' (some g)) := by
  go_enter Try.func12, Try.ntmps12
  go_wp2_with (go_at_call 17; refine (turn_any _ _ _ _ _ _ _ h).mono ?_; rintro e w' (⟨hn, rfl, rfl⟩ | ⟨hy, rfl, hS, hG⟩))
  · go_ret
    exact .inl ⟨hn, rfl, rfl⟩
  · go_ret
    exact .inr ⟨hy, rfl, hS, hG⟩
theorem give_any (base b g : Nat) (bs : List Bool) (seg : Int) (w : World) (h : SpaceAt w base b g bs) :
    Calls Try.prog 15 #[.pointer (some ⟨b, 0, none⟩), .int .i64 seg] w fun e w' =>
      (¬ (0 ≤ seg ∧ seg < bs.length ∧ bs.getD seg.toNat false = true) ∧ e = .returned (.bool false) ∧ w = w') ∨
      ((0 ≤ seg ∧ seg < bs.length ∧ bs.getD seg.toNat false = true) ∧ e = .returned (.bool true) ∧ SpaceAt w' base b g (bs.set seg.toNat false) ∧ w.grownBy w' (some g)) := by
  go_enter Try.func15, Try.ntmps15
  go_wp2_with (go_at_call 17; refine (turn_any _ _ _ _ _ _ _ h).mono ?_; rintro e w' (⟨hn, rfl, rfl⟩ | ⟨hy, rfl, hS, hG⟩))
  · go_ret
    exact .inl ⟨hn, rfl, rfl⟩
  · go_ret
    exact .inr ⟨hy, rfl, hS, hG⟩
/-- How many whole segments there are. -/
def segsN (n : Int) : Int := if n < 8 then 0 else if (n - 8) / 8 < 96 then (n - 8) / 8 else 96
theorem segs_any (n : Int) (w : World) (h0 : -9223372036854775808 ≤ n) (h1 : n ≤ 9223372036854775807) :
    Calls Try.prog 9 #[.int .i64 n] w fun e w' => e = .returned (.int .i64 (segsN n)) ∧ w = w' := by
  by_cases h : n < 8
  · go_enter Try.func9, Try.ntmps9
    go_wp2
    go_ret
    exact ⟨ret_int (by unfold segsN; omega), rfl⟩
  · by_cases h2 : (n - 8) / 8 < 96
    · go_enter Try.func9, Try.ntmps9
      go_wp2
      go_ret
      exact ⟨ret_int (by unfold segsN; omega), rfl⟩
    · go_enter Try.func9, Try.ntmps9
      go_wp2
      all_goals (go_ret; exact ⟨ret_int (by unfold segsN; omega), rfl⟩)
/-- A segment's first sector. -/
def firstN (n : Int) : Int := if n < 0 then -1 else if 96 ≤ n then -1 else 8 + n * 8
theorem first_any (n : Int) (w : World) :
    Calls Try.prog 10 #[.int .i64 n] w fun e w' => e = .returned (.int .i64 (firstN n)) ∧ w = w' := by
  by_cases h : n < 0
  · go_enter Try.func10, Try.ntmps10
    go_wp2
    go_ret
    exact ⟨ret_int (by unfold firstN; omega), rfl⟩
  · by_cases h2 : 96 ≤ n
    · go_enter Try.func10, Try.ntmps10
      go_wp2
      go_ret
      exact ⟨ret_int (by unfold firstN; omega), rfl⟩
    · go_enter Try.func10, Try.ntmps10
      go_wp2
      go_ret
      exact ⟨ret_int (by unfold firstN; omega), rfl⟩
theorem info4 : (Try.prog.info? 4).map (fun i => (i.zero, i.size, i.bytes)) = some (some (.bool false), 1, 1) := by kernel_rfl
theorem SpaceAt.made {w1 : World} {B k : Nat} (h : w1.ownsRow B 4 1 (.slice (some ⟨B, 0, none⟩) k k) k (madeCells (Value.cells (.bool false)) (k * 1)).toList) (hs : B < w1.heap.size) :
    SpaceAt (w1.alloc (.cells #[.slice (some ⟨B, 0, none⟩) k k] 43)) B w1.heap.size B (List.replicate k false) := by
  refine ⟨by omega, by omega, k, ?_, ?_⟩
  · rw [List.length_replicate]; exact heap_alloc_new w1 _
  · have := h.alloc (.cells #[.slice (some ⟨B, 0, none⟩) k k] 43)
    rw [show Value.cells (.bool false) = #[.bool false] from rfl, Nat.mul_one, toList_madeCells_one] at this
    simpa using this
def NewPost (w : World) (bs : List Bool) (e : Ending) (w' : World) : Prop := ∃ b g, e = .returned (.pointer (some ⟨b, 0, none⟩)) ∧ SpaceAt w' w.heap.size b g bs ∧ w.grownBy w' none
set_option maxHeartbeats 400000 in
theorem new_any (n : Int) (w : World) :
    Calls Try.prog 11 #[.int .i64 n] w (NewPost w (List.replicate (min (max n 0) 96).toNat false)) := by
  obtain ⟨i0, hi, hz0, hz1, hz2⟩ := info_parts info4
  obtain ⟨K, HK⟩ : ∃ K, Hid (K = (min (max n 0) 96).toNat) := ⟨_, rfl⟩
  rw [← HK.out]
  have fin : ∀ (w1 : World), w1.ownsRow w.heap.size 4 1 (.slice (some ⟨w.heap.size, 0, none⟩) K K) K (madeCells #[.bool false] K).toList → w.grownBy w1 none →
      SpaceAt (w1.alloc (.cells #[.slice (some ⟨w.heap.size, 0, none⟩) K K] 43)) w.heap.size w1.heap.size w.heap.size (List.replicate K false) ∧ w.grownBy (w1.alloc (.cells #[.slice (some ⟨w.heap.size, 0, none⟩) K K] 43)) none := by
    intro w1 h1 h2
    have h3 : w.heap.size < w1.heap.size := (h1.lt _ rfl).2
    have h4 := h2.size
    refine ⟨SpaceAt.made (by rw [Nat.mul_one]; exact h1) h3, ?_⟩
    have := World.grownBy_alloc w1 (.cells #[.slice (some ⟨w.heap.size, 0, none⟩) K K] 43) none
    exact ⟨h2.os, h2.tape, h2.output, by simp; omega, fun k hk _ => by rw [this.block k (by omega) (by simp)]; exact h2.block k hk (by simp)⟩
  have FIN := Lib.hid fin
  clear fin
  by_cases h0 : n < 0
  · obtain rfl : K = 0 := by have := HK.out; omega
    go_enter Try.func11, Try.ntmps11
    go_wp2_with (at_make; refine wpList_make_full _ rfl _ _ 35 rfl w.heap.size 4 i0 (.bool false) 1 Try.underlying35 hi hz0 hz1 _ _ _ _ 0 rfl rfl rfl rfl (by omega) (by decide) (Nat.le_refl _) ?_)
    intro w1 ho hg
    have F := Lib.hid (FIN.out w1 ho hg)
    go_wp2
    go_ret
    exact ⟨_, _, rfl, F.out.1, F.out.2⟩
  · obtain ⟨m, rfl⟩ : ∃ m : Nat, n = m := ⟨n.toNat, by omega⟩
    by_cases h1 : m ≤ 96
    · obtain rfl : K = m := by have := HK.out; omega
      have hm : maxLen = 9223372036854775807 := by decide
      go_enter Try.func11, Try.ntmps11
      go_wp2_with (at_make; refine wpList_make_full _ rfl _ _ 35 rfl w.heap.size 4 i0 (.bool false) 1 Try.underlying35 hi hz0 hz1 _ _ _ _ K rfl rfl rfl rfl (by rw [hz2]; omega) (by omega) (Nat.le_refl _) ?_)
      intro w1 ho hg
      have F := Lib.hid (FIN.out w1 (by simpa using ho) hg)
      go_wp2
      go_ret
      exact ⟨_, _, rfl, F.out.1, F.out.2⟩
    · obtain rfl : K = 96 := by have := HK.out; omega
      go_enter Try.func11, Try.ntmps11
      go_wp2_with (at_make; refine wpList_make_full _ rfl _ _ 35 rfl w.heap.size 4 i0 (.bool false) 1 Try.underlying35 hi hz0 hz1 _ _ _ _ 96 rfl rfl rfl rfl (by omega) (by decide) (Nat.le_refl _) ?_)
      intro w1 ho hg
      have F := Lib.hid (FIN.out w1 ho hg)
      go_wp2
      go_ret
      exact ⟨_, _, rfl, F.out.1, F.out.2⟩

def ClonePost (w : World) (n : Nat) (xs : List Value) (e : Ending) (w' : World) : Prop := ∃ g c, e = .returned (.slice (some ⟨g, 0, none⟩) n c) ∧ w'.ownsRow w.heap.size 4 1 (.slice (some ⟨g, 0, none⟩) n c) n xs ∧ w.grownBy w' none
set_option maxHeartbeats 400000 in
theorem clone_any (B g n c : Nat) (xs : List Value) (w : World) (h : w.ownsRow B 4 1 (.slice (some ⟨g, 0, none⟩) n c) n xs) (h1 : ∀ u ∈ xs, u.oneCell' = true) (hm : n ≤ 1000) :
    Calls Try.prog 19 #[.slice (some ⟨g, 0, none⟩) n c] w (ClonePost w n xs) := by
  obtain ⟨i0, hi, hz0, hz1, hz2⟩ := info_parts info4
  have HH := Lib.hid h
  have H1 := Lib.hid h1
  clear h h1
  have hML : maxLen = 9223372036854775807 := by decide
  have HM := Lib.hid hML
  clear hML
  have heq := fun wx => Lib.run_eql_slice_nil (P := Try.prog) wx 35 4 (some ⟨g, 0, none⟩) n c 0 0 Try.underlying35
  have hlit := World.ownsRow_lit (base := w.heap.size) (size := 1) (e := 4) w #[] 0 (Nat.le_refl _) (by decide) rfl
  have HL := Lib.hid hlit
  clear hlit
  go_enter Try.func19, Try.ntmps19
  go_wp2_with (at_builtin; refine wpList_append_own _ rfl _ _ 35 rfl w.heap.size 4 i0 (.bool false) 1 1 Try.underlying35 hi hz0 hz1 hz2 rfl (by decide) _ 0 [] rfl HL.out ⟨g, 0, none⟩ n c xs rfl ?c1 ?c2 ?c3 ?c4 ?c5 ?c6 ?_)
  case c1 => have := HH.out.1; omega
  case c2 =>
    intro j u hj
    have h2 := HH.out.cells rfl j u hj
    rw [Addr.add_lit, Nat.zero_add] at h2
    exact (World.cell?_of_block (w := w) (a := ⟨g, j, none⟩) (Below.heap_alloc w _ g (HH.out.lt _ rfl).2)).trans h2
  case c3 => exact H1.out
  case c4 => have := HM.out; omega
  case c5 => omega
  intro v' w' ho hg hne
  have hg' : w.grownBy w' none := ⟨hg.os, hg.tape, hg.output, by have := hg.size; simp at this; omega, fun k hk _ => by
    rw [hg.block k (by simp; omega) (by simp [Value.ownBlock]; omega)]; exact Below.heap_alloc w _ k hk⟩
  obtain ⟨g', c', rfl⟩ : ∃ g' c', v' = .slice (some ⟨g', 0, none⟩) n c' := by
    rcases ho.2 with ⟨h, _⟩ | ⟨g', c', _, h, _⟩
    · exact absurd h hne
    · exact ⟨g', c', h⟩
  have F := Lib.hid (And.intro ho hg')
  clear ho hg hne hg'
  go_wp2
  go_ret
  exact ⟨_, _, rfl, F.out⟩

def CopyPost (w : World) (bs : List Bool) (e : Ending) (w' : World) : Prop := ∃ b g, e = .returned (.pointer (some ⟨b, 0, none⟩)) ∧ SpaceAt w' w.heap.size b g bs ∧ w.grownBy w' none
set_option maxHeartbeats 400000 in
theorem copy_any (base b g : Nat) (bs : List Bool) (w : World) (h : SpaceAt w base b g bs) (hm : bs.length ≤ 1000) :
    Calls Try.prog 16 #[.pointer (some ⟨b, 0, none⟩)] w (CopyPost w bs) := by
  obtain ⟨hb, ne, c, hh, own⟩ := h
  have hcell : w.cell? ⟨b, 0, none⟩ = some (.slice (some ⟨g, 0, none⟩) bs.length c) := by simp [World.cell?, hh]
  have OWN := Lib.hid own
  clear own
  have H1 : Hid (∀ u ∈ bs.map Value.bool, u.oneCell' = true) := by
    intro u hu
    obtain ⟨_, _, rfl⟩ := List.mem_map.1 hu
    rfl
  go_enter Try.func16, Try.ntmps16
  go_wp2_with (go_at_call 19; refine (clone_any _ _ _ _ _ _ OWN.out H1.out hm).mono ?_; rintro e w' ⟨g', c', rfl, HO, HG⟩)
  go_ret
  have hgs := HG.size
  have hlt : g' < w'.heap.size := (HO.lt _ rfl).2
  have hge : w.heap.size ≤ g' := (HO.lt _ rfl).1
  refine ⟨_, g', rfl, ⟨by omega, by omega, c', heap_alloc_new w' _, HO.alloc _⟩, ?_⟩
  exact ⟨HG.os, HG.tape, HG.output, by simp; omega, fun k hk _ => by rw [Below.heap_alloc w' _ _ (by omega)]; exact HG.block k hk (by simp)⟩
end Go.Proofs.Ytnfipkbokfmfjab
