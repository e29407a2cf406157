import Derived.Test.YtnfipkbokfmfjaaCutJ
namespace Go.Proofs.Ytnfipkbokfmfjaa
open Go.RowKit
theorem endsL_nil (a : Int) : endsL [] a = [] := by rw [endsL]; simp
theorem endsL_cons (s : List Int) (a : Int) (h : s ≠ []) : endsL s a = (a + pl s) :: endsL (s.drop (pl s)) (a + pl s) := by rw [endsL]; simp [h]
theorem endsL_at (s : List Int) (a : Int) (i : Nat) (h : i < (endsL s a).length) : ∃ o : Nat, o ≤ s.length ∧ (endsL s a).getD i 0 = a + o ∧ (endsL s a).drop (i + 1) = endsL (s.drop o) (a + o) := by
  induction i generalizing s a with
  | zero =>
    by_cases hs : s = []
    · subst hs; simp [endsL_nil] at h
    · rw [endsL_cons s a hs]
      exact ⟨pl s, (pl_bounds s).1, by simp, by simp⟩
  | succ i ih =>
    by_cases hs : s = []
    · subst hs; simp [endsL_nil] at h
    · rw [endsL_cons s a hs] at h ⊢
      obtain ⟨o, h1, h2, h3⟩ := ih (s.drop (pl s)) (a + pl s) (by simpa using h)
      have hb := (pl_bounds s).1
      simp at h1
      refine ⟨pl s + o, by omega, ?_, ?_⟩
      · rw [List.getD_cons_succ, h2]; omega
      · rw [List.drop_succ_cons, h3, List.drop_drop, show a + (pl s : Int) + (o : Int) = a + ((pl s + o : Nat) : Int) by omega]
theorem endsL_last (s : List Int) (a : Int) (h : s ≠ []) : ∃ i, i < (endsL s a).length ∧ (endsL s a).getD i 0 = a + s.length := by
  induction hn : s.length using Nat.strongRecOn generalizing s a with
  | _ n ih =>
    have hb := (pl_bounds s).1
    have hp := pl_pos s h
    rw [endsL_cons s a h]
    by_cases hd : s.drop (pl s) = []
    · have : pl s = s.length := by have := congrArg List.length hd; simp at this; omega
      exact ⟨0, by simp, by simp; omega⟩
    · obtain ⟨i, h1, h2⟩ := ih (s.drop (pl s)).length (by simp; omega) (s.drop (pl s)) (a + pl s) hd rfl
      refine ⟨i + 1, by simpa using h1, ?_⟩
      rw [List.getD_cons_succ, h2]
      simp; omega
theorem endsL_len (s : List Int) (a : Int) : (endsL s a).length ≤ s.length := by
  induction hn : s.length using Nat.strongRecOn generalizing s a with
  | _ n ih =>
    by_cases h : s = []
    · subst h; simp [endsL_nil]
    · have hb := (pl_bounds s).1
      have hp := pl_pos s h
      rw [endsL_cons s a h]
      have := ih (s.drop (pl s)).length (by simp; omega) (s.drop (pl s)) (a + pl s) rfl
      simp at this ⊢; omega
theorem endsL_range (s : List Int) (a : Int) (i : Nat) (h : i < (endsL s a).length) : a ≤ (endsL s a).getD i 0 ∧ (endsL s a).getD i 0 ≤ a + s.length := by
  obtain ⟨o, h1, h2, _⟩ := endsL_at s a i h
  omega
/-- Where both end a piece at the same place of the common part, all is the same from there on. -/
theorem ends_again (a b c : List Int) (i j : Nat) (hi : i < (endsL (a ++ c) (-(a.length : Int))).length) (hj : j < (endsL (b ++ c) (-(b.length : Int))).length)
    (he : (endsL (a ++ c) (-(a.length : Int))).getD i 0 = (endsL (b ++ c) (-(b.length : Int))).getD j 0) (h0 : 0 ≤ (endsL (a ++ c) (-(a.length : Int))).getD i 0) :
    (endsL (a ++ c) (-(a.length : Int))).drop i = (endsL (b ++ c) (-(b.length : Int))).drop j := by
  obtain ⟨o, _, h2, h3⟩ := endsL_at _ _ i hi
  obtain ⟨q, _, h5, h6⟩ := endsL_at _ _ j hj
  have hd : ∀ (x : List Int) (k : Nat) (hk : k < x.length), x.drop k = x.getD k 0 :: x.drop (k + 1) := fun x k hk => by
    rw [List.drop_eq_getElem_cons hk]; simp [List.getD, hk]
  rw [hd _ i hi, hd _ j hj, h3, h6, he]
  congr 1
  obtain ⟨v, hv⟩ : ∃ v : Nat, o = a.length + v := ⟨o - a.length, by omega⟩
  obtain ⟨u, hu⟩ : ∃ u : Nat, q = b.length + u := ⟨q - b.length, by omega⟩
  have : v = u := by omega
  subst this
  rw [hv, hu, ← List.drop_drop, List.drop_left, ← List.drop_drop, List.drop_left]
  congr 1
  omega
theorem info3 : (Try.prog.info? 3).map (fun i => (i.zero, i.size, i.bytes)) = some (some (.int .i64 0), 1, 8) := by kernel_rfl
/-- What the closure leaves: the places of all ends. -/
def EndsView (w : World) (es : List Int) (m : Nat) (e : Ending) (w' : World) : Prop := ∃ A cap, e = .returned (.slice A m cap) ∧ Below w.heap.size w w' ∧ ∀ i, i < m → ∃ g, A = some ⟨g, 0, none⟩ ∧ w'.cell? ⟨g, i, none⟩ = some (.int .i64 (es.getD i 0))
def Sofar2 (l : List Int) (f : Int) (at_ : Nat) (es : List Int) : Prop := endsL l (-f) = es ++ endsL (l.drop at_) ((at_ : Int) - f) ∧ es.length ≤ at_ ∧ at_ ≤ l.length
theorem Sofar2.step {l : List Int} {f : Int} {at_ m : Nat} {es : List Int} (h : Sofar2 l f at_ es) (hlt : at_ < l.length) (hm : pl (l.drop at_) = m) : Sofar2 l f (at_ + m) (es ++ [(at_ : Int) + m - f]) := by
  obtain ⟨h1, h2, h3⟩ := h
  have hne : l.drop at_ ≠ [] := by intro e; have := congrArg List.length e; simp at this; omega
  have hp := pl_pos _ hne
  have hb := pl_bounds (l.drop at_)
  simp at hb
  refine ⟨?_, by simp; omega, by omega⟩
  rw [h1, endsL_cons _ _ hne, hm, List.drop_drop]
  rw [show (at_ : Int) - f + (m : Int) = (at_ : Int) + m - f by omega, show ((at_ + m : Nat) : Int) - f = (at_ : Int) + m - f by omega]
  simp
theorem Sofar2.done {l : List Int} {f : Int} {at_ : Nat} {es : List Int} (h : Sofar2 l f at_ es) (hge : l.length ≤ at_) : endsL l (-f) = es := by
  rw [h.1, List.drop_eq_nil_of_le hge, endsL_nil]; simp
theorem ends_view {w w' : World} {v : Value} {es : List Int} {m : Nat} (ho : w'.ownsRow w.heap.size 3 1 v es.length (es.map (Value.int .i64))) (hb : Below w.heap.size w w') (hm : es.length = m) : EndsView w es m (.returned v) w' := by
  subst hm
  rcases ho.2 with ⟨rfl, h0⟩ | ⟨g, cap, cur, rfl, hbg, hh, hnc, hcm, hcs, ht⟩
  · exact ⟨none, 0, by rw [h0], hb, fun i hi => by omega⟩
  · refine ⟨_, cap, rfl, hb, fun i hi => ⟨g, rfl, ?_⟩⟩
    rw [ho.cellAt i (by omega)]; simp [List.getD, hi]
set_option maxHeartbeats 400000 in
theorem closure_any (A : Option Addr) (n cap : Nat) (l : List Int) (f : Nat) (es : List Int) (k : Nat) (w : World) (h : Byt w A cap l) (hn : l.length = n) (hf : f ≤ 1000000) (hes : endsL l (-(f : Int)) = es) (hk : es.length = k) :
    Calls Try.prog 15 #[.slice A n cap, .int .i64 f] w (EndsView w es k) := by
  obtain ⟨i0, hi, hz0, hz1, hz2⟩ := info_parts info3
  have hn6 : n ≤ 1000000 := by have := h.small; omega
  have HB := Lib.hid h
  have HN := Lib.hid hn
  have HES := Lib.hid hes
  have HK := Lib.hid hk
  clear h hn hes hk
  go_enter Try.func15, Try.ntmps15
  go_wp2
  go_loopw [5, 6] (fun v q wr => ∃ (at_ : Nat) (ps : List Int), q = .int .i64 at_ ∧ Hid (Sofar2 l f at_ ps) ∧ Hid (wr.ownsRow w.heap.size 3 1 v ps.length (ps.map (Value.int .i64))) ∧ Hid (Below w.heap.size w wr)) (fun _ q _ => n - (intOf q).toNat)
  case atStart => exact ⟨0, [], rfl, ⟨by simp, by simp, by simp⟩, World.ownsRow_nil _ _ _ _, Below.refl _ _⟩
  case round =>
    obtain ⟨at_, ps, rfl, hS, hO, hB⟩ := hrel
    have hatn : at_ ≤ n := by have := hS.out.2.2; have := HN.out; omega
    by_cases hlt : at_ < n
    · have HY := Lib.hid (HB.out.below hB.out)
      obtain ⟨m, hm⟩ : ∃ m, Hid (pl (l.drop at_) = m) := ⟨_, rfl⟩
      have hmb : at_ + m ≤ n ∧ 0 < m := by
        have h1 := pl_bounds (l.drop at_)
        have h2 := pl_pos (l.drop at_) (by intro e; have := congrArg List.length e; have := HN.out; simp at *; omega)
        have := hm.out; have := HN.out; simp at *; omega
      obtain ⟨hm1, hm0⟩ := hmb
      have hpl : Hid (ps.length ≤ n) := by show _ ≤ _; have := hS.out.2.1; omega
      have HM : Hid (maxLen = 9223372036854775807) := by show _ = _; decide
      go_wp2_with (first | (go_at_call 13; (with_reducible refine (ends_at _ _ _ l at_ m wr HY.out HN.out hlt hm.out).mono ?_); rintro e w' ⟨rfl, rfl⟩) | (at_builtin; refine wpList_append_own_at _ rfl _ _ 30 rfl w.heap.size 3 i0 (.int .i64 0) 1 8 Try.underlying30 hi hz0 hz1 hz2 rfl (by decide) _ ps.length _ rfl (hO.out.alloc _) ⟨wr.heap.size, 0, none⟩ 1 1 [.int .i64 ((at_ : Int) + m - f)] rfl rfl ?c1 ?c2 ?c3 ?c4 ?c5 ?_))
      case c1 => exact cell_one_new _ _ _
      case c2 => intro u hu; simp at hu; subst hu; rfl
      case c3 => have := HM.out; have := hpl.out; omega
      case c4 => have := hpl.out; omega
      case c5 => have := hB.out.size; simp; omega
      intro v' w3 ho hg _ hat
      have HS3 := Lib.hid (hS.out.step (by have := HN.out; omega) hm.out)
      have HO3 : Hid (w3.ownsRow w.heap.size 3 1 v' (ps ++ [(at_ : Int) + m - f]).length ((ps ++ [(at_ : Int) + m - f]).map (Value.int .i64))) := by show World.ownsRow _ _ _ _ _ _ _; simpa using ho
      have HB3 := Lib.hid ((hB.out.alloc hB.out.size (.cells #[.int .i64 ((at_ : Int) + m - f)] 3)).grown hg (by have := hB.out.size; simp; omega) (fun k hk => (hO.out.lt k hk).1))
      clear ho hg hat
      go_wp2
      go_roundw
      case rel => exact ⟨at_ + m, _, by go_num, HS3, HO3, HB3⟩
      case measure => simp [intOf]; omega
    · have HD := Lib.hid ((hS.out.done (by have := HN.out; omega)).symm.trans HES.out)
      go_wp2
      go_ret
      obtain rfl := HD.out
      exact ends_view hO.out hB.out HK.out
end Go.Proofs.Ytnfipkbokfmfjaa
