import Derived.Test.YtnfipkbokfmfjaaCutD
namespace Go.Proofs.Ytnfipkbokfmfjaa
open Go.RowKit
theorem Byt.sub {w : World} {x : Addr} {cap : Nat} {l : List Int} (h : Byt w (some x) cap l) (at_ m : Nat) (hm : at_ + m ≤ l.length) : Byt w (some (x.add at_)) (cap - at_) ((l.drop at_).take m) := by
  have hl : ((l.drop at_).take m).length = m := by simp; omega
  refine ⟨by have := h.le; omega, by have := h.small; omega, fun j hj => ?_⟩
  obtain ⟨y, hy, hc, h0, h1⟩ := h.cell (at_ + j) (by omega)
  cases hy
  have he : ((l.drop at_).take m).getD j 0 = l.getD (at_ + j) 0 := by
    simp only [List.getD_eq_getElem?_getD, List.getElem?_take, List.getElem?_drop]
    rw [if_pos (by omega)]
  rw [he]
  exact ⟨_, rfl, by rw [show (x.add at_).add j = x.add (at_ + j) by unfold Addr.add; split <;> split <;> simp_all [Nat.add_assoc]]; exact hc, h0, h1⟩
theorem ends_at (A : Option Addr) (n cap : Nat) (l : List Int) (f m : Nat) (w : World) (h : Byt w A cap l) (hn : l.length = n) (hi : f < n) (hm : pl (l.drop f) = m) :
    Calls Try.prog 13 #[.slice A n cap, .int .i64 f] w fun e w' => e = .returned (.int .i64 ((f : Int) + m)) ∧ w = w' := by
  subst hm; exact ends_in A n cap l f w h hn hi
theorem rends_at (A : Option Addr) (n cap : Nat) (l : List Int) (f m : Nat) (w : World) (h : Byt w A cap l) (hn : l.length = n) (hi : f < n) (hm : pl (l.drop f) = m) :
    Calls Try.prog 14 #[.slice A n cap, .int .i64 f] w fun e w' => e = .returned (.int .i64 ((f : Int) + m)) ∧ w = w' := by
  subst hm; exact rends_in A n cap l f w h hn hi
/-- The pieces so far, and what is left. -/
def Sofar (l : List Int) (at_ : Nat) (ps : List (List Int)) : Prop := cut l = ps ++ cut (l.drop at_) ∧ ps.length ≤ at_ ∧ at_ ≤ l.length
def CloneN (w : World) (m : Nat) (l : List Int) (e : Ending) (w' : World) : Prop :=
  ∃ g c, e = .returned (.slice (some ⟨g, 0, none⟩) m c) ∧ Byt w' (some ⟨g, 0, none⟩) c l ∧ w.heap.size ≤ g ∧ g < w'.heap.size ∧ w.grownBy w' none
theorem clone_n (x : Addr) (c m : Nat) (l : List Int) (w : World) (h : Byt w (some x) c l) (hl : l.length = m) (hx : 0 < m) :
    Calls Try.prog 16 #[.slice (some x) m c] w (CloneN w m l) := by
  subst hl; exact clone_any x c l w h (by intro e; subst e; simp at hx)
theorem Sofar.step {l : List Int} {at_ m : Nat} {ps : List (List Int)} (h : Sofar l at_ ps) (hlt : at_ < l.length) (hm : pl (l.drop at_) = m) : Sofar l (at_ + m) (ps ++ [(l.drop at_).take m]) := by
  obtain ⟨h1, h2, h3⟩ := h
  have hne : l.drop at_ ≠ [] := by intro e; have := congrArg List.length e; simp at this; omega
  have hp := pl_pos _ hne
  have hb := pl_bounds (l.drop at_)
  simp at hb
  refine ⟨?_, by simp; omega, by omega⟩
  rw [h1, cut_cons _ hne, hm, List.drop_drop]; simp
theorem Sofar.done {l : List Int} {at_ : Nat} {ps : List (List Int)} (h : Sofar l at_ ps) (hge : l.length ≤ at_) : cut l = ps := by
  rw [h.1, List.drop_eq_nil_of_le hge, cut_nil]; simp
set_option maxHeartbeats 400000 in
theorem cut_any (A : Option Addr) (n cap : Nat) (l : List Int) (w : World) (h : Byt w A cap l) (hn : l.length = n) :
    Calls Try.prog 9 #[.slice A n cap] w (CutPost w (cut l)) := by
  obtain ⟨i0, hi, hz0, hz1, hz2⟩ := info_parts info22
  have hn6 : n ≤ 1000000 := by have := h.small; omega
  have HB := Lib.hid h
  have HN := Lib.hid hn
  clear h hn
  go_enter Try.func9, Try.ntmps9
  go_wp2
  go_loopw [3, 4, 5] (fun v q _ wr => ∃ (at_ : Nat) (ps : List (List Int)) (vals : List Value), q = .int .i64 at_ ∧ Hid (Sofar l at_ ps) ∧ Hid (wr.ownsRow w.heap.size 22 1 v ps.length vals) ∧ Hid (Pcs wr v.ownBlock vals ps) ∧ Hid (Below w.heap.size w wr)) (fun _ q _ _ => n - (intOf q).toNat)
  case atStart => exact ⟨0, [], [], rfl, ⟨by simp, by simp, by simp⟩, World.ownsRow_nil _ _ _ _, Pcs.nil _ _, Below.refl _ _⟩
  case round =>
    obtain ⟨at_, ps, vals, rfl, hS, hO, hP, hB⟩ := hrel
    have hatn : at_ ≤ n := by have := hS.out.2.2; have := HN.out; omega
    by_cases hlt : at_ < n
    · obtain ⟨x, hx, hcx, _⟩ := HB.out.cell at_ (by have := HN.out; omega)
      cases hx
      have hxl : x.block < w.heap.size := by have := World.block_lt_of_cell? w _ hcx; rwa [show (x.add at_).block = x.block by unfold Addr.add; split <;> rfl] at this
      clear hcx
      have hBr := HB.out.keep (hB.out.block x.block hxl)
      have HBr := Lib.hid hBr
      clear hBr
      obtain ⟨m, hm⟩ : ∃ m, Hid (pl (l.drop at_) = m) := ⟨_, rfl⟩
      have hmb : at_ + m ≤ n ∧ 0 < m := by
        have h1 := pl_bounds (l.drop at_)
        have h2 := pl_pos (l.drop at_) (by intro e; have := congrArg List.length e; have := HN.out; simp at *; omega)
        have := hm.out; have := HN.out; simp at *; omega
      obtain ⟨hm1, hm0⟩ := hmb
      have hcn : n ≤ cap := by have := HB.out.le; have := HN.out; omega
      have hcap : ¬ cap = at_ := by omega
      have HSUB := Lib.hid (HBr.out.sub at_ m (by have := HN.out; omega))
      have HLEN : Hid (((l.drop at_).take m).length = m) := by show _ = _; have := HN.out; simp; omega
      have hpl : Hid (ps.length ≤ n) := by show _ ≤ _; have := hS.out.2.1; omega
      have HM : Hid (maxLen = 9223372036854775807) := by show _ = _; decide
      go_wp2_with (go_at_call 13; (with_reducible refine (ends_at _ _ _ l at_ m wr HBr.out HN.out hlt hm.out).mono ?_); rintro e w' ⟨rfl, rfl⟩)
      have KO : Hid (∀ w2, wr.grownBy w2 none → w2.ownsRow w.heap.size 22 1 u3 ps.length vals) := fun w2 HG2 => hO.out.kept HG2 (by cases u3.ownBlock <;> simp)
      go_wp2_with (first | (go_at_call 16; (with_reducible refine (clone_n _ _ _ _ wr HSUB.out HLEN.out hm0).mono ?_); rintro e w2 ⟨g, c, rfl, HB2, hg0, hg1, HG2⟩; have HO2 := Lib.hid (KO.out w2 HG2)) | (at_builtin; refine wpList_append_own_at _ rfl _ _ 24 rfl w.heap.size 22 i0 (.slice none 0 0) 1 24 Try.underlying24 hi hz0 hz1 hz2 rfl (by decide) _ ps.length vals rfl (HO2.out.alloc _) ⟨w2.heap.size, 0, none⟩ 1 1 [.slice (some ⟨g, 0, none⟩) m c] rfl rfl ?c1 ?c2 ?c3 ?c4 ?c5 ?_))
      case c1 => exact cell_one_new _ _ _
      case c2 => intro u hu; simp at hu; subst hu; rfl
      case c3 => have := HM.out; have := hpl.out; omega
      case c4 => have := hpl.out; omega
      case c5 => have := hB.out.size; have := HG2.size; simp; omega
      intro v' w3 ho hg _ hat
      have hgv : some g ≠ u3.ownBlock := fun e => by have := (hO.out.lt g e.symm).2; omega
      have HP3 := Lib.hid (Pieces.snoc hP.out hB.out HG2 HO2.out HB2 hg1 hgv (by intro e; have := HLEN.out; rw [e] at this; simp at this; omega) (by rw [HLEN.out]; exact ho) (by rw [HLEN.out]; exact hg) hat)
      have HS3 := Lib.hid (hS.out.step (by have := HN.out; omega) hm.out)
      clear ho hg hat HB2 hg0 hg1 HG2 HO2 KO hgv
      go_wp2
      go_roundw
      case rel =>
        obtain ⟨vals', h1, h2, h3⟩ := HP3.out
        exact ⟨at_ + m, _, vals', by go_num, HS3, h1, h2, h3⟩
      case measure => simp [intOf]; omega
    · have HD := Lib.hid (hS.out.done (by have := HN.out; omega))
      have HP := Lib.hid (show Pieces w wr u3 ps from ⟨vals, hO.out, hP.out, hB.out⟩)
      go_wp2
      go_ret
      exact ⟨_, rfl, by rw [HD.out]; exact HP.out⟩
set_option maxHeartbeats 400000 in
theorem rcut_any (A : Option Addr) (n cap : Nat) (l : List Int) (w : World) (h : Byt w A cap l) (hn : l.length = n) :
    Calls Try.prog 10 #[.slice A n cap] w (CutPost w (cut l)) := by
  obtain ⟨i0, hi, hz0, hz1, hz2⟩ := info_parts info22
  have hn6 : n ≤ 1000000 := by have := h.small; omega
  have HB := Lib.hid h
  have HN := Lib.hid hn
  clear h hn
  go_enter Try.func10, Try.ntmps10
  go_wp2
  go_loopw [3, 4, 5] (fun v q _ wr => ∃ (at_ : Nat) (ps : List (List Int)) (vals : List Value), q = .int .i64 at_ ∧ Hid (Sofar l at_ ps) ∧ Hid (wr.ownsRow w.heap.size 22 1 v ps.length vals) ∧ Hid (Pcs wr v.ownBlock vals ps) ∧ Hid (Below w.heap.size w wr)) (fun _ q _ _ => n - (intOf q).toNat)
  case atStart => exact ⟨0, [], [], rfl, ⟨by simp, by simp, by simp⟩, World.ownsRow_nil _ _ _ _, Pcs.nil _ _, Below.refl _ _⟩
  case round =>
    obtain ⟨at_, ps, vals, rfl, hS, hO, hP, hB⟩ := hrel
    have hatn : at_ ≤ n := by have := hS.out.2.2; have := HN.out; omega
    by_cases hlt : at_ < n
    · obtain ⟨x, hx, hcx, _⟩ := HB.out.cell at_ (by have := HN.out; omega)
      cases hx
      have hxl : x.block < w.heap.size := by have := World.block_lt_of_cell? w _ hcx; rwa [show (x.add at_).block = x.block by unfold Addr.add; split <;> rfl] at this
      clear hcx
      have hBr := HB.out.keep (hB.out.block x.block hxl)
      have HBr := Lib.hid hBr
      clear hBr
      obtain ⟨m, hm⟩ : ∃ m, Hid (pl (l.drop at_) = m) := ⟨_, rfl⟩
      have hmb : at_ + m ≤ n ∧ 0 < m := by
        have h1 := pl_bounds (l.drop at_)
        have h2 := pl_pos (l.drop at_) (by intro e; have := congrArg List.length e; have := HN.out; simp at *; omega)
        have := hm.out; have := HN.out; simp at *; omega
      obtain ⟨hm1, hm0⟩ := hmb
      have hcn : n ≤ cap := by have := HB.out.le; have := HN.out; omega
      have hcap : ¬ cap = at_ := by omega
      have HSUB := Lib.hid (HBr.out.sub at_ m (by have := HN.out; omega))
      have HLEN : Hid (((l.drop at_).take m).length = m) := by show _ = _; have := HN.out; simp; omega
      have hpl : Hid (ps.length ≤ n) := by show _ ≤ _; have := hS.out.2.1; omega
      have HM : Hid (maxLen = 9223372036854775807) := by show _ = _; decide
      have hxv : some x.block ≠ u3.ownBlock := fun e => by have := (hO.out.lt x.block e.symm).1; omega
      go_wp2_with (first | (go_at_call 14; (with_reducible refine (rends_at _ _ _ l at_ m wr HBr.out HN.out hlt hm.out).mono ?_); rintro e w' ⟨rfl, rfl⟩) | (at_builtin; refine wpList_append_own_at _ rfl _ _ 24 rfl w.heap.size 22 i0 (.slice none 0 0) 1 24 Try.underlying24 hi hz0 hz1 hz2 rfl (by decide) _ ps.length vals rfl (hO.out.alloc _) ⟨wr.heap.size, 0, none⟩ 1 1 [.slice (some (x.add at_)) m (cap - at_)] rfl rfl ?c1 ?c2 ?c3 ?c4 ?c5 ?_))
      case c1 => exact cell_one_new _ _ _
      case c2 => intro u hu; simp at hu; subst hu; rfl
      case c3 => have := HM.out; have := hpl.out; omega
      case c4 => have := hpl.out; omega
      case c5 => have := hB.out.size; simp; omega
      intro v' w3 ho hg _ hat
      have hab : (x.add at_).block = x.block := by unfold Addr.add; split <;> rfl
      have HP3 := Lib.hid (Pieces.snoc hP.out hB.out (World.grownBy.refl wr none) hO.out HSUB.out (by rw [hab]; have := hB.out.size; omega) (by rw [hab]; exact hxv) (by intro e; have := HLEN.out; rw [e] at this; simp at this; omega) (by rw [HLEN.out]; exact ho) (by rw [HLEN.out]; exact hg) hat)
      have HS3 := Lib.hid (hS.out.step (by have := HN.out; omega) hm.out)
      clear ho hg hat hxv hab
      go_wp2
      go_roundw
      case rel =>
        obtain ⟨vals', h1, h2, h3⟩ := HP3.out
        exact ⟨at_ + m, _, vals', by go_num, HS3, h1, h2, h3⟩
      case measure => simp [intOf]; omega
    · have HD := Lib.hid (hS.out.done (by have := HN.out; omega))
      have HP := Lib.hid (show Pieces w wr u3 ps from ⟨vals, hO.out, hP.out, hB.out⟩)
      go_wp2
      go_ret
      exact ⟨_, rfl, by rw [HD.out]; exact HP.out⟩
end Go.Proofs.Ytnfipkbokfmfjaa
