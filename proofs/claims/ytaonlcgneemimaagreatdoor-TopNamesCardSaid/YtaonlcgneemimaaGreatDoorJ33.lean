/- TopNames: the contracts of Y7, Y8, Y9, Y10, Y12, Y13, Y14; no condition. -/
import Derived.Test.YtaonlcgneemimaaGreatDoorJ32
import Derived.Test.YtaonlcgneemimaaGreatDoorJ17
import Derived.Test.YtaonlcgneemimaaGreatDoorJ20
import Derived.Test.YtaonlcgneemimaaGreatDoorJ21
import Derived.Deep.Cut
namespace Go.Proofs.YtaonlcgneemimaaGreatDoor
open Go.RowKit
/-- An engine has moved. -/
structure EngMove (w : World) (e : Nat) (x : EngX) (W : World) (x' : EngX) : Prop where
  eng : EngAt W e x'
  fr : Frame (x.mut e) w W
  own : ∀ y ∈ x'.mut e, y ∈ x.mut e ∨ w.heap.size ≤ y
theorem EngMove.refl {w W : World} {e : Nat} {x : EngX} (h : EngAt w e x) (hb : Below w.heap.size w W) : EngMove w e x W x := ⟨h.below hb, Frame.of_below hb _, fun _ h => .inl h⟩
theorem EngMove.trans {w W1 W2 : World} {e : Nat} {x x1 x2 : EngX} (h : EngMove w e x W1 x1) (k : EngMove W1 e x1 W2 x2) : EngMove w e x W2 x2 :=
  ⟨k.eng, h.fr.trans k.fr h.own, fun y hy => by
    rcases k.own y hy with h1 | h1
    · exact h.own y h1
    · exact .inr (Nat.le_trans h.fr.size h1)⟩
theorem EngMove.below {w W W2 : World} {e : Nat} {x x' : EngX} (h : EngMove w e x W x') (hb : Below W.heap.size W W2) : EngMove w e x W2 x' := h.trans (.refl h.eng hb)
theorem EngMove.slots {w W : World} {e : Nat} {x : EngX} {n : Nat} (h : EngAt W e { x with number := n, k := 0 }) (hf : Frame [e, x.d, x.l, x.cb] w W) : EngMove w e x W { x with number := n, k := 0 } :=
  ⟨h, hf.mono (fun y hy => .inl (by simp only [EngX.mut, List.mem_cons, List.not_mem_nil, or_false] at hy ⊢; rcases hy with h | h | h | h <;> simp [h])), fun _ h => .inl h⟩
/-- Each of the engine's blocks has its own kind. -/
structure EngApart (w : World) (e : Nat) (x : EngX) : Prop where
  e : e ∉ x.c :: x.g :: x.d :: x.l :: x.cb :: x.svC.ownBlock.toList ∧ e ∉ x.j :: x.g :: x.d :: x.l :: x.cb :: x.svJ.ownBlock.toList
  j : x.j ∉ x.c :: x.g :: x.d :: x.l :: x.cb :: x.svC.ownBlock.toList
  c : x.c ∉ x.j :: x.g :: x.d :: x.l :: x.cb :: x.svJ.ownBlock.toList
  sj : ∀ y, x.svJ.ownBlock = some y → y ∉ x.c :: x.g :: x.d :: x.l :: x.cb :: x.svC.ownBlock.toList
  sc : ∀ y, x.svC.ownBlock = some y → y ∉ x.j :: x.g :: x.d :: x.l :: x.cb :: x.svJ.ownBlock.toList
theorem EngAt.parts {w : World} {e : Nat} {x : EngX} (h : EngAt w e x) : EngApart w e x := by
  have hJ := app_apart h.logJ h.disk h.space
  have hC := app_apart h.logC h.disk h.space
  obtain ⟨ga, hga⟩ := h.space.row
  obtain ⟨ops, hd0⟩ := h.disk.cell
  obtain ⟨lr, hl0, -⟩ := h.disk.row
  obtain ⟨mn, mf, hm0, -⟩ := h.disk.map
  have e1 : e ≠ x.c := cells_ty h.cell h.logC.cell (by decide)
  have e2 : e ≠ x.j := cells_ty h.cell h.logJ.cell (by decide)
  have e3 : e ≠ x.g := cells_ty h.cell hga (by decide)
  have e4 : e ≠ x.d := cells_ty h.cell hd0 (by decide)
  have e5 : e ≠ x.l := cells_ty h.cell hl0 (by decide)
  have e6 : e ≠ x.cb := fun hh => hm0.cells (by have := h.cell; rw [hh] at this; exact this)
  have cJ : ∀ y, x.svJ.ownBlock = some y → ∃ arr, w.heap[y]? = some (.cells arr 3 (0, 0)) := fun y hy => own_heap h.logJ.segs hy
  have cC : ∀ y, x.svC.ownBlock = some y → ∃ arr, w.heap[y]? = some (.cells arr 3 (0, 0)) := fun y hy => own_heap h.logC.segs hy
  have jg : x.j ≠ x.g := cells_ty h.logJ.cell hga (by decide)
  have cg : x.c ≠ x.g := cells_ty h.logC.cell hga (by decide)
  have aj := hJ x.j (by simp)
  have ac := hC x.c (by simp)
  refine ⟨⟨?_, ?_⟩, ?_, ?_, fun y hy => ?_, fun y hy => ?_⟩
  · simp only [List.mem_cons, Option.mem_toList, not_or]
    exact ⟨e1, e3, e4, e5, e6, fun hm => by obtain ⟨arr, ha⟩ := cC e hm; exact cells_ty h.cell ha (by decide) rfl⟩
  · simp only [List.mem_cons, Option.mem_toList, not_or]
    exact ⟨e2, e3, e4, e5, e6, fun hm => by obtain ⟨arr, ha⟩ := cJ e hm; exact cells_ty h.cell ha (by decide) rfl⟩
  · simp only [List.mem_cons, Option.mem_toList, not_or]
    exact ⟨h.ne, jg, aj.1, aj.2.1, aj.2.2, fun hm => by obtain ⟨arr, ha⟩ := cC _ hm; exact cells_ty h.logJ.cell ha (by decide) rfl⟩
  · simp only [List.mem_cons, Option.mem_toList, not_or]
    exact ⟨h.ne.symm, cg, ac.1, ac.2.1, ac.2.2, fun hm => by obtain ⟨arr, ha⟩ := cJ _ hm; exact cells_ty h.logC.cell ha (by decide) rfl⟩
  · obtain ⟨arr, ha⟩ := cJ y hy
    have := hJ y (by simp [hy])
    simp only [List.mem_cons, Option.mem_toList, not_or]
    exact ⟨cells_ty ha h.logC.cell (by decide), cells_ty ha hga (by decide), this.1, this.2.1, this.2.2, h.apart y hy⟩
  · obtain ⟨arr, ha⟩ := cC y hy
    have := hC y (by simp [hy])
    simp only [List.mem_cons, Option.mem_toList, not_or]
    exact ⟨cells_ty ha h.logJ.cell (by decide), cells_ty ha hga (by decide), this.1, this.2.1, this.2.2, fun hm => h.apart y hm hy⟩
theorem eng_nodup {bs bs' : List Bool} {A B more : List Int} (hn : (A ++ B).Nodup) (ht : ∀ s ∈ A ++ B, bs[s.toNat]? = some true) (hk : Took bs more bs') : (A ++ (B ++ more)).Nodup := by
  rw [← List.append_assoc, List.nodup_append]
  refine ⟨hn, hk.nodup, fun s hs y hy he => ?_⟩
  subst he
  have h1 := ht s hs
  rw [(hk.mem s hy).2.2] at h1
  cases h1
theorem eng_taken {bs bs' : List Bool} {A more : List Int} (hb : bs.length = 96) (hs : ∀ s ∈ A, 0 ≤ s ∧ s < 96) (ht : ∀ s ∈ A, bs[s.toNat]? = some true) (hk : Took bs more bs') : ∀ s ∈ A ++ more, bs'[s.toNat]? = some true := by
  intro s hm
  rcases List.mem_append.1 hm with h | h
  · have := hs s h
    exact (hk.set s.toNat (by omega)).2 (.inl (ht s h))
  · have := hk.mem s h
    exact (hk.set s.toNat (by omega)).2 (.inr (by rw [show ((s.toNat : Nat) : Int) = s by omega]; exact h))
theorem EngAt.putC {w W : World} {e T : Nat} {x : EngX} {sv' : Value} {more : List Int} {bs' : List Bool} {last' : Int} (h : EngAt w e x) (h1 : LogAt W x.c x.d sv' (x.ssC ++ more) (x.nC + T) last') (h2 : DiskAt W x.d x.l x.cb 776 0) (h3 : SpaceAt W 0 x.b x.g bs') (h4 : Took x.bs more bs')
    (h6 : Frame (x.c :: x.g :: x.d :: x.l :: x.cb :: x.svC.ownBlock.toList) w W) (h7 : sv'.ownBlock = x.svC.ownBlock ∨ ∀ j ∈ sv'.ownBlock.toList, w.heap.size ≤ j) :
    EngMove w e x W { x with k := 0, bs := bs', svC := sv', ssC := x.ssC ++ more, nC := x.nC + T, lastC := last' } := by
  have hp := h.parts
  have hA : ∀ s ∈ x.ssJ ++ x.ssC, 0 ≤ s ∧ s < 96 := fun s hs => by
    rcases List.mem_append.1 hs with h1 | h1
    · exact h.logJ.seg s h1
    · exact h.logC.seg s h1
  refine ⟨⟨h6.heap h.cell hp.e.1, h2, h3, h4.len.trans h.blen, h.logJ.frame h6 hp.j hp.sj, h1, eng_nodup h.nodup h.taken h4, ?_, ?_, h.ne, ?_⟩, ?_, ?_⟩
  · show ∀ s ∈ x.ssJ ++ (x.ssC ++ more), _
    rw [← List.append_assoc]
    exact eng_taken h.blen hA h.taken h4
  · have := h4.fr
    have := h.frees
    simp only [List.length_append]
    omega
  · intro y hy hc
    rcases h7 with h7 | h7
    · exact h.apart y hy (h7 ▸ hc)
    · have h8 := h7 y (by simpa using hc)
      obtain ⟨arr, ha⟩ := own_heap h.logJ.segs hy
      have := heap_lt ha
      omega
  · refine h6.mono (fun y hy => .inl ?_)
    simp only [EngX.mut, List.mem_cons, List.mem_append] at hy ⊢
    rcases hy with h | h | h | h | h | h <;> simp [h]
  · intro y hy
    simp only [EngX.mut, List.mem_cons, List.mem_append] at hy ⊢
    rcases hy with h | h | h | h | h | h | h | h | h
    · simp [h]
    · simp [h]
    · simp [h]
    · simp [h]
    · simp [h]
    · simp [h]
    · simp [h]
    · simp [h]
    · rcases h7 with h7 | h7
      · rw [h7] at h
        simp [h]
      · exact .inr (h7 y h)
theorem EngAt.putJ {w W : World} {e T : Nat} {x : EngX} {sv' : Value} {more : List Int} {bs' : List Bool} {last' : Int} (h : EngAt w e x) (h1 : LogAt W x.j x.d sv' (x.ssJ ++ more) (x.nJ + T) last') (h2 : DiskAt W x.d x.l x.cb 776 0) (h3 : SpaceAt W 0 x.b x.g bs') (h4 : Took x.bs more bs')
    (h6 : Frame (x.j :: x.g :: x.d :: x.l :: x.cb :: x.svJ.ownBlock.toList) w W) (h7 : sv'.ownBlock = x.svJ.ownBlock ∨ ∀ j ∈ sv'.ownBlock.toList, w.heap.size ≤ j) :
    EngMove w e x W { x with k := 0, bs := bs', svJ := sv', ssJ := x.ssJ ++ more, nJ := x.nJ + T, lastJ := last' } := by
  have hp := h.parts
  have hA : ∀ s ∈ x.ssJ ++ x.ssC, 0 ≤ s ∧ s < 96 := fun s hs => by
    rcases List.mem_append.1 hs with h1 | h1
    · exact h.logJ.seg s h1
    · exact h.logC.seg s h1
  have hperm : ((x.ssJ ++ more) ++ x.ssC).Perm (x.ssJ ++ x.ssC ++ more) := by
    rw [List.append_assoc, List.append_assoc]
    exact List.Perm.append_left _ List.perm_append_comm
  refine ⟨⟨h6.heap h.cell hp.e.2, h2, h3, h4.len.trans h.blen, h1, h.logC.frame h6 hp.c hp.sc, ?_, ?_, ?_, h.ne, ?_⟩, ?_, ?_⟩
  · show ((x.ssJ ++ more) ++ x.ssC).Nodup
    rw [hperm.nodup_iff, List.append_assoc]
    exact eng_nodup h.nodup h.taken h4
  · intro s hs
    exact eng_taken h.blen hA h.taken h4 s (hperm.mem_iff.1 hs)
  · have := h4.fr
    have := h.frees
    simp only [List.length_append]
    omega
  · intro y hy hc
    rcases h7 with h7 | h7
    · exact h.apart y (h7 ▸ hy) hc
    · have h8 := h7 y (by simpa using hy)
      obtain ⟨arr, ha⟩ := own_heap h.logC.segs hc
      have := heap_lt ha
      omega
  · refine h6.mono (fun y hy => .inl ?_)
    simp only [EngX.mut, List.mem_cons, List.mem_append] at hy ⊢
    rcases hy with h | h | h | h | h | h <;> simp [h]
  · intro y hy
    simp only [EngX.mut, List.mem_cons, List.mem_append] at hy ⊢
    rcases hy with h | h | h | h | h | h | h | h | h
    · simp [h]
    · simp [h]
    · simp [h]
    · simp [h]
    · simp [h]
    · simp [h]
    · simp [h]
    · rcases h7 with h7 | h7
      · rw [h7] at h
        simp [h]
      · exact .inr (h7 y h)
    · simp [h]
end Go.Proofs.YtaonlcgneemimaaGreatDoor
namespace Go.Proofs.YtaonlcgneemimaaGreatDoor
open Go.RowKit
theorem EngAt.ty {w : World} {e : Nat} {x : EngX} (h : EngAt w e x) : ∀ y ∈ x.mut e, y < w.heap.size ∧ ∀ arr t, w.heap[y]? = some (.cells arr t (0, 0)) → t = 151 ∨ t = 64 ∨ t = 33 ∨ t = 4 ∨ t = 227 ∨ t = 3 := by
  obtain ⟨ga, hga⟩ := h.space.row
  obtain ⟨ops, hd0⟩ := h.disk.cell
  obtain ⟨lr, hl0, -⟩ := h.disk.row
  obtain ⟨mn, mf, hm0, -⟩ := h.disk.map
  have hlt := h.disk.lt
  have gen : ∀ {y : Nat} {a0 : Array Value} {u : Nat}, w.heap[y]? = some (.cells a0 u (0, 0)) → (u = 151 ∨ u = 64 ∨ u = 33 ∨ u = 4 ∨ u = 227 ∨ u = 3) → y < w.heap.size ∧ ∀ arr t, w.heap[y]? = some (.cells arr t (0, 0)) → t = 151 ∨ t = 64 ∨ t = 33 ∨ t = 4 ∨ t = 227 ∨ t = 3 := fun {y} {a0} {u} hy hu => ⟨heap_lt hy, fun arr t hc => by
    rw [hy] at hc
    injection hc with hc
    injection hc with _ h2
    exact h2 ▸ hu⟩
  intro y hy
  simp only [EngX.mut, List.mem_cons, List.mem_append, Option.mem_toList] at hy
  rcases hy with rfl | rfl | rfl | rfl | rfl | rfl | rfl | hy | hy
  · exact gen h.cell (by simp)
  · exact gen hd0 (by simp)
  · exact gen hl0 (by simp)
  · exact ⟨hlt.2.2, fun arr t hc => absurd hc hm0.cells⟩
  · exact gen hga (by simp)
  · exact gen h.logJ.cell (by simp)
  · exact gen h.logC.cell (by simp)
  · obtain ⟨arr, ha⟩ := own_heap h.logJ.segs hy
    exact gen ha (by simp)
  · obtain ⟨arr, ha⟩ := own_heap h.logC.segs hy
    exact gen ha (by simp)
/-- What an engine has come to, told from what it was. -/
structure EngGrew (x x' : EngX) (num tJ tC mJ mC : Nat) : Prop where
  d : x'.d = x.d
  l : x'.l = x.l
  cb : x'.cb = x.cb
  b : x'.b = x.b
  g : x'.g = x.g
  j : x'.j = x.j
  c : x'.c = x.c
  number : x'.number ≤ x.number + num
  nJ : x'.nJ = x.nJ + tJ
  nC : x'.nC = x.nC + tC
  ssJ : x'.ssJ.length = x.ssJ.length + mJ
  ssC : x'.ssC.length = x.ssC.length + mC
  k : x'.k = 0
theorem putC_any (w : World) (e : Nat) (x : EngX) (H : EngAt w e x) (lv : Value) (ls : List (List Int)) (hr : RowsB w lv ls) (hl : ∀ l ∈ ls, 1 ≤ l.length ∧ l.length ≤ 16384) (hk : x.k + sumMany ls ≤ 500000) (he : needN x.ssC.length x.nC (sumMany ls) ≤ sp_frees x.bs) :
    Calls Tryz.prog 73 #[.pointer (some ⟨e, 0, none⟩), .pointer (some ⟨x.c, 0, none⟩), lv] w fun e' w' => e' = .returned (.int .i64 0) ∧ ∃ x', EngMove w e x w' x' ∧ EngGrew x x' 0 0 (sumMany ls) 0 (needN x.ssC.length x.nC (sumMany ls)) := by
  refine (put_raw w e x.c x.d x.l x.cb x.b x.g x.k x.nC x.number x.j x.c x.svC x.ssC x.lastC x.bs H.cell H.logC H.disk H.space H.blen lv ls hr hl hk he (by have := H.frees; omega)).mono ?_
  rintro e' w' ⟨rfl, sv', more, bs', last', h1, h2, h3, h4, h5, h6, h7⟩
  exact ⟨rfl, _, H.putC h1 h2 h3 h4 h6 h7, ⟨rfl, rfl, rfl, rfl, rfl, rfl, rfl, Nat.le_refl _, rfl, rfl, rfl, by simp [h5], rfl⟩⟩
theorem putJ_any (w : World) (e : Nat) (x : EngX) (H : EngAt w e x) (lv : Value) (ls : List (List Int)) (hr : RowsB w lv ls) (hl : ∀ l ∈ ls, 1 ≤ l.length ∧ l.length ≤ 16384) (hk : x.k + sumMany ls ≤ 500000) (he : needN x.ssJ.length x.nJ (sumMany ls) ≤ sp_frees x.bs) :
    Calls Tryz.prog 73 #[.pointer (some ⟨e, 0, none⟩), .pointer (some ⟨x.j, 0, none⟩), lv] w fun e' w' => e' = .returned (.int .i64 0) ∧ ∃ x', EngMove w e x w' x' ∧ EngGrew x x' 0 (sumMany ls) 0 (needN x.ssJ.length x.nJ (sumMany ls)) 0 := by
  refine (put_raw w e x.j x.d x.l x.cb x.b x.g x.k x.nJ x.number x.j x.c x.svJ x.ssJ x.lastJ x.bs H.cell H.logJ H.disk H.space H.blen lv ls hr hl hk he (by have := H.frees; omega)).mono ?_
  rintro e' w' ⟨rfl, sv', more, bs', last', h1, h2, h3, h4, h5, h6, h7⟩
  exact ⟨rfl, _, H.putJ h1 h2 h3 h4 h6 h7, ⟨rfl, rfl, rfl, rfl, rfl, rfl, rfl, Nat.le_refl _, rfl, rfl, by simp [h5], rfl, rfl⟩⟩
theorem EngGrew.slots {x x' : EngX} {num tJ tC mJ mC : Nat} (h : EngGrew x x' num tJ tC mJ mC) : EngGrew x { x' with number := x'.number + 2, k := 0 } (num + 2) tJ tC mJ mC :=
  ⟨h.d, h.l, h.cb, h.b, h.g, h.j, h.c, by have := h.number; simp only; omega, h.nJ, h.nC, h.ssJ, h.ssC, rfl⟩
theorem EngGrew.trans {x x1 x2 : EngX} {n1 n2 tJ tC mJ mC tJ2 tC2 mJ2 mC2 : Nat} (h : EngGrew x x1 n1 tJ tC mJ mC) (k : EngGrew x1 x2 n2 tJ2 tC2 mJ2 mC2) : EngGrew x x2 (n1 + n2) (tJ + tJ2) (tC + tC2) (mJ + mJ2) (mC + mC2) :=
  ⟨k.d.trans h.d, k.l.trans h.l, k.cb.trans h.cb, k.b.trans h.b, k.g.trans h.g, k.j.trans h.j, k.c.trans h.c, by have := h.number; have := k.number; omega, by rw [k.nJ, h.nJ]; omega, by rw [k.nC, h.nC]; omega, by rw [k.ssJ, h.ssJ]; omega, by rw [k.ssC, h.ssC]; omega, k.k⟩
theorem slotsG_any (w : World) (e : Nat) (x : EngX) (H : EngAt w e x) (hn : x.number + 2 ≤ 2147483647) (hk : x.k ≤ 900000) :
    Calls Tryz.prog 47 #[.pointer (some ⟨e, 0, none⟩)] w fun e' w' => e' = .returned (.int .i64 0) ∧ ∃ x', EngMove w e x w' x' ∧ EngGrew x x' 2 0 0 0 0 := by
  refine (slots_any w e x H hn hk).mono ?_
  rintro e' w' ⟨rfl, h1, h2⟩
  exact ⟨rfl, _, .slots h1 h2, ⟨rfl, rfl, rfl, rfl, rfl, rfl, rfl, by simp, rfl, rfl, rfl, rfl, rfl⟩⟩
/-- Rows that lie apart from the engine stay. -/
theorem RowsB.move {w W : World} {e : Nat} {x x' : EngX} {lv : Value} {ls : List (List Int)} (h : RowsB w lv ls) (H : EngAt w e x) (hm : EngMove w e x W x') (ha : ∀ g, lv.ownBlock = some g → g ∉ x.mut e) : RowsB W lv ls :=
  h.frame hm.fr (fun g hg hl => ha g hl hg) (fun g hg arr hc => absurd ((H.ty g hg).2 arr 5 hc) (by decide))
end Go.Proofs.YtaonlcgneemimaaGreatDoor
namespace Go.Proofs.YtaonlcgneemimaaGreatDoor
open Go.RowKit
/-- What Append leaves. -/
def AppendPost (w : World) (e : Nat) (x : EngX) (T M : Nat) (e' : Ending) (w' : World) : Prop :=
  e' = .returned (.int .i64 0) ∧ ∃ x', EngMove w e x w' x' ∧ EngGrew x x' 4 M T (needN x.ssJ.length x.nJ M) (needN x.ssC.length x.nC T)
theorem row_one (w : World) (v : Value) (p : List Int) (hv : Sl w 5 1 v p.length (u8s p)) (h1 : v.oneCell' = true) : RowsB (w.alloc (.cells #[v] 33)) (.slice (some ⟨w.heap.size, 0, none⟩) 1 1) [p] := by
  refine ⟨[v], ?_, fun i u l hu hl => ?_⟩
  · exact Sl.block (xs := [v]) (n := 1) (heap_new w _) rfl (by simpa using h1) (by decide) (by decide)
  · cases i with
    | zero =>
      simp only [List.getElem?_cons_zero, Option.some.injEq] at hu hl
      subst hu
      subst hl
      exact hv.below (crc_below _ _)
    | succ i => simp at hu
set_option maxRecDepth 100000 in
set_option maxHeartbeats 4000000 in
theorem append_any (w : World) (e : Nat) (x : EngX) (H : EngAt w e x) (lv : Value) (ls : List (List Int)) (hr : RowsB w lv ls) (hl : ∀ l ∈ ls, 1 ≤ l.length ∧ l.length ≤ 16384) (v : Value) (p : List Int) (hv : Sl w 5 1 v p.length (u8s p)) (h0 : 1 ≤ p.length) (h1 : p.length ≤ 16384)
    (hT : sumMany ls ≤ 100000) (hk : x.k ≤ 100000) (hn : x.number + 4 ≤ 2147483647) (hok : needN x.ssC.length x.nC (sumMany ls) + needN x.ssJ.length x.nJ (manyN p.length) ≤ sp_frees x.bs) :
    Calls Tryz.prog 32 #[.pointer (some ⟨e, 0, none⟩), lv, v] w (AppendPost w e x (sumMany ls) (manyN p.length)) := by
  have HH := Lib.hid H
  have HR := Lib.hid hr
  have HL := Lib.hid hl
  obtain ⟨va, vcap, rfl, -, -, -⟩ := hv.shape
  obtain ⟨Q, hQ⟩ : ∃ Q, Hid (Q = AppendPost w e x (sumMany ls) (manyN p.length)) := ⟨_, Lib.hid rfl⟩
  obtain ⟨la, cap, hlv, hcap, -⟩ := hr.at
  obtain ⟨W1, hW1⟩ : ∃ W1, Hid (W1 = w.alloc (.cells #[.slice va p.length vcap] 33)) := ⟨_, Lib.hid rfl⟩
  have B1 : Hid (Below w.heap.size w W1) := Lib.hid (by rw [hW1.out]; exact crc_below _ _)
  have R7 : Hid (RowsB W1 (.slice (some ⟨w.heap.size, 0, none⟩) 1 1) [p]) := Lib.hid (by rw [hW1.out]; exact row_one w _ p hv rfl)
  have hs7 : sumMany [p] = manyN p.length := by simp [sumMany]
  have HP : Hid (∀ l ∈ [p], 1 ≤ l.length ∧ l.length ≤ 16384) := Lib.hid (by simpa using ⟨h0, h1⟩)
  have hM : manyN p.length ≤ 304 := by unfold manyN; omega
  obtain ⟨T, hTT⟩ : ∃ T, Hid (T = sumMany ls) := ⟨_, Lib.hid rfl⟩
  obtain ⟨M, hMM⟩ : ∃ M, Hid (M = manyN p.length) := ⟨_, Lib.hid rfl⟩
  obtain ⟨nc, hnc⟩ : ∃ nc, Hid (nc = needN x.ssC.length x.nC T) := ⟨_, Lib.hid rfl⟩
  obtain ⟨nj, hnj⟩ : ∃ nj, Hid (nj = needN x.ssJ.length x.nJ M) := ⟨_, Lib.hid rfl⟩
  obtain ⟨fr, hfr⟩ : ∃ fr, Hid (fr = sp_frees x.bs) := ⟨_, Lib.hid rfl⟩
  rw [← hTT.out, ← hMM.out, ← hnc.out, ← hnj.out, ← hfr.out] at hok
  rw [← hTT.out] at hT
  rw [← hMM.out] at hM
  have hfr96 : fr ≤ 96 := by have := H.frees; have := hfr.out; omega
  have FN1 : Hid (Calls Tryz.prog 70 #[lv] W1 fun e w' => e = .returned (.bool true) ∧ w' = W1) := Lib.hid (fine_any W1 lv ls (hr.below B1.out) hl)
  have FN2 : Hid (Calls Tryz.prog 70 #[.slice (some ⟨w.heap.size, 0, none⟩) 1 1] W1 fun e w' => e = .returned (.bool true) ∧ w' = W1) := Lib.hid (fine_any W1 _ [p] R7.out HP.out)
  have NC : Hid (Calls Tryz.prog 71 #[.pointer (some ⟨x.c, 0, none⟩), lv] W1 fun e w' => e = .returned (.int .i64 nc) ∧ Below W1.heap.size W1 w') := Lib.hid (by
    rw [hnc.out, hTT.out]
    exact needAll_any W1 x.c x.d x.nC x.svC x.ssC x.lastC (HH.out.logC.below B1.out) lv ls (HR.out.below B1.out) HL.out (by have := hTT.out; omega))
  have NJ : Hid (∀ W, Below W1.heap.size W1 W → Calls Tryz.prog 71 #[.pointer (some ⟨x.j, 0, none⟩), .slice (some ⟨w.heap.size, 0, none⟩) 1 1] W fun e w' => e = .returned (.int .i64 nj) ∧ Below W.heap.size W w') := Lib.hid (fun W hW => by
    rw [hnj.out, hMM.out, ← hs7]
    exact needAll_any W x.j x.d x.nJ x.svJ x.ssJ x.lastJ ((HH.out.logJ.below B1.out).below hW) _ [p] (R7.out.below hW) HP.out (by have := hMM.out; omega))
  have FR : Hid (∀ W, Below W1.heap.size W1 W → Calls Tryz.prog 72 #[.pointer (some ⟨x.b, 0, none⟩)] W fun e w' => e = .returned (.int .i64 fr) ∧ W = w') := Lib.hid (fun W hW => by
    rw [hfr.out]
    exact sp_free_any 0 x.b x.g x.bs W ((HH.out.space.below B1.out).below hW))
  have E1 : Hid (EngAt W1 e x) := Lib.hid (H.below B1.out)
  have PC : Hid (∀ W, Below W1.heap.size W1 W → Calls Tryz.prog 73 #[.pointer (some ⟨e, 0, none⟩), .pointer (some ⟨x.c, 0, none⟩), lv] W fun e' w' => e' = .returned (.int .i64 0) ∧ ∃ x', EngMove W1 e x w' x' ∧ EngGrew x x' 0 0 T 0 nc) := Lib.hid (fun W hW => by
    rw [hnc.out, hTT.out]
    refine (putC_any W e x (E1.out.below hW) lv ls ((HR.out.below B1.out).below hW) HL.out (by have := hTT.out; omega) (by rw [← hTT.out, ← hnc.out, ← hfr.out]; omega)).mono ?_
    rintro e' w' ⟨rfl, x', h2, h3⟩
    exact ⟨rfl, x', (EngMove.refl E1.out hW).trans h2, h3⟩)
  have hav : ∀ g, (Value.slice (some ⟨w.heap.size, 0, none⟩) 1 1).ownBlock = some g → g ∉ x.mut e := fun g hg hm => by
    have := (HH.out.ty g hm).1
    simp only [Value.ownBlock, Option.some.injEq] at hg
    omega
  have PJ : Hid (∀ W x1, EngMove W1 e x W x1 → ∀ num, EngGrew x x1 num 0 T 0 nc → Calls Tryz.prog 73 #[.pointer (some ⟨e, 0, none⟩), .pointer (some ⟨x.j, 0, none⟩), .slice (some ⟨w.heap.size, 0, none⟩) 1 1] W fun e' w' => e' = .returned (.int .i64 0) ∧ ∃ x', EngMove W1 e x w' x' ∧ EngGrew x x' num M T nj nc) := Lib.hid (fun W x1 hm num hg => by
    have hj : needN x1.ssJ.length x1.nJ (sumMany [p]) = nj := by rw [hs7, hg.ssJ, hg.nJ, hnj.out, hMM.out]; rfl
    have hfree : nj ≤ sp_frees x1.bs := by
      have h2 := hm.eng.frees
      have h3 := HH.out.frees
      have h4 := hg.ssJ
      have h5 := hg.ssC
      have h6 := hfr.out
      omega
    have := putJ_any W e x1 hm.eng (.slice (some ⟨w.heap.size, 0, none⟩) 1 1) [p] (R7.out.move E1.out hm hav) HP.out (by rw [hg.k, hs7]; have := hMM.out; omega) (by rw [hj]; exact hfree)
    rw [hg.j] at this
    refine this.mono ?_
    rintro e' w' ⟨rfl, x', h2, h3⟩
    refine ⟨rfl, x', hm.trans h2, ?_⟩
    rw [hj, hs7, ← hMM.out] at h3
    simpa using hg.trans h3)
  have SLO : Hid (∀ W x1, EngMove W1 e x W x1 → ∀ num tJ mJ, EngGrew x x1 num tJ T mJ nc → num ≤ 2 → Calls Tryz.prog 47 #[.pointer (some ⟨e, 0, none⟩)] W fun e' w' => e' = .returned (.int .i64 0) ∧ ∃ x', EngMove W1 e x w' x' ∧ EngGrew x x' (num + 2) tJ T mJ nc) := Lib.hid (fun W x1 hm num tJ mJ hg hnum => by
    refine (slotsG_any W e x1 hm.eng (by have := hg.number; omega) (by have := hg.k; omega)).mono ?_
    rintro e' w' ⟨rfl, x', h2, h3⟩
    exact ⟨rfl, x', hm.trans h2, by simpa using hg.trans h3⟩)
  have FIN : Hid (∀ W x1 num, EngMove W1 e x W x1 → EngGrew x x1 num M T nj nc → num ≤ 4 → Q (.returned (.int .i64 0)) W) := Lib.hid (fun W x1 num hm hg hnum => by
    rw [hQ.out]
    refine ⟨rfl, x1, (EngMove.refl HH.out B1.out).trans hm, ?_⟩
    rw [← hMM.out, ← hTT.out, ← hnj.out, ← hnc.out]
    exact { hg with number := by have := hg.number; omega })
  have KE : Hid (∀ W x1, EngMove W1 e x W x1 → ∀ num tJ mJ, EngGrew x x1 num tJ T mJ nc → W.cell? ⟨e, 6, none⟩ = some (.pointer (some ⟨x.j, 0, none⟩))) := Lib.hid (fun W x1 hm num tJ mJ hg => by
    have h6 := (cell5 hm.eng.cell).2.2.2.2.1
    rw [hg.j] at h6
    exact h6)
  have KB : Hid (∀ W, Below W1.heap.size W1 W → W.cell? ⟨e, 7, none⟩ = some (.pointer (some ⟨x.c, 0, none⟩)) ∧ W.cell? ⟨e, 6, none⟩ = some (.pointer (some ⟨x.j, 0, none⟩)) ∧ W.cell? ⟨e, 1, none⟩ = some (.pointer (some ⟨x.b, 0, none⟩))) := Lib.hid (fun W hW => by
    have := (E1.out.below hW).cell
    exact ⟨cellAt this 7, cellAt this 6, cellAt this 1⟩)
  have y7 := (KB.out W1 (Below.refl _ _)).1
  have hsum : IntKind.i64.wrap ((nc : Int) + (nj : Int)) = (nc : Int) + (nj : Int) := IntWalk.i64_in _ (by omega)
  have hq0 : ¬ ((fr : Int) < (nc : Int) + (nj : Int)) := by omega
  have hw1 := hW1.out
  rw [← hQ.out, hlv]
  clear H hr hl hv hav hs7 hM
  rw [hlv] at FN1 NC PC
  clear hlv
  by_cases hc0 : (0 : Int) < nc
  all_goals go_enter Tryz.func32, Tryz.ntmps32
  all_goals go_wp2_with fail
  all_goals (rw [← hw1])
  all_goals clear hw1
  all_goals go_wp2_with (first | (go_at_call 70; with_reducible refine FN1.out.mono ?_; rintro e1 w1 ⟨rfl, hw⟩; have hw := hw.symm; subst hw) | (go_at_call 70; with_reducible refine FN2.out.mono ?_; rintro e1 w1 ⟨rfl, hw⟩; have hw := hw.symm; subst hw) | (go_at_call 71; with_reducible refine NC.out.mono ?_; rintro e1 w2 ⟨rfl, hq⟩; have B2 := Lib.hid hq; clear hq))
  all_goals (have S1 := KB.out _ B2.out; have B2d : Hid (Below W1.heap.size W1 w2.drew) := Lib.hid B2.out.drew; have S1 := Lib.hid S1)
  all_goals go_region_held3 (fun W => W.cell? ⟨e, 6, none⟩ = some (.pointer (some ⟨x.j, 0, none⟩)) ∧ W.cell? ⟨e, 1, none⟩ = some (.pointer (some ⟨x.b, 0, none⟩))) (first | exact (KB.out _ B2d.out).2 | exact (KB.out _ B3.out).2) (first | (go_at_call 71; with_reducible refine (NJ.out _ B2d.out).mono ?_; rintro e1 w3 ⟨rfl, hq⟩; have B3 : Hid (Below W1.heap.size W1 w3) := Lib.hid (B2d.out.trans (hq.mono B2d.out.size)); clear hq) | (go_at_call 72; with_reducible refine (FR.out _ B3.out).mono ?_; rintro e1 w4 ⟨rfl, hw⟩; subst hw))
  all_goals (have y8 := (KB.out _ B3.out).1)
  all_goals go_wp2_with (first | (go_at_call 73; with_reducible refine (PC.out _ B3.out).mono ?_; rintro e1 w5 ⟨rfl, hx⟩; obtain ⟨x5, hm5, hg5⟩ := hx; have M5 := Lib.hid hm5; have G5 := Lib.hid hg5; clear hm5 hg5; have y9 := KE.out _ x5 M5.out _ _ _ G5.out) | (go_at_call 47; with_reducible refine (SLO.out _ x5 M5.out _ _ _ G5.out (by decide)).mono ?_; rintro e1 w6 ⟨rfl, hx⟩; obtain ⟨x6, hm6, hg6⟩ := hx; have M6 := Lib.hid hm6; have G6 := Lib.hid hg6; clear hm6 hg6; have y10 := KE.out _ x6 M6.out _ _ _ G6.out) | (go_at_call 73; (first | with_reducible refine (PJ.out _ x6 M6.out _ G6.out).mono ?_ | with_reducible refine (PJ.out _ x5 M5.out _ G5.out).mono ?_); rintro e1 w7 ⟨rfl, hx⟩; obtain ⟨x7, hm7, hg7⟩ := hx; have M7 := Lib.hid hm7; have G7 := Lib.hid hg7; clear hm7 hg7) | (go_at_call 47; with_reducible refine (SLO.out _ x7 M7.out _ _ _ G7.out (by decide)).mono ?_; rintro e1 w8 ⟨rfl, hx⟩; obtain ⟨x8, hm8, hg8⟩ := hx; have M8 := Lib.hid hm8; have G8 := Lib.hid hg8; clear hm8 hg8))
  · exact FIN.out _ x8 _ M8.out G8.out (by decide)
  · exact FIN.out _ x8 _ M8.out G8.out (by decide)
end Go.Proofs.YtaonlcgneemimaaGreatDoor
namespace Go.Proofs.YtaonlcgneemimaaGreatDoor
open Go.RowKit
/-- A repository's parts, told apart from memory. -/
structure RepX where
  e : Nat
  x : EngX
  h : Nat
  pv : Value
  sv : Value
  xs : List StX
  c : Nat
  P : List (List Int)
  bl : Nat
  bb : Nat
  vs : List Value
  fb : Int → Option Value
  m : Nat
  sz : Int
  dm : Nat
  dn : Nat
  df : Int → Option Value
  rv : Value
  its : List ItemA
  y : StX
/-- All blocks that a commit may turn. -/
def RepX.mu (X : RepX) (r : Nat) : List Nat := r :: X.dm :: (X.x.mut X.e ++ histM X.h X.pv X.sv)
/-- The blocks that an event may turn. -/
def RepX.m1 (X : RepX) (r : Nat) : List Nat := [r, X.y.a, X.y.b, X.y.sm]
def okAll : Abs → List ItemA → Prop
  | _, [] => True
  | x, i :: l => okA x i ∧ okAll (stepA x i) l
noncomputable def stepAll (x : Abs) (l : List ItemA) : Abs := l.foldl stepA x
theorem okAll_snoc : ∀ (l : List ItemA) (x : Abs) (i : ItemA), okAll x l → okA (stepAll x l) i → okAll x (l ++ [i])
  | [], x, i, _, h => ⟨h, trivial⟩
  | j :: l, x, i, h, hi => ⟨h.1, okAll_snoc l _ i h.2 hi⟩
theorem okAll_at : ∀ (l : List ItemA) (x : Abs), okAll x l → ∀ (k : Nat) (i : ItemA), l[k]? = some i → okA (stepAll x (l.take k)) i
  | [], x, _, k, i, hk => by simp at hk
  | j :: l, x, h, 0, i, hk => by simp at hk; subst hk; exact h.1
  | j :: l, x, h, k + 1, i, hk => by
    have := okAll_at l _ h.2 k i (by simpa using hk)
    simpa [stepAll] using this
theorem stepAll_snoc (l : List ItemA) (x : Abs) (i : ItemA) : stepAll x (l ++ [i]) = stepA (stepAll x l) i := by
  unfold stepAll
  rw [List.foldl_append]
  rfl
def repO (X : RepX) : Obj := .cells #[.pointer (some ⟨X.e, 0, none⟩), .pointer (some ⟨X.h, 0, none⟩), .pointer (some ⟨X.c, 0, none⟩), .map (some X.dm), .float .f64 0, X.rv, .pointer (some ⟨X.y.s, 0, none⟩)] 77
/-- A repository in memory. -/
structure RepAt (w : World) (r : Nat) (X : RepX) : Prop where
  cell : w.heap[r]? = some (.cells #[.pointer (some ⟨X.e, 0, none⟩), .pointer (some ⟨X.h, 0, none⟩), .pointer (some ⟨X.c, 0, none⟩), .map (some X.dm), .float .f64 0, X.rv, .pointer (some ⟨X.y.s, 0, none⟩)] 77 (0, 0))
  eng : EngAt w X.e X.x
  hist : HistAt w X.h X.pv X.sv X.xs
  chunks : ChunksAt w 0 X.c X.P X.bl X.bb X.vs X.fb X.m X.sz
  dmap : MapX KI w X.dm X.dn X.df
  dval : ∀ id v, X.df id = some v → v = .bool true
  rows : RowsV w X.rv X.its
  st : StAt w X.y
  yx : X.y.x = stepAll (lastX X.xs) X.its
  ok : okAll (lastX X.xs) X.its
  good : ∀ i ∈ X.its, i.good ∧ i.op ≠ 8
  one : 1 ∉ X.mu r ∧ 1 ∉ X.m1 r
  ynot : ∀ k ∈ X.y.blocks, k ∉ X.mu r
  znot : ∀ z ∈ X.xs, ∀ k ∈ z.blocks, k ∉ X.mu r ∧ k ∉ X.m1 r
  cnot : X.bl ∉ X.mu r ∧ X.bb ∉ X.mu r
  fnot : ∀ k v g, X.fb k = some v → v.ownBlock = some g → g ∉ X.mu r
  dne : X.dm ∉ X.x.mut X.e
/-- Blocks of these types alone, or maps. -/
def Typed (w : World) (M : List Nat) (S : List Nat) : Prop := ∀ k ∈ M, (∃ arr t, w.heap[k]? = some (.cells arr t (0, 0)) ∧ t ∈ S) ∨ (∃ es cl, w.heap[k]? = some (.map es cl))
theorem Typed.no {w : World} {M S : List Nat} (h : Typed w M S) {t : Nat} (ht : t ∉ S) : ∀ k ∈ M, ∀ arr, w.heap[k]? ≠ some (.cells arr t (0, 0)) := by
  intro k hk arr he
  rcases h k hk with ⟨a, u, h1, h2⟩ | ⟨es, cl, h1⟩
  · rw [h1] at he
    injection he with he
    injection he with _ e2
    subst e2
    exact ht h2
  · rw [h1] at he
    simp at he
theorem Typed.out {w : World} {M S : List Nat} (h : Typed w M S) {t k : Nat} {arr : Array Value} (hk : w.heap[k]? = some (.cells arr t (0, 0))) (ht : t ∉ S) : k ∉ M := fun hm => h.no ht k hm arr hk
theorem Typed.lt {w : World} {M S : List Nat} (h : Typed w M S) : ∀ k ∈ M, k < w.heap.size := by
  intro k hk
  rcases h k hk with ⟨a, u, h1, h2⟩ | ⟨es, cl, h1⟩ <;> exact heap_lt h1
theorem MapX.objT {α : Type} {P : Program} {kt : TypeId} {K : KeyKind P kt α} {w : World} {b n : Nat} {f : α → Option Value} (h : MapX K w b n f) : ∃ es cl, w.heap[b]? = some (.map es cl) := h.obj
theorem EngAt.typed {w : World} {e : Nat} {x : EngX} (h : EngAt w e x) : Typed w (x.mut e) [151, 64, 33, 4, 227, 3] := by
  obtain ⟨ga, hga⟩ := h.space.row
  obtain ⟨ops, hd0⟩ := h.disk.cell
  obtain ⟨lr, hl0, -⟩ := h.disk.row
  obtain ⟨mn, mf, hm0, -⟩ := h.disk.map
  intro y hy
  simp only [EngX.mut, List.mem_cons, List.mem_append, Option.mem_toList] at hy
  rcases hy with rfl | rfl | rfl | rfl | rfl | rfl | rfl | hy | hy
  · exact .inl ⟨_, _, h.cell, by simp⟩
  · exact .inl ⟨_, _, hd0, by simp⟩
  · exact .inl ⟨_, _, hl0, by simp⟩
  · exact .inr hm0.obj
  · exact .inl ⟨_, _, hga, by simp⟩
  · exact .inl ⟨_, _, h.logJ.cell, by simp⟩
  · exact .inl ⟨_, _, h.logC.cell, by simp⟩
  · obtain ⟨arr, ha⟩ := own_heap h.logJ.segs hy
    exact .inl ⟨_, _, ha, by simp⟩
  · obtain ⟨arr, ha⟩ := own_heap h.logC.segs hy
    exact .inl ⟨_, _, ha, by simp⟩
theorem RepAt.ty1 {w : World} {r : Nat} {X : RepX} (h : RepAt w r X) : Typed w (X.m1 r) [77, 170] := by
  intro k hk
  simp only [RepX.m1, List.mem_cons, List.not_mem_nil, or_false] at hk
  rcases hk with rfl | rfl | rfl | rfl
  · exact .inl ⟨_, _, h.cell, by simp⟩
  · exact .inl ⟨_, _, h.st.at'.tree.cell, by simp⟩
  · exact .inr h.st.at'.tree.map.obj
  · exact .inr h.st.at'.bodies.map.obj
theorem RepAt.ty2 {w : World} {r : Nat} {X : RepX} (h : RepAt w r X) : Typed w (X.mu r) [77, 151, 64, 33, 4, 227, 3, 115, 52, 73] := by
  intro k hk
  simp only [RepX.mu, List.mem_cons, List.mem_append] at hk
  rcases hk with rfl | rfl | hk | hk
  · exact .inl ⟨_, _, h.cell, by simp⟩
  · exact .inr h.dmap.obj
  · rcases h.eng.typed k hk with ⟨a, t, h1, h2⟩ | h1
    · exact .inl ⟨a, t, h1, by simp only [List.mem_cons, List.not_mem_nil, or_false] at h2 ⊢; rcases h2 with rfl | rfl | rfl | rfl | rfl | rfl <;> simp⟩
    · exact .inr h1
  · obtain ⟨a, t, h1, h2⟩ := histM_ty h.hist k hk
    exact .inl ⟨a, t, h1, by rcases h2 with rfl | rfl | rfl <;> simp⟩
theorem ChunksAt.frame {M : List Nat} {w w' : World} {B c : Nat} {P : List (List Int)} {bl bb : Nat} {vs : List Value} {fb : Int → Option Value} {m : Nat} {sz : Int} (h : ChunksAt w B c P bl bb vs fb m sz) (hf : Frame M w w') (hc : c ∉ M) (hl : bl ∉ M) (hb : bb ∉ M) (hr : ∀ k v g, fb k = some v → v.ownBlock = some g → g ∉ M) (h5 : ∀ g ∈ M, ∀ arr, w.heap[g]? ≠ some (.cells arr 5 (0, 0))) : ChunksAt w' B c P bl bb vs fb m sz := by
  refine ⟨hf.heap h.cell hc, h.lo, h.ne, ⟨h.pieces.1, fun i v p hv hp => ?_⟩, h.nodup, h.ml.same (hf.block _ h.ml.lt hl), h.mb.same (hf.block _ h.mb.lt hb), fun k v hv => ?_, h.empty, h.apart, h.small⟩
  · obtain ⟨h1, h2⟩ := h.pieces.2 i v p hv hp
    exact ⟨h1.frame hf h5, h2⟩
  · obtain ⟨h1, h2⟩ := h.rows k v hv
    exact ⟨row_kept h1 (fun g o hg ho => hf.heap hg (hr k v g hv ho)), h2⟩
theorem ChunksAt.weak {w : World} {B B' c : Nat} {P : List (List Int)} {bl bb : Nat} {vs : List Value} {fb : Int → Option Value} {m : Nat} {sz : Int} (h : ChunksAt w B c P bl bb vs fb m sz) (hB : B' ≤ B) : ChunksAt w B' c P bl bb vs fb m sz :=
  ⟨h.cell, ⟨Nat.le_trans hB h.lo.1, Nat.le_trans hB h.lo.2.1, Nat.le_trans hB h.lo.2.2⟩, h.ne, h.pieces, h.nodup, h.ml, h.mb, fun k v hv => ⟨own_mono (h.rows k v hv).1 hB, (h.rows k v hv).2⟩, h.empty, h.apart, h.small⟩
theorem RowsV.frame {M : List Nat} {w w' : World} {v : Value} {its : List ItemA} (h : RowsV w v its) (hf : Frame M w w') (h86 : ∀ g ∈ M, ∀ arr, w.heap[g]? ≠ some (.cells arr 86 (0, 0))) (h134 : ∀ g ∈ M, ∀ arr, w.heap[g]? ≠ some (.cells arr 134 (0, 0))) : RowsV w' v its := by
  obtain ⟨ps, h1, h2, h3⟩ := h
  exact ⟨ps, h1, h2.frame hf h86, fun j s i hs hi => (h3 j s i hs hi).frame hf h134⟩
theorem EngAt.frame {M : List Nat} {w w' : World} {e : Nat} {x : EngX} (h : EngAt w e x) (hf : Frame M w w') (hm : ∀ k ∈ x.mut e, k ∉ M) (hb : x.b ∉ M) : EngAt w' e x :=
  ⟨hf.heap h.cell (hm _ (by simp [EngX.mut])), h.disk.frame hf (hm _ (by simp [EngX.mut])) (hm _ (by simp [EngX.mut])) (hm _ (by simp [EngX.mut])), h.space.frame hf hb (hm _ (by simp [EngX.mut])), h.blen,
    h.logJ.frame hf (hm _ (by simp [EngX.mut])) (fun k hk => hm _ (by simp [EngX.mut, hk])), h.logC.frame hf (hm _ (by simp [EngX.mut])) (fun k hk => hm _ (by simp [EngX.mut, hk])), h.nodup, h.taken, h.frees, h.ne, h.apart⟩
theorem own_frame {M : List Nat} {w w' : World} {B e sz n : Nat} {v : Value} {xs : List Value} (h : w.ownsRow B e sz v n xs) (hf : Frame M w w') (hn : ∀ g, v.ownBlock = some g → g ∉ M) : w'.ownsRow B e sz v n xs :=
  row_kept h (fun k o hk ho => hf.heap hk (hn k ho))
theorem HistAt.frame {M : List Nat} {w w' : World} {h : Nat} {pv sv : Value} {xs : List StX} (H : HistAt w h pv sv xs) (hf : Frame M w w') (hm : ∀ k ∈ histM h pv sv, k ∉ M) (hz : ∀ z ∈ xs, ∀ k ∈ z.blocks, k ∉ M) (h1 : 1 ∉ M) (h134 : ∀ g ∈ M, ∀ arr, w.heap[g]? ≠ some (.cells arr 134 (0, 0))) : HistAt w' h pv sv xs := by
  refine ⟨hf.heap H.cell (hm _ (by simp [histM])), own_frame H.pts hf (fun g hg => hm _ (by simp [histM, hg])), own_frame H.sts hf (fun g hg => hm _ (by simp [histM, hg])), H.pnil, H.snil, fun y hy => (H.each y hy).frame hf (hz y hy) h1 h134, ?_, H.few⟩
  obtain ⟨m, hm1⟩ := H.glob
  exact ⟨m, (hf.cell (p := ⟨1, 0, none⟩) (World.block_lt_of_cell? w _ hm1) h1).trans hm1⟩
theorem RepAt.below {w w' : World} {r : Nat} {X : RepX} (h : RepAt w r X) (hb : Below w.heap.size w w') : RepAt w' r X :=
  ⟨Below.heap hb (Nat.le_refl _) h.cell, h.eng.below hb, h.hist.below hb, h.chunks.below hb, keep_map h.dmap hb, h.dval, h.rows.below hb, h.st.below hb, h.yx, h.ok, h.good, h.one, h.ynot, h.znot, h.cnot, h.fnot, h.dne⟩
set_option maxRecDepth 100000 in
set_option maxHeartbeats 1000000 in
theorem repNext_any (w : World) (r h : Nat) (v0 v2 v3 v4 v6 pv sv : Value) (xs : List StX) (ra : Option Addr) (n cap : Nat) (hc : w.heap[r]? = some (.cells #[v0, .pointer (some ⟨h, 0, none⟩), v2, v3, v4, .slice ra n cap, v6] 77 (0, 0))) (H : HistAt w h pv sv xs) (hn : n ≤ 100000) :
    Calls Tryz.prog 29 #[.pointer (some ⟨r, 0, none⟩)] w fun e w' => e = .returned (.int .i64 ((xs.length : Int) + n + 1)) ∧ Below w.heap.size w w' := by
  have hf := H.few
  have L := Lib.hid (lastPt_any w h pv sv xs H)
  obtain ⟨N, hN⟩ : ∃ N, Hid (N = xs.length) := ⟨xs.length, Lib.hid rfl⟩
  rw [← hN.out] at hf ⊢
  have c1 := cellAt hc 1
  have c5 := cellAt hc 5
  simp only [List.getElem?_toArray, List.getElem?_cons_zero, List.getElem?_cons_succ] at c1 c5
  have K : Hid (∀ W : World, Below w.heap.size w W → W.cell? ⟨r, 1, none⟩ = some (.pointer (some ⟨h, 0, none⟩)) ∧ W.cell? ⟨r, 5, none⟩ = some (.slice ra n cap)) := Lib.hid (fun W hW => ⟨cellAt (Below.heap hW (Nat.le_refl _) hc) 1, cellAt (Below.heap hW (Nat.le_refl _) hc) 5⟩)
  have L2 : Hid (Calls Tryz.prog 35 #[.pointer (some ⟨h, 0, none⟩)] w.drew fun e w' => e = .returned (.agg #[.int .i64 N, .float .f64 0, .string ⟨#[]⟩]) ∧ Below w.heap.size w w') := Lib.hid (by
    rw [hN.out]
    refine (lastPt_any w.drew h pv sv xs (H.below ((Below.refl _ _).drew))).mono ?_
    rintro e w' ⟨rfl, hq⟩
    exact ⟨rfl, ((Below.refl _ _).drew).trans hq⟩)
  have hfd : ∀ W, (Instr.field 52 (.agg #[.int .i64 N, .float .f64 0, .string ⟨#[]⟩]) 0).run Tryz.prog W = .ok (.int .i64 N) W := fun W => by kernel_rfl
  have e1 : IntKind.i64.wrap ((N : Int) + n) = (N : Int) + n := IntWalk.i64_in _ (by omega)
  have e2 : IntKind.i64.wrap ((N : Int) + n + 1) = (N : Int) + n + 1 := IntWalk.i64_in _ (by omega)
  clear H hc L
  go_enter Tryz.func29, Tryz.ntmps29
  go_wp2_with fail
  go_region_held3 (fun W => W.cell? ⟨r, 1, none⟩ = some (.pointer (some ⟨h, 0, none⟩)) ∧ W.cell? ⟨r, 5, none⟩ = some (.slice ra n cap)) (first | exact ⟨c1, c5⟩ | exact K.out _ HB.out) (first | (go_at_call 35; with_reducible refine L2.out.mono ?_; rintro e1 w1 ⟨rfl, hq⟩; have HB := Lib.hid hq; clear hq))
  go_wp2_with fail
  go_ret
  exact ⟨rfl, HB.out⟩
set_option maxRecDepth 100000 in
set_option maxHeartbeats 1000000 in
theorem repBatch_any (w : World) (r h : Nat) (v0 v2 v3 v4 v5 v6 pv sv : Value) (xs : List StX) (hc : w.heap[r]? = some (.cells #[v0, .pointer (some ⟨h, 0, none⟩), v2, v3, v4, v5, v6] 77 (0, 0))) (H : HistAt w h pv sv xs) (v : Value) (its : List ItemA) (hr : RowsV w v its) (hg : ∀ i ∈ its, i.good) (hne : its ≠ []) (hn : its.length ≤ 100000) (hlen : (recordB (xs.length + 1) its).length ≤ 16384) :
    Calls Tryz.prog 28 #[.pointer (some ⟨r, 0, none⟩), v] w fun e w' => ∃ v', e = .returned (.tuple #[v', .int .i64 0]) ∧ w'.ownsRow w.heap.size 5 1 v' (recordB (xs.length + 1) its).length (u8s (recordB (xs.length + 1) its)) ∧ Below w.heap.size w w' := by
  have hf := H.few
  have L := Lib.hid (lastPt_any w h pv sv xs H)
  have HR := Lib.hid hr
  obtain ⟨a, cap, rfl, -, -, -⟩ := rows_cells hr
  obtain ⟨N, hN⟩ : ∃ N, Hid (N = xs.length) := ⟨xs.length, Lib.hid rfl⟩
  have BB : Hid (∀ W, Below w.heap.size w W → Calls Tryz.prog 60 #[.agg #[.int .i64 1, .int .i64 ((N : Int) + 1), .slice a its.length cap, .float .f64 0, .string ⟨#[]⟩, .slice none 0 0]] W fun e w' => ∃ v', e = .returned (.tuple #[v', .int .i64 0]) ∧ w'.ownsRow w.heap.size 5 1 v' (recordB (xs.length + 1) its).length (u8s (recordB (xs.length + 1) its)) ∧ Below W.heap.size W w') := Lib.hid (fun W hW => by
    refine (batchBytes_any W (N + 1) _ its (hr.below hW) hg hne hn (by omega) (by have := hN.out; omega) (by rw [hN.out]; exact hlen)).mono ?_
    rintro e w' ⟨v', rfl, ho, hq⟩
    rw [hN.out] at ho
    exact ⟨v', rfl, own_mono ho hW.size, hq⟩)
  rw [← hN.out] at hf
  have L2 : Hid (Calls Tryz.prog 35 #[.pointer (some ⟨h, 0, none⟩)] w fun e w' => e = .returned (.agg #[.int .i64 N, .float .f64 0, .string ⟨#[]⟩]) ∧ Below w.heap.size w w') := Lib.hid (by rw [hN.out]; exact L.out)
  have hfd : ∀ W, (Instr.field 52 (.agg #[.int .i64 N, .float .f64 0, .string ⟨#[]⟩]) 0).run Tryz.prog W = .ok (.int .i64 N) W := fun W => by kernel_rfl
  have e1 : IntKind.i64.wrap ((N : Int) + 1) = (N : Int) + 1 := IntWalk.i64_in _ (by omega)
  have c1 := cellAt hc 1
  simp only [List.getElem?_toArray, List.getElem?_cons_zero, List.getElem?_cons_succ] at c1
  obtain ⟨Q, hQ⟩ : ∃ Q : Ending → World → Prop, Q = fun e w' => ∃ v', e = .returned (.tuple #[v', .int .i64 0]) ∧ w'.ownsRow w.heap.size 5 1 v' (recordB (xs.length + 1) its).length (u8s (recordB (xs.length + 1) its)) ∧ Below w.heap.size w w' := ⟨_, rfl⟩
  rw [← hQ]
  have hQ := Lib.hid hQ
  clear H hc L hr hg hne hlen
  go_enter Tryz.func28, Tryz.ntmps28
  go_wp2_with (first | (go_at_call 35; with_reducible refine L2.out.mono ?_; rintro e1 w1 ⟨rfl, hq⟩; have HB := Lib.hid hq; clear hq) | (go_at_call 60; with_reducible refine (BB.out _ HB.out).mono ?_; rintro e1 w2 ⟨v', rfl, ho, hq⟩; obtain ⟨pa, pc, rfl⟩ := own_shape ho; have HO := Lib.hid ho; have HB2 := Lib.hid (HB.out.trans (hq.mono HB.out.size)); clear ho hq))
  rw [hQ.out]
  exact ⟨.slice pa (recordB (xs.length + 1) its).length pc, rfl, HO.out, HB2.out⟩
end Go.Proofs.YtaonlcgneemimaaGreatDoor
namespace Go.Proofs.YtaonlcgneemimaaGreatDoor
open Go.RowKit
theorem info86 : (Tryz.prog.info? 86).map (fun i => (i.zero, i.size, i.bytes)) = some (some (.agg #[.float .f64 0, .int .i64 0, .string ⟨#[]⟩, .string ⟨#[]⟩, .int .i64 0, .int .i64 0, .slice none 0 0, .slice none 0 0]), 8, 112) := by kernel_rfl
theorem rowsC_snoc : ∀ (ps : List Value) (its : List ItemA) (s : Value) (i : ItemA), ps.length = its.length → rowsC (ps ++ [s]) (its ++ [i]) = rowsC ps its ++ rowC s i
  | [], [], s, i, _ => by simp [rowsC]
  | p :: ps, [], s, i, h => by simp at h
  | [], j :: its, s, i, h => by simp at h
  | p :: ps, j :: its, s, i, h => by
    have := rowsC_snoc ps its s i (by simpa using h)
    simp only [List.cons_append, rowsC, this, List.append_assoc]
theorem app_rows {W : World} {B q0 n : Nat} {rv : Value} {xs : List Value} (h0 : W.heap[q0]? = some (.cells #[] 86 (0, 0))) (hB : B ≤ q0) (hs : Sl W 86 8 rv n xs) (hn : n ≤ 100000) :
    ∃ v1 W', (Builtin.append_ #[75, 75] 75 #[.slice (some ⟨q0, 0, none⟩) 0 0, rv]).run Tryz.prog W = .ok v1 W' ∧ W'.ownsRow B 86 8 v1 n xs ∧ W.grownBy W' (some q0) ∧ v1 ≠ .slice none 0 0 := by
  obtain ⟨i0, hi, hz0, hz1, hz2⟩ := info_parts info86
  have ho : W.ownsRow B 86 8 (.slice (some ⟨q0, 0, none⟩) 0 0) 0 [] := ⟨rfl, .inr ⟨q0, 0, #[], rfl, hB, h0, Nat.le_refl _, by decide, rfl, rfl⟩⟩
  obtain ⟨v', w', h1, h2, h3, h4, h5⟩ := append_run_sl (P := Tryz.prog) (w := W) B 75 75 86 i0 _ 8 112 Tryz.underlying75 hi hz0 hz1 hz2 rfl (by decide) _ 0 _ ho _ n _ hs (by omega) (by decide) (by have := heap_lt h0; omega)
  refine ⟨v', w', h1, by simpa using h2, by simpa [Value.ownBlock] using h3, fun h => ?_⟩
  have := h4.1 h
  simp at this
theorem app_one {W : World} {B q1 n : Nat} {v1 s : Value} {i : ItemA} {xs : List Value} (ho : W.ownsRow B 86 8 v1 n xs) (h1 : W.heap[q1]? = some (.cells (rowC s i).toArray 86 (0, 0))) (hs : s.oneCell' = true) (hn : n ≤ 100000) (hB : B ≤ W.heap.size) :
    ∃ v2 W', (Builtin.append_ #[75, 75] 75 #[v1, .slice (some ⟨q1, 0, none⟩) 1 1]).run Tryz.prog W = .ok v2 W' ∧ W'.ownsRow B 86 8 v2 (n + 1) (xs ++ rowC s i) ∧ W.grownBy W' v1.ownBlock := by
  obtain ⟨i0, hi, hz0, hz1, hz2⟩ := info_parts info86
  obtain ⟨v', w', e1, h2, h3, h4, h5⟩ := append_run_sl (P := Tryz.prog) (w := W) B 75 75 86 i0 _ 8 112 Tryz.underlying75 hi hz0 hz1 hz2 rfl (by decide) v1 n _ ho _ 1 _ (Sl.block' h1 rfl (fun u hu => by simp only [rowC, List.mem_cons, List.not_mem_nil, or_false] at hu; rcases hu with rfl | rfl | rfl | rfl | rfl | rfl | rfl | rfl <;> first | rfl | exact hs) (by decide) (by decide)) (by omega) (by decide) hB
  exact ⟨v', w', e1, by simpa using h2, h3⟩
/-- What the region that appends a row comes to. -/
def RowsFin (wB : World) (its : List ItemA) (i : ItemA) (v : Value) (w : World) : Prop := RowsV w v (its ++ [i]) ∧ Below wB.heap.size wB w
def rowO (s : Value) (i : ItemA) : Obj := .cells #[.float .f64 0, .int .i64 i.op, .string i.path, .string i.to, .int .i64 i.off, .int .i64 i.size, .slice none 0 0, s] 86
theorem rows_fin {wB W : World} {its : List ItemA} {i : ItemA} {ps : List Value} {s v2 : Value} (hl : ps.length = its.length) (hp : ∀ (j : Nat) s i, ps[j]? = some s → its[j]? = some i → Sl wB 134 4 s i.parts.length (partsC i.parts)) (hs : Sl wB 134 4 s i.parts.length (partsC i.parts)) (h1 : (∀ u ∈ rowsC ps its, u.oneCell' = true)) (hs1 : s.oneCell' = true)
    (ho : W.ownsRow wB.heap.size 86 8 v2 (its.length + 1) (rowsC ps its ++ rowC s i)) (hb : Below wB.heap.size wB W) : RowsFin wB its i v2 W := by
  refine ⟨⟨ps ++ [s], by simp [hl], ?_, fun j u k hu hk => ?_⟩, hb⟩
  · rw [rowsC_snoc ps its s i hl, List.length_append]
    refine Sl.of_own ho (fun u hu => ?_) (.inr (by simp))
    rcases List.mem_append.1 hu with hu | hu
    · exact h1 u hu
    · simp only [rowC, List.mem_cons, List.not_mem_nil, or_false] at hu
      rcases hu with rfl | rfl | rfl | rfl | rfl | rfl | rfl | rfl <;> first | rfl | exact hs1
  · by_cases hj : j < its.length
    · rw [List.getElem?_append_left (by omega)] at hu
      rw [List.getElem?_append_left hj] at hk
      exact (hp j u k hu hk).below hb
    · have hj0 : j = its.length := by
        have := (List.getElem?_eq_some_iff.1 hk).1
        simp at this
        omega
      subst hj0
      rw [List.getElem?_append_right (by omega), hl] at hu
      rw [List.getElem?_append_right (Nat.le_refl _)] at hk
      simp at hu hk
      subst hu
      subst hk
      exact hs.below hb
/-- The three orders in which the row may be made. -/
theorem rows_orders {wB : World} {its : List ItemA} {i : ItemA} {rv s : Value} (hr : RowsV wB rv its) (hs : Sl wB 134 4 s i.parts.length (partsC i.parts)) (hs1 : s.oneCell' = true) (hn : its.length ≤ 99999) :
    (∃ v1 wa v2 wf, (Builtin.append_ #[75, 75] 75 #[.slice (some ⟨wB.heap.size, 0, none⟩) 0 0, rv]).run Tryz.prog (wB.alloc (.cells #[] 86)).drew = .ok v1 wa ∧ Below wB.heap.size wB wa ∧ (Builtin.append_ #[75, 75] 75 #[v1, .slice (some ⟨wa.heap.size, 0, none⟩) 1 1]).run Tryz.prog (wa.alloc (rowO s i)) = .ok v2 wf ∧ RowsFin wB its i v2 wf) ∧
    (∃ v1 wa v2 wf, (Builtin.append_ #[75, 75] 75 #[.slice (some ⟨wB.heap.size, 0, none⟩) 0 0, rv]).run Tryz.prog ((wB.alloc (.cells #[] 86)).alloc (rowO s i)).drew = .ok v1 wa ∧ Below wB.heap.size wB wa ∧ (Builtin.append_ #[75, 75] 75 #[v1, .slice (some ⟨wB.heap.size + 1, 0, none⟩) 1 1]).run Tryz.prog wa = .ok v2 wf ∧ RowsFin wB its i v2 wf) ∧
    (∃ v1 wa v2 wf, (Builtin.append_ #[75, 75] 75 #[.slice (some ⟨wB.heap.size + 1, 0, none⟩) 0 0, rv]).run Tryz.prog ((wB.alloc (rowO s i)).alloc (.cells #[] 86)).drew = .ok v1 wa ∧ Below wB.heap.size wB wa ∧ (Builtin.append_ #[75, 75] 75 #[v1, .slice (some ⟨wB.heap.size, 0, none⟩) 1 1]).run Tryz.prog wa = .ok v2 wf ∧ RowsFin wB its i v2 wf) := by
  obtain ⟨ps, hl, h2, h3⟩ := hr
  have hone := h2.2.1
  refine ⟨?_, ?_, ?_⟩
  · have b0 : Below wB.heap.size wB (wB.alloc (.cells #[] 86)).drew := ((Below.refl _ _).alloc (Nat.le_refl _) _).drew
    have hh : (wB.alloc (.cells #[] 86)).drew.heap[wB.heap.size]? = some (.cells #[] 86 (0, 0)) := heap_new wB (.cells #[] 86)
    obtain ⟨v1, wa, r1, o1, g1, -⟩ := app_rows (B := wB.heap.size) hh (Nat.le_refl _) (h2.below b0) (by omega)
    have ba : Below wB.heap.size wB wa := b0.grown g1 b0.size (by simp)
    have hh2 : (wa.alloc (rowO s i)).heap[wa.heap.size]? = some (.cells (rowC s i).toArray 86 (0, 0)) := heap_new wa _
    obtain ⟨v2, wf, r2, o2, g2⟩ := app_one (own_below o1 ((Below.refl _ _).alloc (Nat.le_refl _) (rowO s i))) hh2 hs1 (by omega) (by have := ba.size; simp; omega)
    exact ⟨v1, wa, v2, wf, r1, ba, r2, rows_fin hl h3 hs hone hs1 o2 ((ba.alloc ba.size _).grown g2 (by have := ba.size; simp; omega) (fun k hk => (o1.lt k hk).1))⟩
  · have b0 : Below wB.heap.size wB ((wB.alloc (.cells #[] 86)).alloc (rowO s i)).drew := (((Below.refl _ _).alloc (Nat.le_refl _) _).alloc (by simp) _).drew
    have hh : ((wB.alloc (.cells #[] 86)).alloc (rowO s i)).drew.heap[wB.heap.size]? = some (.cells #[] 86 (0, 0)) := heap_old (heap_new wB (.cells #[] 86)) _
    obtain ⟨v1, wa, r1, o1, g1, -⟩ := app_rows (B := wB.heap.size) hh (Nat.le_refl _) (h2.below b0) (by omega)
    have ba : Below wB.heap.size wB wa := b0.grown g1 b0.size (by simp)
    have hh1 : ((wB.alloc (.cells #[] 86)).alloc (rowO s i)).drew.heap[wB.heap.size + 1]? = some (.cells (rowC s i).toArray 86 (0, 0)) := heap_new2 wB (.cells #[] 86) (rowO s i)
    have hh2 : wa.heap[wB.heap.size + 1]? = some (.cells (rowC s i).toArray 86 (0, 0)) := (g1.block _ (heap_lt hh1) (by simp)).trans hh1
    obtain ⟨v2, wf, r2, o2, g2⟩ := app_one o1 hh2 hs1 (by omega) ba.size
    exact ⟨v1, wa, v2, wf, r1, ba, r2, rows_fin hl h3 hs hone hs1 o2 (ba.grown g2 ba.size (fun k hk => (o1.lt k hk).1))⟩
  · have b0 : Below wB.heap.size wB ((wB.alloc (rowO s i)).alloc (.cells #[] 86)).drew := (((Below.refl _ _).alloc (Nat.le_refl _) _).alloc (by simp) _).drew
    have hh : ((wB.alloc (rowO s i)).alloc (.cells #[] 86)).drew.heap[wB.heap.size + 1]? = some (.cells #[] 86 (0, 0)) := heap_new2 wB (rowO s i) (.cells #[] 86)
    obtain ⟨v1, wa, r1, o1, g1, -⟩ := app_rows (B := wB.heap.size) hh (Nat.le_succ _) (h2.below b0) (by omega)
    have ba : Below wB.heap.size wB wa := b0.grown g1 b0.size (by simp)
    have hh1 : ((wB.alloc (rowO s i)).alloc (.cells #[] 86)).drew.heap[wB.heap.size]? = some (.cells (rowC s i).toArray 86 (0, 0)) := heap_old (heap_new wB (rowO s i)) _
    have hh2 : wa.heap[wB.heap.size]? = some (.cells (rowC s i).toArray 86 (0, 0)) := (g1.block _ (heap_lt hh1) (by simp)).trans hh1
    obtain ⟨v2, wf, r2, o2, g2⟩ := app_one o1 hh2 hs1 (by omega) ba.size
    exact ⟨v1, wa, v2, wf, r1, ba, r2, rows_fin hl h3 hs hone hs1 o2 (ba.grown g2 ba.size (fun k hk => (o1.lt k hk).1))⟩
end Go.Proofs.YtaonlcgneemimaaGreatDoor
namespace Go.Proofs.YtaonlcgneemimaaGreatDoor
open Go.RowKit
/-- What an event's pieces come to. -/
def PcsOk (w : World) (i : ItemA) (da : Option Addr) (dn dc : Nat) (P P' : List (List Int)) : Prop :=
  ∀ (W : World) (B c bl bb : Nat) (vs : List Value) (fb : Int → Option Value) (m : Nat) (sz : Int), Below w.heap.size w W → ChunksAt W B c P bl bb vs fb m sz → B ≤ W.heap.size →
    Calls Tryz.prog 27 #[.pointer (some ⟨c, 0, none⟩), .agg #[.int .i64 i.op, .string i.path, .string i.to, .int .i64 i.off, .int .i64 i.size, .slice da dn dc]] W fun e w' => ∃ v', e = .returned v' ∧ Sl w' 134 4 v' i.parts.length (partsC i.parts) ∧ (∃ vs' fb' m' sz', ChunksAt w' B c P' bl bb vs' fb' m' sz' ∧ VsOk W vs vs') ∧ Below B W w' ∧ KeptC W w'
/-- Behind the making of a row. -/
structure IngC (w2 wc : World) (B c bl bb : Nat) (vs : List Value) (P' : List (List Int)) (i : ItemA) (v' : Value) (q : Nat) : Prop where
  box : wc.heap[q]? = some (.cells #[.float .f64 0, .int .i64 i.op, .string i.path, .string i.to, .int .i64 i.off, .int .i64 i.size, .slice none 0 0, v'] 86 (0, 0))
  qB : B ≤ q
  parts : Sl wc 134 4 v' i.parts.length (partsC i.parts)
  chunks : ∃ vs' fb' m' sz', ChunksAt wc B c P' bl bb vs' fb' m' sz' ∧ VsOk w2 vs vs'
  below : Below B w2 wc
def rowZ : Array Value := #[.float .f64 0, .int .i64 0, .string ⟨#[]⟩, .string ⟨#[]⟩, .int .i64 0, .int .i64 0, .slice none 0 0, .slice none 0 0]
def rowW (W : World) (q : Nat) (a0 a1 a2 a3 a4 a5 a6 a7 : Value) : World := (((((((W.setCell ⟨q, 0, none⟩ a0).setCell ⟨q, 1, none⟩ a1).setCell ⟨q, 2, none⟩ a2).setCell ⟨q, 3, none⟩ a3).setCell ⟨q, 4, none⟩ a4).setCell ⟨q, 5, none⟩ a5).setCell ⟨q, 6, none⟩ a6).setCell ⟨q, 7, none⟩ a7
theorem row_box {W : World} {q : Nat} (h : W.heap[q]? = some (.cells rowZ 86 (0, 0))) (a0 a1 a2 a3 a4 a5 a6 a7 : Value) : (rowW W q a0 a1 a2 a3 a4 a5 a6 a7).heap[q]? = some (.cells #[a0, a1, a2, a3, a4, a5, a6, a7] 86 (0, 0)) ∧ Frame [q] W (rowW W q a0 a1 a2 a3 a4 a5 a6 a7) := by
  unfold rowZ at h
  constructor
  · have := setAt (setAt (setAt (setAt (setAt (setAt (setAt (setAt h 0 a0) 1 a1) 2 a2) 3 a3) 4 a4) 5 a5) 6 a6) 7 a7
    simpa [rowW] using this
  · unfold rowW
    exact (((((((((Frame.refl [q] W).setCell (p := ⟨q, 0, none⟩) (.inl (by simp)) a0).setCell (p := ⟨q, 1, none⟩) (.inl (by simp)) a1).setCell (p := ⟨q, 2, none⟩) (.inl (by simp)) a2).setCell (p := ⟨q, 3, none⟩) (.inl (by simp)) a3).setCell (p := ⟨q, 4, none⟩) (.inl (by simp)) a4).setCell (p := ⟨q, 5, none⟩) (.inl (by simp)) a5).setCell (p := ⟨q, 6, none⟩) (.inl (by simp)) a6).setCell (p := ⟨q, 7, none⟩) (.inl (by simp)) a7)
theorem ing_alloc {w2 W : World} {B c bl bb : Nat} {vs : List Value} {P' : List (List Int)} {i : ItemA} {v' : Value} (hs : Sl W 134 4 v' i.parts.length (partsC i.parts)) (hc : ∃ vs' fb' m' sz', ChunksAt W B c P' bl bb vs' fb' m' sz' ∧ VsOk w2 vs vs') (hb : Below B w2 W) (hB : B ≤ w2.heap.size) :
    IngC w2 (W.alloc (.cells #[.float .f64 0, .int .i64 i.op, .string i.path, .string i.to, .int .i64 i.off, .int .i64 i.size, .slice none 0 0, v'] 86)) B c bl bb vs P' i v' W.heap.size := by
  obtain ⟨vs', fb', m', sz', hc, hvo⟩ := hc
  have hs2 := hb.size
  exact ⟨heap_new _ _, by omega, hs.below ((Below.refl _ _).alloc (Nat.le_refl _) _), ⟨vs', fb', m', sz', hc.below ((Below.refl _ _).alloc (Nat.le_refl _) _), hvo⟩, hb.alloc (by omega) _⟩
theorem ing_set {w2 W : World} {B c bl bb q : Nat} {vs : List Value} {P' : List (List Int)} {i : ItemA} {v' : Value} (hs : Sl W 134 4 v' i.parts.length (partsC i.parts)) (hc : ∃ vs' fb' m' sz', ChunksAt W B c P' bl bb vs' fb' m' sz' ∧ VsOk w2 vs vs') (hb : Below B w2 W) (hq : B ≤ q) (hz : W.heap[q]? = some (.cells rowZ 86 (0, 0))) :
    IngC w2 (rowW W q (.float .f64 0) (.int .i64 i.op) (.string i.path) (.string i.to) (.int .i64 i.off) (.int .i64 i.size) (.slice none 0 0) v') B c bl bb vs P' i v' q := by
  obtain ⟨vs', fb', m', sz', hc, hvo⟩ := hc
  obtain ⟨h1, h2⟩ := row_box hz (.float .f64 0) (.int .i64 i.op) (.string i.path) (.string i.to) (.int .i64 i.off) (.int .i64 i.size) (.slice none 0 0) v'
  have hty : ∀ t, t ≠ 86 → ∀ g ∈ [q], ∀ arr, W.heap[g]? ≠ some (.cells arr t (0, 0)) := fun t ht g hg arr he => by
    simp only [List.mem_singleton] at hg
    subst hg
    exact cells_ty hz he (Ne.symm ht) rfl
  refine ⟨h1, hq, hs.frame h2 (hty 134 (by decide)), ⟨vs', fb', m', sz', hc.frame h2 ?_ ?_ ?_ ?_ (hty 5 (by decide)), hvo⟩, h2.belowIf hb (by simpa using hq) (by have := heap_lt hz; omega)⟩
  · simpa using (cells_ty hc.cell hz (by decide))
  · simp only [List.mem_singleton]
    rintro rfl
    exact hc.ml.cells hz
  · simp only [List.mem_singleton]
    rintro rfl
    exact hc.mb.cells hz
  · intro k v g hv hg
    obtain ⟨arr, ha⟩ := own_heap (hc.rows k v hv).1 hg
    simpa using (cells_ty ha hz (by decide))
end Go.Proofs.YtaonlcgneemimaaGreatDoor
namespace Go.Proofs.YtaonlcgneemimaaGreatDoor
open Go.RowKit
theorem rowZ_at {w : World} {q : Nat} (h : w.heap[q]? = some (.cells rowZ 86 (0, 0))) : w.heap[q]? = some (.cells #[.float .f64 0, .int .i64 0, .string ⟨#[]⟩, .string ⟨#[]⟩, .int .i64 0, .int .i64 0, .slice none 0 0, .slice none 0 0] 86 (0, 0)) := h
theorem keptC_row {w w' : World} {q : Nat} (h : KeptC w w') (hk : w.heap[q]? = some (.cells rowZ 86 (0, 0))) : w'.heap[q]? = some (.cells rowZ 86 (0, 0)) := h q _ _ hk (by decide) (by decide)
theorem rowZ_new (w : World) : (w.alloc (.cells #[.float .f64 0, .int .i64 0, .string ⟨#[]⟩, .string ⟨#[]⟩, .int .i64 0, .int .i64 0, .slice none 0 0, .slice none 0 0] 86)).heap[w.heap.size]? = some (.cells rowZ 86 (0, 0)) := heap_new w _
/-- What an event leaves. -/
def IngPost (w : World) (r : Nat) (X : RepX) (i : ItemA) (P' : List (List Int)) (w' : World) : Prop :=
  ∃ (c' bl' bb' : Nat) (vs' : List Value) (fb' : Int → Option Value) (m' : Nat) (sz' : Int) (rv' : Value) (nb' : Nat) (g' : Int → Option Value),
    RepAt w' r { X with c := c', P := P', bl := bl', bb := bb', vs := vs', fb := fb', m := m', sz := sz', rv := rv', its := X.its ++ [i], y := ⟨X.y.s, X.y.a, X.y.b, X.y.sm, nb', g', stepA X.y.x i⟩ } ∧ Frame (X.m1 r) w w' ∧ VsOk w X.vs vs'
theorem RepAt.mu_m1 {w : World} {r : Nat} {X : RepX} (H : RepAt w r X) : (∀ k ∈ X.x.mut X.e, k ∉ X.m1 r) ∧ (∀ k ∈ histM X.h X.pv X.sv, k ∉ X.m1 r) ∧ X.dm ∉ X.m1 r ∧ X.x.b ∉ X.m1 r := by
  have hy : ∀ k ∈ X.mu r, k ≠ X.y.a ∧ k ≠ X.y.b ∧ k ≠ X.y.sm := fun k hk => ⟨fun h => H.ynot X.y.a (by simp [StX.blocks]) (h ▸ hk), fun h => H.ynot X.y.b (by simp [StX.blocks]) (h ▸ hk), fun h => H.ynot X.y.sm (by simp [StX.blocks]) (h ▸ hk)⟩
  have hr : ∀ k, k ≠ r → (k ≠ X.y.a ∧ k ≠ X.y.b ∧ k ≠ X.y.sm) → k ∉ X.m1 r := fun k h1 h2 => by simp [RepX.m1, h1, h2]
  refine ⟨fun k hk => hr k ?_ (hy k (by simp [RepX.mu, hk])), fun k hk => hr k ?_ (hy k (by simp [RepX.mu, hk])), hr _ ?_ (hy _ (by simp [RepX.mu])), ?_⟩
  · rintro rfl
    exact H.eng.typed.out H.cell (by decide) hk
  · rintro rfl
    obtain ⟨arr, t, h1, h2⟩ := histM_ty H.hist k hk
    have h3 : t = 77 := by
      have h4 := H.cell
      rw [h1] at h4
      injection h4 with h4
      injection h4
    subst h3
    rcases h2 with h | h | h <;> exact absurd h (by decide)
  · intro h
    have := H.cell
    rw [← h] at this
    exact H.dmap.cells this
  · obtain ⟨ba, hba⟩ := H.eng.space.blk
    exact H.ty1.out hba (by decide)
theorem ing_close {w w5 w6 : World} {r : Nat} {X : RepX} {i : ItemA} {P' : List (List Int)} {B c' bl' bb' m' nb' : Nat} {vs' : List Value} {fb' g' : Int → Option Value} {sz' : Int} {rv' : Value} (H : RepAt w r X) (hi : okA X.y.x i) (hg : i.good) (h8 : i.op ≠ 8) (hb5 : Below w.heap.size w w5)
    (hc : ChunksAt w5 B c' P' bl' bb' vs' fb' m' sz') (hvo : VsOk w X.vs vs') (hB : w.heap.size ≤ B) (hr : RowsV w5 rv' (X.its ++ [i])) (hst : StAt w6 ⟨X.y.s, X.y.a, X.y.b, X.y.sm, nb', g', stepA X.y.x i⟩) (hf : Frame [X.y.a, X.y.b, X.y.sm] w5 w6) :
    IngPost w r X i P' ((w6.setCell ⟨r, 2, none⟩ (.pointer (some ⟨c', 0, none⟩))).setCell ⟨r, 5, none⟩ rv') := by
  have H5 := H.below hb5
  have F6 : Frame (X.m1 r) w5 w6 := hf.mono (fun x hx => .inl (by simp only [RepX.m1, List.mem_cons] at hx ⊢; right; exact hx))
  have hy0 : ∀ k ∈ X.y.blocks, k ≠ r := fun k hk h => H.ynot k hk (by simp [RepX.mu, h])
  have hr6 : r ∉ [X.y.a, X.y.b, X.y.sm] := by
    have h1 := hy0 X.y.a (by simp [StX.blocks])
    have h2 := hy0 X.y.b (by simp [StX.blocks])
    have h3 := hy0 X.y.sm (by simp [StX.blocks])
    simp [Ne.symm h1, Ne.symm h2, Ne.symm h3]
  have hc6 := hf.heap H5.cell hr6
  have F7 : Frame [r] w6 ((w6.setCell ⟨r, 2, none⟩ (.pointer (some ⟨c', 0, none⟩))).setCell ⟨r, 5, none⟩ rv') := ((Frame.refl [r] w6).setCell (p := ⟨r, 2, none⟩) (.inl (by simp)) _).setCell (p := ⟨r, 5, none⟩) (.inl (by simp)) _
  have F : Frame (X.m1 r) w5 ((w6.setCell ⟨r, 2, none⟩ (.pointer (some ⟨c', 0, none⟩))).setCell ⟨r, 5, none⟩ rv') := F6.trans F7 (fun x hx => .inl (by simp only [List.mem_singleton] at hx; simp [RepX.m1, hx]))
  obtain ⟨k1, k2, k3, k4⟩ := H5.mu_m1
  have T1 := H5.ty1
  have L1 := H.ty1.lt
  have L2 := H.ty2.lt
  have hnew : ∀ g, B ≤ g → g ∉ X.m1 r ∧ g ∉ X.mu r := fun g hg => ⟨fun h => by have := L1 g h; omega, fun h => by have := L2 g h; omega⟩
  have hcl := hc.lo
  refine ⟨c', bl', bb', vs', fb', m', sz', rv', nb', g', ⟨?_, H5.eng.frame F k1 k4, H5.hist.frame F k2 (fun z hz k hk => (H.znot z hz k hk).2) H.one.2 (T1.no (by decide)), (hc.frame F (hnew _ hcl.1).1 (hnew _ hcl.2.1).1 (hnew _ hcl.2.2).1 (fun k v g hv hg => (hnew g ((hc.rows k v hv).1.lt g hg).1).1) (T1.no (by decide))).weak (Nat.zero_le _), H5.dmap.same (F.block _ H5.dmap.lt k3), H.dval, hr.frame F (T1.no (by decide)) (T1.no (by decide)), ?_, ?_, ?_, ?_, H.one, H.ynot, H.znot, ⟨(hnew _ hcl.2.1).2, (hnew _ hcl.2.2).2⟩, fun k v g hv hg => (hnew g ((hc.rows k v hv).1.lt g hg).1).2, H.dne⟩, (Frame.of_below hb5 _).trans F (fun x hx => .inl hx), hvo⟩
  · have := setAt (setAt hc6 2 (.pointer (some ⟨c', 0, none⟩))) 5 rv'
    simpa using this
  · refine hst.frame F7 (fun k hk => by simpa using hy0 k hk) (fun h => H.one.1 (by simp only [List.mem_singleton] at h; simp [RepX.mu, h])) (fun k hk arr he => ?_)
    simp only [List.mem_singleton] at hk
    subst hk
    exact cells_ty hc6 he (by decide) rfl
  · show stepA X.y.x i = _
    rw [stepAll_snoc, ← H.yx]
  · exact okAll_snoc _ _ _ H.ok (by rw [← H.yx]; exact hi)
  · intro j hj
    rcases List.mem_append.1 hj with hj | hj
    · exact H.good j hj
    · simp only [List.mem_singleton] at hj
      subst hj
      exact ⟨hg, h8⟩
end Go.Proofs.YtaonlcgneemimaaGreatDoor
