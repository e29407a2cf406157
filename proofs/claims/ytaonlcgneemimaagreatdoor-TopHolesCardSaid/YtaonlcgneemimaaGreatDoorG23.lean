/- TopHoles: the contracts of Y16, Y17, Y18, Y19, Y20; no condition. -/
import Derived.Test.YtaonlcgneemimaaGreatDoorG22
import Derived.Test.YtaonlcgneemimaaGreatDoorG21
namespace Go.Proofs.YtaonlcgneemimaaGreatDoor
open Go.RowKit
theorem EngAt.typed2 {w : World} {e : Nat} {x : EngX} (h : EngAt w e x) : ∀ y ∈ x.mut e, y = x.cb ∨ ∃ arr t, w.heap[y]? = some (.cells arr t (0, 0)) ∧ t ∈ [151, 64, 33, 4, 227, 3] := by
  obtain ⟨mn, mf, hm0, -⟩ := h.disk.map
  intro y hy
  rcases h.typed y hy with h1 | ⟨es, cl, h1⟩
  · exact .inr h1
  · refine .inl ?_
    simp only [EngX.mut, List.mem_cons, List.mem_append, Option.mem_toList] at hy
    obtain ⟨ga, hga⟩ := h.space.row
    obtain ⟨ops, hd0⟩ := h.disk.cell
    obtain ⟨lr, hl0, -⟩ := h.disk.row
    have no : ∀ (arr : Array Value) (t : TypeId), w.heap[y]? = some (.cells arr t (0, 0)) → False := fun arr t h2 => by rw [h1] at h2; simp at h2
    rcases hy with rfl | rfl | rfl | rfl | rfl | rfl | rfl | hy | hy
    · exact (no _ _ h.cell).elim
    · exact (no _ _ hd0).elim
    · exact (no _ _ hl0).elim
    · rfl
    · exact (no _ _ hga).elim
    · exact (no _ _ h.logJ.cell).elim
    · exact (no _ _ h.logC.cell).elim
    · obtain ⟨arr, ha⟩ := own_heap h.logJ.segs hy
      exact (no _ _ ha).elim
    · obtain ⟨arr, ha⟩ := own_heap h.logC.segs hy
      exact (no _ _ ha).elim
theorem take_one_more {α : Type} (l : List α) (k : Nat) (i : α) (h : l[k]? = some i) : l.take (k + 1) = l.take k ++ [i] := take_snoc h
/-- The history as a commit goes on. -/
structure HistI (w wr : World) (h : Nat) (pv0 sv0 : Value) (xs0 : List StX) (its : List ItemA) (k : Nat) (pv sv : Value) (zs : List StX) : Prop where
  hist : HistAt wr h pv sv (xs0 ++ zs)
  len : zs.length = k
  st : ∀ j z, zs[j]? = some z → z.x = stepAll (lastX xs0) (its.take (j + 1)) ∧ ∀ b ∈ z.blocks, w.heap.size ≤ b
  fr : Frame (histM h pv0 sv0) w wr
  one : pv.ownBlock ≠ some 1
  ownp : ∀ g, pv.ownBlock = some g → pv0.ownBlock = some g ∨ w.heap.size ≤ g
  owns : ∀ g, sv.ownBlock = some g → sv0.ownBlock = some g ∨ w.heap.size ≤ g
theorem HistI.start {w : World} {h : Nat} {pv sv : Value} {xs : List StX} {its : List ItemA} (H : HistAt w h pv sv xs) (h1 : pv.ownBlock ≠ some 1) : HistI w w h pv sv xs its 0 pv sv [] :=
  ⟨by simpa using H, rfl, fun j z hz => by simp at hz, Frame.refl _ _, h1, fun g hg => .inl hg, fun g hg => .inl hg⟩
theorem HistI.last {w wr : World} {h : Nat} {pv0 sv0 pv sv : Value} {xs0 zs : List StX} {its : List ItemA} {k : Nat} (H : HistI w wr h pv0 sv0 xs0 its k pv sv zs) : lastX (xs0 ++ zs) = stepAll (lastX xs0) (its.take k) := by
  rcases List.eq_nil_or_concat zs with rfl | ⟨l, z, hlz⟩
  · have := H.len
    simp at this
    subst this
    simp [stepAll]
  · rw [List.concat_eq_append] at hlz
    subst hlz
    have hl := H.len
    have hz : (l ++ [z])[l.length]? = some z := by simp
    have h1 := (H.st l.length z hz).1
    simp at hl
    subst hl
    rw [← h1]
    unfold lastX
    simp
theorem HistI.step {w wr w2 : World} {h : Nat} {pv0 sv0 pv sv : Value} {xs0 zs : List StX} {its : List ItemA} {k : Nat} {i : ItemA} (H : HistI w wr h pv0 sv0 xs0 its k pv sv zs) (hk : its[k]? = some i) (hA : AddPost wr h pv sv (xs0 ++ zs) i w2) : ∃ pv' sv' zs', HistI w w2 h pv0 sv0 xs0 its (k + 1) pv' sv' zs' := by
  obtain ⟨pv', sv', y', h1, h2, h3, h4, h5, h6, h7⟩ := hA
  refine ⟨pv', sv', zs ++ [y'], by simpa using h1, by simp [H.len], fun j z hz => ?_, H.fr.trans h4 (fun x hx => ?_), h5, fun g hg => ?_, fun g hg => ?_⟩
  · by_cases hj : j < zs.length
    · rw [List.getElem?_append_left hj] at hz
      exact H.st j z hz
    · have hj0 : j = zs.length := by
        have := (List.getElem?_eq_some_iff.1 hz).1
        simp at this
        omega
      subst hj0
      simp at hz
      subst hz
      refine ⟨?_, fun b hb => Nat.le_trans H.fr.size (h3 b hb)⟩
      rw [h2, H.last, H.len, take_one_more _ _ _ hk, stepAll_snoc]
  · simp only [histM, List.mem_cons, List.mem_append, Option.mem_toList] at hx ⊢
    rcases hx with rfl | hx | hx
    · exact .inl (.inl rfl)
    · rcases H.ownp x hx with h | h
      · exact .inl (.inr (.inl h))
      · exact .inr h
    · rcases H.owns x hx with h | h
      · exact .inl (.inr (.inr h))
      · exact .inr h
  · rcases h6 with h6 | h6
    · exact H.ownp g (h6 ▸ hg)
    · exact .inr (Nat.le_trans H.fr.size (h6 g (by simpa using hg)))
  · rcases h7 with h7 | h7
    · exact H.owns g (h7 ▸ hg)
    · exact .inr (Nat.le_trans H.fr.size (h7 g (by simpa using hg)))
theorem histM_typed {w : World} {h : Nat} {pv sv : Value} {xs : List StX} (H : HistAt w h pv sv xs) : Typed w (histM h pv sv) [115, 52, 73] := fun k hk => by
  obtain ⟨a, t, h1, h2⟩ := histM_ty H k hk
  exact .inl ⟨a, t, h1, by rcases h2 with rfl | rfl | rfl <;> simp⟩
/-- The history behind the engine's part. -/
theorem commit_hist {w w2 w3 w4 : World} {r : Nat} {X : RepX} {x' : EngX} (H : RepAt w r X) (hb : Below w.heap.size w w2) (hm : EngMove w2 X.e X.x w3 x') (f4 : Frame [X.dm] w3 w4) : HistAt w3 X.h X.pv X.sv X.xs ∧ HistAt w4 X.h X.pv X.sv X.xs := by
  have H2 := H.below hb
  have T := H2.eng.typed
  have a3 : HistAt w3 X.h X.pv X.sv X.xs := H2.hist.frame hm.fr (fun k hk hk2 => by
    obtain ⟨arr, t, h1, h2⟩ := histM_ty H2.hist k hk
    exact T.out h1 (by rcases h2 with rfl | rfl | rfl <;> decide) hk2) (fun z hz k hk hk2 => (H.znot z hz k hk).1 (by simp [RepX.mu, hk2])) (fun h1 => H.one.1 (by simp [RepX.mu, h1])) (T.no (by decide))
  refine ⟨a3, a3.frame f4 (fun k hk hk2 => ?_) (fun z hz k hk hk2 => (H.znot z hz k hk).1 (by simp only [List.mem_singleton] at hk2; simp [RepX.mu, hk2])) (fun h1 => H.one.1 (by simp only [List.mem_singleton] at h1; simp [RepX.mu, h1])) (fun g hg arr he => ?_)⟩
  · simp only [List.mem_singleton] at hk2
    subst hk2
    obtain ⟨arr, t, h1, h2⟩ := histM_ty a3 _ hk
    have h3 : MapX KI w3 X.dm X.dn X.df := (H2.dmap.same (hm.fr.block _ H2.dmap.lt H.dne))
    exact h3.cells h1
  · simp only [List.mem_singleton] at hg
    subst hg
    have h3 : MapX KI w3 X.dm X.dn X.df := (H2.dmap.same (hm.fr.block _ H2.dmap.lt H.dne))
    exact h3.cells he
/-- A repository behind a commit. -/
def RepX.done (X : RepX) (x' : EngX) (pv sv : Value) (zs : List StX) (dn : Nat) (df : Int → Option Value) : RepX := { X with x := x', pv := pv, sv := sv, xs := X.xs ++ zs, dn := dn, df := df, rv := .slice none 0 0, its := [] }
theorem commit_close {w w2 w3 w4 w5 : World} {r : Nat} {X : RepX} {x' : EngX} {dn : Nat} {df : Int → Option Value} {pv sv : Value} {zs : List StX} (H : RepAt w r X) (hb : Below w.heap.size w w2) (hm : EngMove w2 X.e X.x w3 x') (hcb : x'.cb = X.x.cb) (hmap : MapX KI w4 X.dm dn df) (hdv : ∀ id v, df id = some v → v = .bool true) (f4 : Frame [X.dm] w3 w4)
    (hI : HistI w4 w5 X.h X.pv X.sv X.xs X.its X.its.length pv sv zs) :
    RepAt (w5.setCell ⟨r, 5, none⟩ (.slice none 0 0)) r (X.done x' pv sv zs dn df) ∧ Frame (X.mu r) w (w5.setCell ⟨r, 5, none⟩ (.slice none 0 0)) := by
  have H2 := H.below hb
  have T2 := H2.eng.typed
  obtain ⟨hh3, hh4⟩ := commit_hist H hb hm f4
  have hd3 : MapX KI w3 X.dm X.dn X.df := H2.dmap.same (hm.fr.block _ H2.dmap.lt H.dne)
  have F2 : Frame (X.mu r) w w2 := Frame.of_below hb _
  have F3 : Frame (X.mu r) w2 w3 := hm.fr.mono (fun k hk => .inl (by simp [RepX.mu, hk]))
  have F4 : Frame (X.mu r) w3 w4 := f4.mono (fun k hk => .inl (by simp only [List.mem_singleton] at hk; simp [RepX.mu, hk]))
  have F5 : Frame (X.mu r) w4 w5 := hI.fr.mono (fun k hk => .inl (by simp [RepX.mu, hk]))
  have f6 : Frame [r] w5 (w5.setCell ⟨r, 5, none⟩ (.slice none 0 0)) := (Frame.refl [r] w5).setCell (p := ⟨r, 5, none⟩) (.inl (by simp)) _
  have F6 : Frame (X.mu r) w5 (w5.setCell ⟨r, 5, none⟩ (.slice none 0 0)) := f6.mono (fun k hk => .inl (by simp only [List.mem_singleton] at hk; simp [RepX.mu, hk]))
  have F : Frame (X.mu r) w (w5.setCell ⟨r, 5, none⟩ (.slice none 0 0)) := (((F2.trans F3 (fun _ h => .inl h)).trans F4 (fun _ h => .inl h)).trans F5 (fun _ h => .inl h)).trans F6 (fun _ h => .inl h)
  have T := H.ty2
  have hr2 := H2.cell
  have hr3 := hm.fr.heap hr2 (T2.out hr2 (by decide))
  have hrd : r ≠ X.dm := fun h => hd3.cells (h ▸ hr3)
  have hr4 := f4.heap hr3 (by simpa using hrd)
  have TH4 := histM_typed hh4
  have hr5 := hI.fr.heap hr4 (TH4.out hr4 (by decide))
  have hs4 : w.heap.size ≤ w4.heap.size := Nat.le_trans hb.size (Nat.le_trans hm.fr.size f4.size)
  have hmu : ∀ k ∈ (X.done x' pv sv zs dn df).mu r, k ∈ X.mu r ∨ w.heap.size ≤ k := by
    intro k hk
    simp only [RepX.done, RepX.mu, List.mem_cons, List.mem_append, histM, Option.mem_toList] at hk ⊢
    rcases hk with rfl | rfl | hk | rfl | hk | hk
    · exact .inl (.inl rfl)
    · exact .inl (.inr (.inl rfl))
    · rcases hm.own k hk with h1 | h1
      · exact .inl (.inr (.inr (.inl h1)))
      · exact .inr (Nat.le_trans hb.size h1)
    · exact .inl (.inr (.inr (.inr (.inl rfl))))
    · rcases hI.ownp k hk with h1 | h1
      · exact .inl (.inr (.inr (.inr (.inr (.inl h1)))))
      · exact .inr (Nat.le_trans hs4 h1)
    · rcases hI.owns k hk with h1 | h1
      · exact .inl (.inr (.inr (.inr (.inr (.inr h1)))))
      · exact .inr (Nat.le_trans hs4 h1)
  have hnot : ∀ k, k < w.heap.size → k ∉ X.mu r → k ∉ (X.done x' pv sv zs dn df).mu r := fun k h1 h2 h3 => by
    rcases hmu k h3 with h4 | h4
    · exact h2 h4
    · omega
  have h1lt : 1 < w.heap.size := by
    obtain ⟨m, hm1⟩ := H.hist.glob
    exact World.block_lt_of_cell? w ⟨1, 0, none⟩ hm1
  have L1 := H.ty1.lt
  have M2 : Frame (r :: X.dm :: histM X.h X.pv X.sv) w3 (w5.setCell ⟨r, 5, none⟩ (.slice none 0 0)) := ((f4.mono (M' := r :: X.dm :: histM X.h X.pv X.sv) (fun k hk => .inl (by simp only [List.mem_singleton] at hk; simp [hk]))).trans hI.fr (fun k hk => .inl (by simp [hk]))).trans f6 (fun k hk => .inl (by simp only [List.mem_singleton] at hk; simp [hk]))
  have T3 := hm.eng.typed
  have hdm3 : X.dm ∉ x'.mut X.e := fun h => by
    rcases hm.own _ h with h1 | h1
    · exact H.dne h1
    · have := H2.dmap.lt
      omega
  have TH3 := histM_typed hh3
  have heng : EngAt (w5.setCell ⟨r, 5, none⟩ (.slice none 0 0)) X.e x' := hm.eng.frame M2 (fun k hk hk2 => by
    simp only [List.mem_cons] at hk2
    rcases hk2 with rfl | rfl | hk2
    · exact T3.out hr3 (by decide) hk
    · exact hdm3 hk
    · obtain ⟨arr, t, h1, h2⟩ := histM_ty hh3 k hk2
      exact T3.out h1 (by rcases h2 with rfl | rfl | rfl <;> decide) hk) (fun hk2 => by
    obtain ⟨ba, hba⟩ := hm.eng.space.blk
    simp only [List.mem_cons] at hk2
    rcases hk2 with hk2 | hk2 | hk2
    · rw [hk2] at hba
      exact cells_ty hba hr3 (by decide) rfl
    · rw [hk2] at hba
      exact hd3.cells hba
    · exact TH3.out hba (by decide) hk2)
  have hhr : r ∉ histM X.h pv sv := fun hk => by
    obtain ⟨arr, t, h1, h2⟩ := histM_ty hI.hist r hk
    rw [hr5] at h1
    injection h1 with h1
    injection h1 with _ h3
    subst h3
    rcases h2 with h2 | h2 | h2 <;> exact absurd h2 (by decide)
  have hzn : ∀ z ∈ zs, ∀ k ∈ z.blocks, w4.heap.size ≤ k := fun z hz k hk => by
    obtain ⟨j, hj, e⟩ := List.getElem_of_mem hz
    exact (hI.st j z (by rw [List.getElem?_eq_getElem hj, e])).2 k hk
  have hrlt := heap_lt H.cell
  have hone6 : ∀ g ∈ [r], ∀ arr, w5.heap[g]? ≠ some (.cells arr 134 (0, 0)) := fun g hg arr he => by
    simp only [List.mem_singleton] at hg
    subst hg
    exact cells_ty hr5 he (by decide) rfl
  have hhist : HistAt (w5.setCell ⟨r, 5, none⟩ (.slice none 0 0)) X.h pv sv (X.xs ++ zs) := hI.hist.frame f6 (fun k hk h => by simp only [List.mem_singleton] at h; exact hhr (h ▸ hk)) (fun z hz k hk h => by
    simp only [List.mem_singleton] at h
    subst h
    rcases List.mem_append.1 hz with hz | hz
    · exact (H.znot z hz _ hk).1 (by simp [RepX.mu])
    · have := hzn z hz _ hk
      omega) (fun h => H.one.1 (by simp only [List.mem_singleton] at h; simp [RepX.mu, h])) hone6
  have hdm6 : MapX KI (w5.setCell ⟨r, 5, none⟩ (.slice none 0 0)) X.dm dn df := by
    have h5 : MapX KI w5 X.dm dn df := hmap.same (hI.fr.block _ hmap.lt (fun h => by
      obtain ⟨arr, t, h1, h2⟩ := histM_ty hh4 _ h
      exact hmap.cells h1))
    exact h5.same (f6.block _ h5.lt (by simpa using (Ne.symm hrd)))
  refine ⟨⟨?_, heng, hhist, H.chunks.frame F (T.out H.chunks.cell (by decide)) H.cnot.1 H.cnot.2 H.fnot (T.no (by decide)), hdm6, hdv, ⟨[], rfl, Sl.nil _ _ _, fun j s i h => by simp at h⟩, H.st.frame F H.ynot H.one.1 (T.no (by decide)), ?_, trivial, fun i hi => by simp [RepX.done] at hi, ⟨?_, H.one.2⟩, fun k hk => hnot k (H.st.lt k hk) (H.ynot k hk), fun z hz k hk => ?_, ⟨hnot _ H.chunks.ml.lt H.cnot.1, hnot _ H.chunks.mb.lt H.cnot.2⟩, fun k v g hv hg => hnot g ((H.chunks.rows k v hv).1.lt g hg).2 (H.fnot k v g hv hg), hdm3⟩, F⟩
  · have := setAt hr5 5 (.slice none 0 0)
    simpa [RepX.done] using this
  · show X.y.x = stepAll (lastX (X.xs ++ zs)) []
    rw [H.yx]
    show _ = lastX (X.xs ++ zs)
    rw [hI.last, List.take_length]
  · intro h
    rcases hmu 1 h with h | h
    · exact H.one.1 h
    · omega
  · rcases List.mem_append.1 hz with hz | hz
    · exact ⟨hnot k ((H.hist.each z hz).lt k hk) (H.znot z hz k hk).1, (H.znot z hz k hk).2⟩
    · have hk4 := hzn z hz k hk
      refine ⟨fun hmk => ?_, fun h1 => by have := L1 k h1; omega⟩
      have hzst := hhist.each z (List.mem_append_right _ hz)
      have hkind : (∃ arr t, (w5.setCell ⟨r, 5, none⟩ (.slice none 0 0)).heap[k]? = some (.cells arr t (0, 0)) ∧ (t = 121 ∨ t = 170)) ∨ ∃ es cl, (w5.setCell ⟨r, 5, none⟩ (.slice none 0 0)).heap[k]? = some (.map es cl) := by
        simp only [StX.blocks, List.mem_cons, List.not_mem_nil, or_false] at hk
        rcases hk with rfl | rfl | rfl | rfl
        · exact .inl ⟨_, _, hzst.at'.cell, .inl rfl⟩
        · exact .inl ⟨_, _, hzst.at'.tree.cell, .inr rfl⟩
        · exact .inr hzst.at'.tree.map.obj
        · exact .inr hzst.at'.bodies.map.obj
      have clash : ∀ (arr : Array Value) (t : TypeId), (w5.setCell ⟨r, 5, none⟩ (.slice none 0 0)).heap[k]? = some (.cells arr t (0, 0)) → t ≠ 121 → t ≠ 170 → False := fun arr t h1 h2 h3 => by
        rcases hkind with ⟨a, u, h4, h5⟩ | ⟨es, cl, h4⟩
        · rw [h1] at h4
          injection h4 with h4
          injection h4 with _ h6
          subst h6
          rcases h5 with h5 | h5
          · exact h2 h5
          · exact h3 h5
        · rw [h1] at h4
          simp at h4
      simp only [RepX.done, RepX.mu, List.mem_cons, List.mem_append] at hmk
      rcases hmk with rfl | rfl | hmk | hmk
      · omega
      · have := H.dmap.lt
        omega
      · rcases heng.typed2 k hmk with h1 | ⟨arr, t, h1, h2⟩
        · rw [hcb] at h1
          have := (H.eng.disk.lt).2.2
          omega
        · simp only [List.mem_cons, List.not_mem_nil, or_false] at h2
          refine clash arr t h1 ?_ ?_ <;> rcases h2 with rfl | rfl | rfl | rfl | rfl | rfl <;> decide
      · obtain ⟨arr, t, h1, h2⟩ := histM_ty hhist k hmk
        refine clash arr t h1 ?_ ?_ <;> rcases h2 with rfl | rfl | rfl <;> decide
end Go.Proofs.YtaonlcgneemimaaGreatDoor
namespace Go.Proofs.YtaonlcgneemimaaGreatDoor
open Go.RowKit
theorem sumMany_few : ∀ (ls : List (List Int)), (∀ l ∈ ls, 1 ≤ l.length ∧ l.length ≤ 200) → sumMany ls ≤ 4 * ls.length
  | [], _ => by simp [sumMany]
  | l :: ls, h => by
    have h1 := (h l (by simp)).2
    have h2 := sumMany_few ls (fun x hx => h x (by simp [hx]))
    have h3 : manyN l.length ≤ 4 := by unfold manyN; omega
    simp only [sumMany, List.map_cons, List.sum_cons, List.length_cons] at h2 ⊢
    omega
/-- What a commit leaves. -/
def CommitPost (w : World) (r : Nat) (X : RepX) (w' : World) : Prop :=
  ∃ (x' : EngX) (pv sv : Value) (zs : List StX) (dn : Nat) (df : Int → Option Value) (T : Nat), RepAt w' r (X.done x' pv sv zs dn df) ∧ Frame (X.mu r) w w' ∧ zs.length = X.its.length ∧ (∀ j z, zs[j]? = some z → z.x = stepAll (lastX X.xs) (X.its.take (j + 1))) ∧ T ≤ 4 * X.P.length ∧ dn ≤ X.dn + X.P.length ∧
    EngGrew X.x x' 4 (manyN (recordB (X.xs.length + 1) X.its).length) T (needN X.x.ssJ.length X.x.nJ (manyN (recordB (X.xs.length + 1) X.its).length)) (needN X.x.ssC.length X.x.nC T)
/-- The pieces' numbers as they are noted. -/
structure NoteI (w3 wr : World) (dm dn0 k : Nat) (dn : Nat) (df : Int → Option Value) : Prop where
  map : MapX KI wr dm dn df
  val : ∀ id v, df id = some v → v = .bool true
  few : dn ≤ dn0 + k
  fr : Frame [dm] w3 wr
theorem NoteI.step {w3 wr : World} {dm dn0 k dn : Nat} {df : Int → Option Value} (h : NoteI w3 wr dm dn0 k dn df) (hs : dn0 + k ≤ 1000000) (id : Int) (hid : 1 ≤ id ∧ id ≤ 1000000) : ∃ w9, (Instr.mapUpdate 72 (.map (some dm)) (.int .i64 id) (.bool true)).run Tryz.prog wr = .ok () w9 ∧ ∃ dn' df', NoteI w3 w9 dm dn0 (k + 1) dn' df' := by
  obtain ⟨w9, h1, h2, h3⟩ := h.map.store Tryz.underlying72 (by have := h.few; unfold maxLen; omega) (x := id) (KI_good (by omega)) (.bool true)
  refine ⟨w9, h1, _, _, h2, fun x v hx => ?_, by have := h.few; split <;> omega, h.fr.turned h3 (.inl (by simp))⟩
  unfold fput at hx
  split at hx
  · simpa using hx.symm
  · exact h.val x v hx
theorem RowsV.item {w : World} {v : Value} {its : List ItemA} (h : RowsV w v its) {ra : Option Addr} {n rcap : Nat} (hv : v = .slice ra n rcap) {k : Nat} {i : ItemA} (hk : its[k]? = some i) : ∃ g off s, ra = some ⟨g, off, none⟩ ∧ Sl w 134 4 s i.parts.length (partsC i.parts) ∧ w.cell? ⟨g, off + k * 8, none⟩ = some (.float .f64 0) ∧ w.cell? ⟨g, off + k * 8 + 1, none⟩ = some (.int .i64 i.op) ∧ w.cell? ⟨g, off + k * 8 + 2, none⟩ = some (.string i.path) ∧ w.cell? ⟨g, off + k * 8 + 3, none⟩ = some (.string i.to) ∧ w.cell? ⟨g, off + k * 8 + 4, none⟩ = some (.int .i64 i.off) ∧ w.cell? ⟨g, off + k * 8 + 5, none⟩ = some (.int .i64 i.size) ∧ w.cell? ⟨g, off + k * 8 + 6, none⟩ = some (.slice none 0 0) ∧ w.cell? ⟨g, off + k * 8 + 7, none⟩ = some (s) := by
  obtain ⟨a, cap, e, -, -, hc⟩ := rows_cells h
  obtain ⟨g, off, s, h1, h2, h3, h4⟩ := hc k i hk
  rw [hv] at e
  injection e with e1 e2 e3
  exact ⟨g, off, s, e1.trans h1, h3, h4⟩
set_option maxRecDepth 100000 in
set_option maxHeartbeats 8000000 in
theorem commit_any (w : World) (r : Nat) (X : RepX) (H : RepAt w r X) (hne : X.its ≠ []) (hlen : (recordB (X.xs.length + 1) X.its).length ≤ 16384) (hfew : X.xs.length + X.its.length ≤ 9999) (hP : X.P.length ≤ 20000) (hdn : X.dn ≤ 100000) (hk : X.x.k ≤ 100000) (hnum : X.x.number + 4 ≤ 2147483647)
    (hok : ∀ T, T ≤ 4 * X.P.length → needN X.x.ssC.length X.x.nC T + needN X.x.ssJ.length X.x.nJ (manyN (recordB (X.xs.length + 1) X.its).length) ≤ sp_frees X.x.bs) :
    Calls Tryz.prog 10 #[.pointer (some ⟨r, 0, none⟩)] w fun e w' => e = .returned (.int .i64 0) ∧ CommitPost w r X w' := by
  have HH := Lib.hid H
  obtain ⟨ra, rcap, hrv, -, -, -⟩ := rows_cells H.rows
  obtain ⟨n, hn⟩ : ∃ n, Hid (n = X.its.length) := ⟨_, Lib.hid rfl⟩
  rw [← hn.out] at hrv hfew
  have hn0 : n ≠ 0 := by rw [hn.out]; exact fun h => hne (List.eq_nil_of_length_eq_zero h)
  have dn0 : ((n : Int) == 0) = false := by simpa using hn0
  have HRV := Lib.hid hrv
  have HC := Lib.hid H.cell
  rw [hrv] at HC
  have HK := Lib.hid hok
  obtain ⟨Rc, hRc⟩ : ∃ R, Hid (R = recordB (X.xs.length + 1) X.its) := ⟨_, Lib.hid rfl⟩
  obtain ⟨NP, hNP⟩ : ∃ N, Hid (N = X.P.length) := ⟨_, Lib.hid rfl⟩
  rw [← hNP.out] at hP
  have BT : Hid (Calls Tryz.prog 28 #[.pointer (some ⟨r, 0, none⟩), .slice ra n rcap] w fun e w' => ∃ v', e = .returned (.tuple #[v', .int .i64 0]) ∧ w'.ownsRow w.heap.size 5 1 v' Rc.length (u8s Rc) ∧ Below w.heap.size w w') := Lib.hid (by
    rw [hRc.out]
    have := H.rows
    rw [hrv] at this
    exact repBatch_any w r X.h _ _ _ _ _ _ _ _ X.xs HC.out H.hist _ _ this (fun j hj => (H.good j hj).1) hne (by have := hn.out; omega) hlen)
  have hR1 : 1 ≤ Rc.length := by rw [hRc.out]; simp [recordB]
  have hR0 : 0 < Rc.length := hR1
  have hR2 : Rc.length ≤ 16384 := by rw [hRc.out]; exact hlen
  have FR : Hid (∀ W, Below w.heap.size w W → Calls Tryz.prog 31 #[.pointer (some ⟨r, 0, none⟩)] W fun e w' => ∃ v4 v5 ls ids, e = .returned (.tuple #[v4, v5]) ∧ Hid (RowsB w' v4 ls) ∧ Hid (∀ l ∈ ls, 1 ≤ l.length ∧ l.length ≤ 200) ∧ ls.length ≤ NP ∧ Hid (Sl w' 3 1 v5 ids.length (ints ids)) ∧ Hid (∀ g, v5.ownBlock = some g → W.heap.size ≤ g) ∧ Hid (∀ id ∈ ids, 1 ≤ id ∧ id ≤ NP) ∧ ids.length ≤ NP ∧ Below W.heap.size W w') := Lib.hid (fun W hW => by
    refine (fresh_any W r X.c X.dm X.dn _ _ _ _ _ 0 X.P X.bl X.bb X.vs X.fb X.m X.sz X.df (Below.heap hW (Nat.le_refl _) HC.out) (HH.out.chunks.below hW) (keep_map HH.out.dmap hW) HH.out.dval).mono ?_
    rintro e w' ⟨v4, v5, ls, ids, h1, h2, h3, h4, h5, h6, h7, h8, h9, h10⟩
    rw [hNP.out]
    exact ⟨v4, v5, ls, ids, h1, h2, h3, h4, h6, h7, h8, h9, h10⟩)
  have EA : Hid (∀ W v4 ls v, Below w.heap.size w W → RowsB W v4 ls → (∀ l ∈ ls, 1 ≤ l.length ∧ l.length ≤ 200) → ls.length ≤ NP → Sl W 5 1 v Rc.length (u8s Rc) → Calls Tryz.prog 32 #[.pointer (some ⟨X.e, 0, none⟩), v4, v] W fun e w' => e = .returned (.int .i64 0) ∧ Hid (∃ x' T, EngMove W X.e X.x w' x' ∧ T ≤ 4 * NP ∧ EngGrew X.x x' 4 (manyN Rc.length) T (needN X.x.ssJ.length X.x.nJ (manyN Rc.length)) (needN X.x.ssC.length X.x.nC T))) := Lib.hid (fun W v4 ls v hW h1 h2 h3 h4 => by
    have hT := sumMany_few ls h2
    refine (append_any W X.e X.x (HH.out.eng.below hW) v4 ls h1 (fun l hl => ⟨(h2 l hl).1, by have := (h2 l hl).2; omega⟩) v Rc h4 hR1 hR2 (by omega) hk hnum (by have := HK.out (sumMany ls) (by rw [← hNP.out]; omega); rw [← hRc.out] at this; exact this)).mono ?_
    rintro e w' ⟨rfl, x', h5, h6⟩
    exact ⟨rfl, x', sumMany ls, h5, by omega, h6⟩)
  obtain ⟨Q, hQ⟩ : ∃ Q, Hid (Q = CommitPost w r X) := ⟨_, Lib.hid rfl⟩
  rw [← hQ.out]
  have c0 := cellAt HC.out 0
  have c5 := cellAt HC.out 5
  simp only [List.getElem?_toArray, List.getElem?_cons_zero, List.getElem?_cons_succ] at c0 c5
  have KB : Hid (∀ W : World, Below w.heap.size w W → W.cell? ⟨r, 0, none⟩ = some (.pointer (some ⟨X.e, 0, none⟩)) ∧ W.cell? ⟨r, 5, none⟩ = some (.slice ra n rcap)) := Lib.hid (fun W hW => ⟨cellAt (Below.heap hW (Nat.le_refl _) HC.out) 0, cellAt (Below.heap hW (Nat.le_refl _) HC.out) 5⟩)
  clear H hne hlen hk hnum hok hrv hn0
  go_enter Tryz.func10, Tryz.ntmps10
  go_wp2_with (first | (go_at_call 28; with_reducible refine BT.out.mono ?_; rintro e1 w1 ⟨vb, rfl, ho, hq⟩; have O1 := Lib.hid ho; have B1 := Lib.hid hq; obtain ⟨ba, bcap, rfl⟩ := own_shape ho; have y0 := (KB.out _ hq).1; clear ho hq) | (go_at_call 31; with_reducible refine (FR.out _ B1.out).mono ?_; rintro e1 w2 ⟨v4, v5, ls, ids, rfl, R4, L4, hl4, S5, O5, M5, hl5, hq⟩; have B12 := Lib.hid hq; have B2 : Hid (Below w.heap.size w w2) := Lib.hid (B1.out.trans (hq.mono B1.out.size)); have z0 := (KB.out _ B2.out).1; obtain ⟨ia, icap, rfl, hicap, -, hsh⟩ := S5.out.shape; have SH := Lib.hid hsh; have V2 : Hid (Sl w2 5 1 (.slice ba Rc.length bcap) Rc.length (u8s Rc)) := Lib.hid ((Sl.of_own O1.out (u8s_one' _) (.inr hR0)).below hq); clear hq hsh) | (go_at_call 32; with_reducible refine (EA.out _ v4 ls _ B2.out R4.out L4.out hl4 V2.out).mono ?_; rintro e1 w3 ⟨rfl, EM⟩))
  obtain ⟨x', T, hm, hT, hg⟩ := EM.out
  have HM := Lib.hid hm
  have HG := Lib.hid hg
  have HT := Lib.hid hT
  have B2o := B2.out
  have hr3 : Hid (w3.heap[r]? = _) := Lib.hid (hm.fr.heap (Below.heap B2o (Nat.le_refl _) HC.out) (HH.out.eng.typed.out HC.out (by decide)))
  have hd3 : Hid (MapX KI w3 X.dm X.dn X.df) := Lib.hid ((keep_map HH.out.dmap B2o).same (hm.fr.block _ (keep_map HH.out.dmap B2o).lt HH.out.dne))
  have hrd : Hid (r ≠ X.dm) := Lib.hid (fun h => hd3.out.cells (h ▸ hr3.out))
  obtain ⟨NI, hNI⟩ : ∃ N, Hid (N = ids.length) := ⟨_, Lib.hid rfl⟩
  rw [← hNI.out] at hicap hl5 ⊢
  have RC : Hid (∀ W, Frame [X.dm] w3 W → W.cell? ⟨r, 3, none⟩ = some (.map (some X.dm)) ∧ W.cell? ⟨r, 5, none⟩ = some (.slice ra n rcap)) := Lib.hid (fun W hW => by
    have h := hW.heap hr3.out (by simpa using hrd.out)
    exact ⟨cellAt h 3, cellAt h 5⟩)
  have IDC : Hid (∀ W, Frame [X.dm] w3 W → ∀ (k : Nat) (id : Int), ids[k]? = some id → ∃ g off, ia = some ⟨g, off, none⟩ ∧ W.cell? ⟨g, off + k, none⟩ = some (.int .i64 id)) := Lib.hid (fun W hW k id hid => by
    have hkl := (List.getElem?_eq_some_iff.1 hid).1
    obtain ⟨g, off, he, hgl, hc⟩ := SH.out k hkl
    have h0 := hc 0 (.int .i64 id) (by decide) (by simp [ints, hid])
    rw [Nat.mul_one, Nat.add_zero] at h0
    refine ⟨g, off, he, ?_⟩
    have hge : w1.heap.size ≤ g := O5.out g (by rw [he]; rfl)
    have hn1 : g ∉ X.x.mut X.e := fun h => by
      have := HH.out.eng.typed.lt g h
      have := B1.out.size
      omega
    have hn2 : g ≠ X.dm := fun h => by
      have := HH.out.dmap.lt
      have := B1.out.size
      omega
    rw [hW.cell (p := ⟨g, off + k, none⟩) (Nat.lt_of_lt_of_le hgl HM.out.fr.size) (by simpa using hn2), HM.out.fr.cell (p := ⟨g, off + k, none⟩) hgl hn1]
    exact h0)
  have hr3c := (RC.out w3 (Frame.refl _ _)).1
  clear hm hg hT EM B2o y0 z0 hrd
  go_loopw [8, 50] (fun _ ti wr => ∃ k : Nat, k ≤ NI ∧ ti = .int .i64 k ∧ Hid (∃ dn df, NoteI w3 wr X.dm X.dn k dn df)) (fun _ i _ => NI - (intOf i).toNat)
  case atStart => exact ⟨0, by omega, rfl, Lib.hid ⟨X.dn, X.df, hd3.out, HH.out.dval, Nat.le_refl _, Frame.refl _ _⟩⟩
  case round =>
  obtain ⟨k, hk, rfl, hI⟩ := hrel
  obtain ⟨dn1, df1, hI⟩ := hI.out
  have HI := Lib.hid hI
  obtain ⟨y3, y5⟩ := RC.out _ hI.fr
  clear hI
  by_cases hlt : k < NI
  · obtain ⟨id, hid⟩ : ∃ id, ids[k]? = some id := ⟨_, List.getElem?_eq_getElem (by have := hNI.out; omega)⟩
    obtain ⟨g, off, rfl, hc⟩ := IDC.out _ HI.out.fr k id hid
    have hmem := M5.out id (List.mem_of_getElem? hid)
    obtain ⟨w9, hrun, hN9⟩ := HI.out.step (by omega) id (by omega)
    have HN9 := Lib.hid hN9
    clear hN9 hmem hid
    go_wp2_with fail
    go_roundw
    case rel => exact ⟨k + 1, by omega, by go_num, HN9⟩
    case measure => simp [intOf]; omega
  · have hkN : NI = k := by omega
    subst hkN
    obtain ⟨w4, hw4⟩ : ∃ x : World, x = wr := ⟨_, rfl⟩
    subst hw4
    have hh4 := (commit_hist HH.out B2.out HM.out HI.out.fr).2
    have hr4 : Hid (w4.heap[r]? = _) := Lib.hid (HI.out.fr.heap hr3.out (by simpa using (fun h => hd3.out.cells (h ▸ hr3.out) : r ≠ X.dm)))
    have HST : Hid (HistI w4 w4 X.h X.pv X.sv X.xs X.its 0 X.pv X.sv []) := Lib.hid (HistI.start hh4 (fun h => HH.out.one.1 (by simp [RepX.mu, histM, h])))
    have R4H : Hid (∀ W, Frame (histM X.h X.pv X.sv) w4 W → W.heap[r]? = some (.cells #[.pointer (some ⟨X.e, 0, none⟩), .pointer (some ⟨X.h, 0, none⟩), .pointer (some ⟨X.c, 0, none⟩), .map (some X.dm), .float .f64 0, .slice ra n rcap, .pointer (some ⟨X.y.s, 0, none⟩)] 77 (0, 0))) := Lib.hid (fun W hW => hW.heap hr4.out ((histM_typed hh4).out hr4.out (by decide)))
    have MU : Hid (∀ W, Frame (histM X.h X.pv X.sv) w4 W → Frame (X.mu r) w W) := Lib.hid (fun W hW => by
      have F2 : Frame (X.mu r) w w2 := Frame.of_below B2.out _
      have F3 : Frame (X.mu r) w2 w3 := HM.out.fr.mono (fun k hk => .inl (by simp [RepX.mu, hk]))
      have F4 : Frame (X.mu r) w3 w4 := HI.out.fr.mono (fun k hk => .inl (by simp only [List.mem_singleton] at hk; simp [RepX.mu, hk]))
      have F5 : Frame (X.mu r) w4 W := hW.mono (fun k hk => .inl (by simp [RepX.mu, hk]))
      exact ((F2.trans F3 (fun _ h => .inl h)).trans F4 (fun _ h => .inl h)).trans F5 (fun _ h => .inl h))
    have RV : Hid (∀ W, Frame (histM X.h X.pv X.sv) w4 W → RowsV W (.slice ra n rcap) X.its) := Lib.hid (fun W hW => by
      have := HH.out.rows.frame (MU.out W hW) (HH.out.ty2.no (by decide)) (HH.out.ty2.no (by decide))
      rw [HRV.out] at this
      exact this)
    clear hh4
    go_wp2_with fail
    go_loopw [10, 65] (fun _ ti wr => ∃ k : Nat, k ≤ n ∧ ti = .int .i64 k ∧ Hid (∃ pv sv zs, HistI w4 wr X.h X.pv X.sv X.xs X.its k pv sv zs)) (fun _ i _ => n - (intOf i).toNat)
    case atStart => exact ⟨0, by omega, rfl, Lib.hid ⟨_, _, _, HST.out⟩⟩
    case round =>
    obtain ⟨k2, hk2, rfl, hJ⟩ := hrel
    obtain ⟨pv, sv, zs, hJ⟩ := hJ.out
    have HJ := Lib.hid hJ
    have hrr := R4H.out _ hJ.fr
    by_cases hlt2 : k2 < n
    · obtain ⟨i, hi⟩ : ∃ i, X.its[k2]? = some i := ⟨_, List.getElem?_eq_getElem (by have := hn.out; omega)⟩
      obtain ⟨g, off, s, rfl, hs, q0, q1, q2, q3, q4, q5, q6, q7⟩ := (RV.out _ hJ.fr).item rfl hi
      obtain ⟨sa, sc, rfl, -, -, -⟩ := hs.shape
      obtain ⟨m, hm⟩ : ∃ m, Hid (m = (X.xs ++ zs).length) := ⟨_, Lib.hid rfl⟩
      have hml : m ≤ 9999 := by
        have h1 := hm.out
        have h2 := hJ.len
        rw [List.length_append] at h1
        omega
      have HS := Lib.hid hs
      have hig := HH.out.good i (List.mem_of_getElem? hi)
      have hok := okAll_at _ _ HH.out.ok k2 i hi
      rw [← hJ.last] at hok
      have HSTEP : Hid (∀ W, Below wr.heap.size wr W → Calls Tryz.prog 33 #[.pointer (some ⟨X.h, 0, none⟩), .agg #[.int .i64 ((m : Int) + 1), .float .f64 0, .string ⟨#[]⟩], .agg #[.int .i64 i.op, .string i.path, .string i.to, .int .i64 i.off, .int .i64 i.size, .slice none 0 0, .slice sa i.parts.length sc]] W fun e w' => e = .returned (.int .i64 0) ∧ Hid (∃ pv' sv' zs', HistI w4 w' X.h X.pv X.sv X.xs X.its (k2 + 1) pv' sv' zs') ∧ Hid (Frame (histM X.h pv sv) W w')) := Lib.hid (fun W hW => by
        have := histAdd_any W X.h pv sv (X.xs ++ zs) (HJ.out.hist.below hW) HJ.out.one (by have := hm.out; omega) i hok hig.1 (.slice sa i.parts.length sc) (HS.out.below hW)
        rw [← hm.out] at this
        refine this.mono ?_
        rintro e w' ⟨rfl, hA⟩
        have hJW : HistI w4 W X.h X.pv X.sv X.xs X.its k2 pv sv zs := ⟨HJ.out.hist.below hW, HJ.out.len, HJ.out.st, HJ.out.fr.then_below hW, HJ.out.one, HJ.out.ownp, HJ.out.owns⟩
        refine ⟨rfl, Lib.hid (hJW.step hi hA), ?_⟩
        obtain ⟨pv', sv', y', h1, h2, h3, h4, -⟩ := hA
        exact Lib.hid h4)
      have LP : Hid (∀ W, Below wr.heap.size wr W → Calls Tryz.prog 35 #[.pointer (some ⟨X.h, 0, none⟩)] W fun e w' => e = .returned (.agg #[.int .i64 m, .float .f64 0, .string ⟨#[]⟩]) ∧ Below W.heap.size W w') := Lib.hid (fun W hW => by
        have := lastPt_any W X.h pv sv (X.xs ++ zs) (HJ.out.hist.below hW)
        rw [← hm.out] at this
        exact this)
      have PT : Hid (∀ W, Calls Tryz.prog 34 #[.int .i64 ((m : Int) + 1), .agg #[.float .f64 0, .int .i64 i.op, .string i.path, .string i.to, .int .i64 i.off, .int .i64 i.size, .slice none 0 0, .slice sa i.parts.length sc]] W fun e w' => e = .returned (.agg #[.int .i64 ((m : Int) + 1), .float .f64 0, .string ⟨#[]⟩]) ∧ Below W.heap.size W w') := Lib.hid (fun W => point_any W _ i hig.2 _ ⟨_, _, _, rfl⟩)
      obtain ⟨W1, hW1⟩ : ∃ W1, Hid (W1 = wr.alloc (.cells #[.float .f64 0, .int .i64 i.op, .string i.path, .string i.to, .int .i64 i.off, .int .i64 i.size, .slice none 0 0, .slice sa i.parts.length sc] 86)) := ⟨_, Lib.hid rfl⟩
      have Bx : Hid (Below wr.heap.size wr W1) := Lib.hid (by rw [hW1.out]; exact crc_below _ _)
      have hs1 : W1.heap.size = wr.heap.size + 1 := by rw [hW1.out]; simp
      have hrx : Hid (W1.heap[r]? = _ ∧ W1.heap[wr.heap.size]? = some (.cells #[.float .f64 0, .int .i64 i.op, .string i.path, .string i.to, .int .i64 i.off, .int .i64 i.size, .slice none 0 0, .slice sa i.parts.length sc] 86 (0, 0))) := Lib.hid ⟨Below.heap Bx.out (Nat.le_refl _) hrr, by rw [hW1.out]; exact heap_new _ _⟩
      have K20 : Hid (∀ W : World, Below W1.heap.size W1 W → W.cell? ⟨r, 1, none⟩ = some (.pointer (some ⟨X.h, 0, none⟩)) ∧ W.cell? ⟨wr.heap.size, 0, none⟩ = some (.float .f64 0) ∧ W.cell? ⟨wr.heap.size, 1, none⟩ = some (.int .i64 i.op) ∧ W.cell? ⟨wr.heap.size, 2, none⟩ = some (.string i.path) ∧ W.cell? ⟨wr.heap.size, 3, none⟩ = some (.string i.to) ∧ W.cell? ⟨wr.heap.size, 4, none⟩ = some (.int .i64 i.off) ∧ W.cell? ⟨wr.heap.size, 5, none⟩ = some (.int .i64 i.size) ∧ W.cell? ⟨wr.heap.size, 6, none⟩ = some (.slice none 0 0) ∧ W.cell? ⟨wr.heap.size, 7, none⟩ = some (.slice sa i.parts.length sc)) := Lib.hid (fun W hW => by
        have h1 := Below.heap hW (Nat.le_refl _) hrx.out.1
        have h2 := Below.heap hW (Nat.le_refl _) hrx.out.2
        exact ⟨cellAt h1 1, cellAt h2 0, cellAt h2 1, cellAt h2 2, cellAt h2 3, cellAt h2 4, cellAt h2 5, cellAt h2 6, cellAt h2 7⟩)
      have TY := HJ.out.hist
      have hno : Hid (r ∉ histM X.h pv sv ∧ wr.heap.size ∉ histM X.h pv sv) := Lib.hid ⟨(histM_typed TY).out hrr (by decide), fun h => by have := (histM_typed TY).lt _ h; omega⟩
      have K21 : Hid (∀ W W' : World, Below W1.heap.size W1 W → Frame (histM X.h pv sv) W W' → W'.cell? ⟨r, 1, none⟩ = some (.pointer (some ⟨X.h, 0, none⟩)) ∧ W'.cell? ⟨wr.heap.size, 0, none⟩ = some (.float .f64 0) ∧ W'.cell? ⟨wr.heap.size, 1, none⟩ = some (.int .i64 i.op) ∧ W'.cell? ⟨wr.heap.size, 2, none⟩ = some (.string i.path) ∧ W'.cell? ⟨wr.heap.size, 3, none⟩ = some (.string i.to) ∧ W'.cell? ⟨wr.heap.size, 4, none⟩ = some (.int .i64 i.off) ∧ W'.cell? ⟨wr.heap.size, 5, none⟩ = some (.int .i64 i.size) ∧ W'.cell? ⟨wr.heap.size, 6, none⟩ = some (.slice none 0 0) ∧ W'.cell? ⟨wr.heap.size, 7, none⟩ = some (.slice sa i.parts.length sc)) := Lib.hid (fun W W' hW hf => by
        have h1 := hf.heap (Below.heap hW (Nat.le_refl _) hrx.out.1) hno.out.1
        have h2 := hf.heap (Below.heap hW (Nat.le_refl _) hrx.out.2) hno.out.2
        exact ⟨cellAt h1 1, cellAt h2 0, cellAt h2 1, cellAt h2 2, cellAt h2 3, cellAt h2 4, cellAt h2 5, cellAt h2 6, cellAt h2 7⟩)
      have hfd : ∀ W, (Instr.field 52 (.agg #[.int .i64 m, .float .f64 0, .string ⟨#[]⟩]) 0).run Tryz.prog W = .ok (.int .i64 m) W := fun W => by kernel_rfl
      have hsf := fun (W : World) (p : Addr) => run_store Tryz.prog W p (.float .f64 0) .plain rfl
      have ew : IntKind.i64.wrap ((m : Int) + 1) = (m : Int) + 1 := IntWalk.i64_in _ (by omega)
      have hw1 := hW1.out
      have R1 : Hid (Below W1.heap.size W1 W1.drew) := Lib.hid (Below.refl _ _).drew
      have R1w : Hid (Below wr.heap.size wr W1.drew) := Lib.hid Bx.out.drew
      clear hJ hs hig hok TY hrr hi hs1
      go_upto_region 20 with fail
      rw [← hw1]
      clear hw1 hsf
      go_region_held3 (fun W => W.cell? ⟨r, 1, none⟩ = some (.pointer (some ⟨X.h, 0, none⟩)) ∧ W.cell? ⟨wr.heap.size, 0, none⟩ = some (.float .f64 0) ∧ W.cell? ⟨wr.heap.size, 1, none⟩ = some (.int .i64 i.op) ∧ W.cell? ⟨wr.heap.size, 2, none⟩ = some (.string i.path) ∧ W.cell? ⟨wr.heap.size, 3, none⟩ = some (.string i.to) ∧ W.cell? ⟨wr.heap.size, 4, none⟩ = some (.int .i64 i.off) ∧ W.cell? ⟨wr.heap.size, 5, none⟩ = some (.int .i64 i.size) ∧ W.cell? ⟨wr.heap.size, 6, none⟩ = some (.slice none 0 0) ∧ W.cell? ⟨wr.heap.size, 7, none⟩ = some (.slice sa i.parts.length sc)) (first | exact K20.out _ R1.out | exact K20.out _ H1.out | exact K20.out _ H2.out | exact K21.out _ _ H2.out HF.out) (first | (go_at_call 35; with_reducible refine (LP.out _ R1w.out).mono ?_; rintro e1 w5 ⟨rfl, hq⟩; have H1 : Hid (Below W1.heap.size W1 w5) := Lib.hid (R1.out.trans (hq.mono R1.out.size)); clear hq) | (go_at_call 34; with_reducible refine (PT.out _).mono ?_; rintro e1 w6 ⟨rfl, hq⟩; have H2 : Hid (Below W1.heap.size W1 w6) := Lib.hid (H1.out.trans (hq.mono H1.out.size)); have H2w : Hid (Below wr.heap.size wr w6) := Lib.hid (Bx.out.trans (H2.out.mono Bx.out.size)); clear hq) | (go_at_call 33; with_reducible refine (HSTEP.out _ H2w.out).mono ?_; rintro e1 w7 ⟨rfl, HZ, HF⟩))
      go_wp2_with fail
      go_roundw
      case rel => exact ⟨k2 + 1, by omega, by go_num, HZ⟩
      case measure => simp [intOf]; omega
    · have hk2n : n = k2 := by omega
      subst hk2n
      have z5 := cellAt hrr 5
      have f5 := frozenAt hrr 5
      have HRR := Lib.hid hrr
      clear hJ hrr
      go_wp2_with fail
      rw [hQ.out]
      go_ret
      refine ⟨rfl, ?_⟩
      have hJ2 := HJ.out
      rw [hn.out] at hJ2
      obtain ⟨a1, a2⟩ := commit_close HH.out B2.out HM.out HG.out.cb HI.out.map HI.out.val HI.out.fr hJ2
      have hf := HI.out.few
      have h1 := hNP.out
      have h2 := HT.out
      have h3 := HG.out
      rw [hRc.out] at h3
      exact ⟨x', pv, sv, zs, dn1, df1, T, a1, a2, hJ2.len, fun j z hz => (hJ2.st j z hz).1, by omega, by omega, h3⟩
end Go.Proofs.YtaonlcgneemimaaGreatDoor
namespace Go.Proofs.YtaonlcgneemimaaGreatDoor
open Go.RowKit
/-- A repository of nothing, on a disk. -/
structure NewRep (w : World) (d l cb : Nat) (r : Nat) (X : RepX) (w' : World) : Prop where
  rep : RepAt w' r X
  fr : Frame [d, l, cb] w w'
  xs : X.xs = []
  its : X.its = []
  P : X.P = []
  dn : X.dn = 0
  number : X.x.number = 2
  k : X.x.k = 0
  ssJ : X.x.ssJ = []
  ssC : X.x.ssC = []
  nJ : X.x.nJ = 0
  nC : X.x.nC = 0
  own : ∀ y ∈ X.mu r, y = d ∨ y = l ∨ y = cb ∨ w.heap.size ≤ y
  own1 : ∀ y ∈ X.m1 r, w.heap.size ≤ y
theorem newRep_close {w w1 w2 w3 w5 : World} {d l cb eb : Nat} {x : EngX} {y : StX} (h1 : d ≠ 1 ∧ l ≠ 1 ∧ cb ≠ 1) (hg : 1 < w.heap.size) (F : FormatPost w d l cb eb x w1) (hh : HistAt w2 w1.heap.size (.slice none 0 0) (.slice none 0 0) []) (b2 : Below w1.heap.size w1 w2) (hc : ChunksAt w3 w2.heap.size (w2.heap.size + 2) [] w2.heap.size (w2.heap.size + 1) [] (fun _ => none) 0 0) (b3 : Below w2.heap.size w2 w3)
    (hs : StAt w5 y) (hx : y.x = Abs.new) (hy : ∀ k ∈ y.blocks, w3.heap.size + 1 ≤ k) (b5 : Below (w3.heap.size + 1) (w3.alloc (.map #[] 0)) w5) :
    NewRep w d l cb w5.heap.size ⟨eb, x, w1.heap.size, .slice none 0 0, .slice none 0 0, [], w2.heap.size + 2, [], w2.heap.size, w2.heap.size + 1, [], fun _ => none, 0, 0, w3.heap.size, 0, fun _ => none, .slice none 0 0, [], y⟩
      (w5.alloc (.cells #[.pointer (some ⟨eb, 0, none⟩), .pointer (some ⟨w1.heap.size, 0, none⟩), .pointer (some ⟨w2.heap.size + 2, 0, none⟩), .map (some w3.heap.size), .float .f64 0, .slice none 0 0, .pointer (some ⟨y.s, 0, none⟩)] 77)) := by
  have s1 := F.fr.size
  have s2 := b2.size
  have s3 := b3.size
  have sh := heap_lt hh.cell
  have sc := heap_lt hc.cell
  have s5 : w3.heap.size + 1 ≤ w5.heap.size := by have := b5.size; simpa using this
  have b4 : Below w3.heap.size w3 (w3.alloc (.map #[] 0)) := crc_below _ _
  have b35 : Below w3.heap.size w3 w5 := b4.trans (b5.mono (by omega))
  have b6 : Below w5.heap.size w5 (w5.alloc (.cells #[.pointer (some ⟨eb, 0, none⟩), .pointer (some ⟨w1.heap.size, 0, none⟩), .pointer (some ⟨w2.heap.size + 2, 0, none⟩), .map (some w3.heap.size), .float .f64 0, .slice none 0 0, .pointer (some ⟨y.s, 0, none⟩)] 77)) := crc_below _ _
  have b36 : Below w3.heap.size w3 _ := b35.trans (b6.mono b35.size)
  have b26 : Below w2.heap.size w2 _ := b3.trans (b36.mono b3.size)
  have b16 : Below w1.heap.size w1 _ := b2.trans (b26.mono b2.size)
  have LE := F.eng.typed.lt
  have hyl := hs.lt
  have hmu : ∀ k, k ∈ RepX.mu ⟨eb, x, w1.heap.size, .slice none 0 0, .slice none 0 0, [], w2.heap.size + 2, [], w2.heap.size, w2.heap.size + 1, [], fun _ => none, 0, 0, w3.heap.size, 0, fun _ => none, .slice none 0 0, [], y⟩ w5.heap.size → k = w5.heap.size ∨ k = w3.heap.size ∨ (k ∈ x.mut eb ∧ k < w1.heap.size) ∨ k = w1.heap.size := by
    intro k hk
    simp only [RepX.mu, histM, Value.ownBlock, List.mem_cons, List.mem_append, Option.toList_none, List.not_mem_nil, or_false] at hk
    rcases hk with h | h | h | h
    · exact .inl h
    · exact .inr (.inl h)
    · exact .inr (.inr (.inl ⟨h, LE k h⟩))
    · exact .inr (.inr (.inr h))
  have hmut : ∀ k ∈ x.mut eb, k ≠ 1 := fun k hk h => by
    rcases F.own k hk with h2 | h2 | h2 | h2
    · exact h1.1 (h2 ▸ h)
    · exact h1.2.1 (h2 ▸ h)
    · exact h1.2.2 (h2 ▸ h)
    · omega
  have hm1 : ∀ k, k ∈ RepX.m1 ⟨eb, x, w1.heap.size, .slice none 0 0, .slice none 0 0, [], w2.heap.size + 2, [], w2.heap.size, w2.heap.size + 1, [], fun _ => none, 0, 0, w3.heap.size, 0, fun _ => none, .slice none 0 0, [], y⟩ w5.heap.size → k = w5.heap.size ∨ k ∈ y.blocks := by
    intro k hk
    simp only [RepX.m1, StX.blocks, List.mem_cons, List.not_mem_nil, or_false] at hk ⊢
    rcases hk with h | h | h | h
    · exact .inl h
    · exact .inr (.inr (.inl h))
    · exact .inr (.inr (.inr (.inl h)))
    · exact .inr (.inr (.inr (.inr h)))
  refine ⟨⟨heap_new _ _, F.eng.below b16, hh.below b26, (hc.below b36).weak (Nat.zero_le _), ?_, fun id v h => by simp at h, ⟨[], rfl, Sl.nil _ _ _, fun j s i h => by simp at h⟩, hs.below b6, hx, trivial, fun i hi => by simp at hi, ⟨fun h => ?_, fun h => ?_⟩, fun k hk h => ?_, fun z hz => by simp at hz, ⟨fun h => ?_, fun h => ?_⟩, fun k v g hv => by simp at hv, fun h => ?_⟩, F.fr.then_below b16, rfl, rfl, rfl, rfl, F.number, F.k, F.ssJ, F.ssC, F.nJ, F.nC, fun k hk => ?_, fun k hk => ?_⟩
  · have hm : MapX KI (w3.alloc (.map #[] 0)) w3.heap.size 0 (fun _ => none) := MapX.made KI w3
    have hm5 : MapX KI w5 w3.heap.size 0 (fun _ => none) := hm.same (b5.block _ (by omega))
    exact hm5.same (b6.block _ (by omega))
  · rcases hmu 1 h with h | h | ⟨h, -⟩ | h
    · omega
    · omega
    · exact hmut 1 h rfl
    · omega
  · rcases hm1 1 h with h | h
    · omega
    · have := hy 1 h
      omega
  · have h2 := hy k hk
    have h3 := hyl k hk
    rcases hmu k h with h | h | ⟨-, h⟩ | h <;> omega
  · rcases hmu _ h with h | h | ⟨-, h⟩ | h <;> simp only at h <;> omega
  · rcases hmu _ h with h | h | ⟨-, h⟩ | h <;> simp only at h <;> omega
  · have := LE _ h
    simp only at this
    omega
  · rcases hmu k hk with h | h | ⟨h, -⟩ | h
    · exact .inr (.inr (.inr (by omega)))
    · exact .inr (.inr (.inr (by omega)))
    · exact F.own k h
    · exact .inr (.inr (.inr (by omega)))
  · rcases hm1 k hk with h | h
    · omega
    · have := hy k h
      omega
set_option maxRecDepth 100000 in
set_option maxHeartbeats 2000000 in
theorem repFormat_any (w : World) (d l cb k : Nat) (HD : DiskAt w d l cb 776 k) (hk : k ≤ 900000) (h1 : d ≠ 1 ∧ l ≠ 1 ∧ cb ≠ 1) (hg : ∃ m, w.cell? ⟨1, 0, none⟩ = some (.int .i64 m)) :
    Calls Tryz.prog 8 #[.pointer (some ⟨d, 0, none⟩)] w fun e w' => ∃ r X, e = .returned (.tuple #[.pointer (some ⟨r, 0, none⟩), .int .i64 0]) ∧ NewRep w d l cb r X w' := by
  have FM := Lib.hid (format_any w d l cb k HD hk)
  have h1lt : 1 < w.heap.size := by
    obtain ⟨m, hm1⟩ := hg
    exact World.block_lt_of_cell? w ⟨1, 0, none⟩ hm1
  have FM2 : Hid (Calls Tryz.prog 19 #[.pointer (some ⟨d, 0, none⟩)] w fun e w' => ∃ (eb : Nat) (x : EngX), e = .returned (.tuple #[.pointer (some ⟨eb, 0, none⟩), .int .i64 0]) ∧ Hid (FormatPost w d l cb eb x w') ∧ Hid (∃ m, w'.cell? ⟨1, 0, none⟩ = some (.int .i64 m))) := Lib.hid (by
    refine FM.out.mono ?_
    rintro e w' ⟨eb, x, rfl, hp⟩
    refine ⟨eb, x, rfl, Lib.hid hp, Lib.hid ?_⟩
    obtain ⟨m, hm1⟩ := hg
    exact ⟨m, (hp.fr.cell (p := ⟨1, 0, none⟩) h1lt (by simp only [List.mem_cons, List.not_mem_nil, or_false]; omega)).trans hm1⟩)
  have GB : Hid (∀ (W W' : World), Hid (∃ m, W.cell? ⟨1, 0, none⟩ = some (.int .i64 m)) → Below W.heap.size W W' → Hid (∃ m, W'.cell? ⟨1, 0, none⟩ = some (.int .i64 m))) := Lib.hid (fun W W' hW hb => Lib.hid (by
    obtain ⟨m, hm1⟩ := hW.out
    exact ⟨m, (hb.cell (p := ⟨1, 0, none⟩) (World.block_lt_of_cell? W ⟨1, 0, none⟩ hm1)).trans hm1⟩))
  have hmk := fun t w => run_makeMap (P := Tryz.prog) t w
  clear HD FM hg
  go_enter Tryz.func8, Tryz.ntmps8
  go_wp2_with (first | (go_at_call 19; with_reducible refine FM2.out.mono ?_; rintro e1 w1 ⟨eb, x, rfl, F1, G1⟩) | (go_at_call 20; with_reducible refine (newHist_any w1 G1.out).mono ?_; rintro e1 w2 ⟨rfl, hh, hq⟩; have H2 := Lib.hid hh; have B2 := Lib.hid hq; have G2 := GB.out _ _ G1 hq; clear hh hq) | (go_at_call 21; with_reducible refine (newChunks_any w2).mono ?_; rintro e1 w3 ⟨rfl, hc, hq⟩; have C3 := Lib.hid hc; have B3 := Lib.hid hq; have G3 := GB.out _ _ G2 hq; have G4 := GB.out _ (w3.alloc (.map #[] 0)) G3 (crc_below _ _); clear hc hq) | (go_at_call 22; with_reducible refine (newS_any (w3.alloc (.map #[] 0)) G4.out).mono ?_; rintro e1 w5 ⟨y, rfl, hs, hx, hy, hq⟩; have S5 := Lib.hid hs; have X5 := Lib.hid hx; have Y5 := Lib.hid hy; have B5 := Lib.hid hq; clear hs hx hy hq))
  have e4 : (w3.alloc (.map #[] 0)).heap.size = w3.heap.size + 1 := by simp
  refine bodyPost_ret (v := .tuple #[.pointer (some ⟨w5.heap.size, 0, none⟩), .int .i64 0]) (by simp [results, Tryz.results8, go_sem]) rfl ?_
  exact ⟨_, _, rfl, newRep_close h1 h1lt F1.out H2.out B2.out C3.out B3.out S5.out X5.out (fun k hk => by rw [← e4]; exact Y5.out k hk) (e4 ▸ B5.out)⟩
end Go.Proofs.YtaonlcgneemimaaGreatDoor
namespace Go.Proofs.YtaonlcgneemimaaGreatDoor
open Go.RowKit
set_option maxRecDepth 100000 in
set_option maxHeartbeats 2000000 in
theorem repPoints_any (w : World) (r : Nat) (X : RepX) (H : RepAt w r X) :
    Calls Tryz.prog 14 #[.pointer (some ⟨r, 0, none⟩)] w fun e w' => ∃ v, e = .returned v ∧ PtsV w' v X.xs.length ∧ Below w.heap.size w w' := by
  have HP := Lib.hid (histPoints_any w X.h X.pv X.sv X.xs H.hist)
  have c1 := cellAt H.cell 1
  simp only [List.getElem?_toArray, List.getElem?_cons_zero, List.getElem?_cons_succ] at c1
  clear H
  go_enter Tryz.func14, Tryz.ntmps14
  go_wp2_with (go_at_call 40; with_reducible refine HP.out.mono ?_; rintro e1 w1 ⟨v, rfl, hv, hq⟩; have HV := Lib.hid hv; have HQ := Lib.hid hq; obtain ⟨a, cap, rfl, hcap, -, -⟩ := pts_cells hv; clear hv hq)
  go_ret
  exact ⟨_, rfl, HV.out, HQ.out⟩
set_option maxRecDepth 100000 in
set_option maxHeartbeats 2000000 in
theorem repState_any (w : World) (r : Nat) (X : RepX) (H : RepAt w r X) (j : Nat) (y : StX) (hj : X.xs[j]? = some y) :
    Calls Tryz.prog 36 #[.pointer (some ⟨r, 0, none⟩), .int .i64 ((j : Int) + 1)] w fun e w' => ∃ y' : StX, e = .returned (.tuple #[.pointer (some ⟨y'.s, 0, none⟩), .int .i64 0]) ∧ StAt w' y' ∧ y'.x = y.x ∧ (∀ k ∈ y'.blocks, w.heap.size ≤ k) ∧ Below w.heap.size w w' := by
  have HP := Lib.hid (histState_any w X.h X.pv X.sv X.xs H.hist j y hj)
  have c1 := cellAt H.cell 1
  simp only [List.getElem?_toArray, List.getElem?_cons_zero, List.getElem?_cons_succ] at c1
  clear H
  go_enter Tryz.func36, Tryz.ntmps36
  go_wp2_with (go_at_call 77; with_reducible refine HP.out.mono ?_; rintro e1 w1 ⟨y', rfl, hs, hx, hb, hq⟩; have HS := Lib.hid hs; have HX := Lib.hid hx; have HB := Lib.hid hb; have HQ := Lib.hid hq; clear hs hx hb hq)
  refine bodyPost_ret (v := .tuple #[.pointer (some ⟨y'.s, 0, none⟩), .int .i64 0]) (by simp [results, Tryz.results36, go_sem]) rfl ?_
  exact ⟨_, rfl, HS.out, HX.out, HB.out, HQ.out⟩
set_option maxRecDepth 100000 in
set_option maxHeartbeats 2000000 in
theorem repStat_any (w : World) (r : Nat) (X : RepX) (H : RepAt w r X) (j : Nat) (y : StX) (hj : X.xs[j]? = some y) (c : Fin 26) (id : Int) (hT : y.x.T (fp c.1) = some id) (bd : BodyA) (hS : y.x.S id = some bd) :
    Calls Tryz.prog 17 #[.pointer (some ⟨r, 0, none⟩), .int .i64 ((j : Int) + 1), .string (fp c.1)] w fun e w' => e = .returned (.tuple #[.agg #[.int .i64 id, .bool false, .int .i64 bd.size], .int .i64 0]) ∧ Below w.heap.size w w' := by
  have HB0 : Hid (Below w.heap.size w (w.alloc (.cells #[.int .i64 0, .bool false, .int .i64 0] 54))) := Lib.hid (crc_below _ _)
  have HN0 := Lib.hid (heap_new w (.cells #[.int .i64 0, .bool false, .int .i64 0] 54))
  have SP := Lib.hid (repState_any _ r X (H.below HB0.out) j y hj)
  have ST : Hid (∀ (W : World) (y' : StX), StAt W y' → y'.x = y.x → Calls Tryz.prog 44 #[.pointer (some ⟨y'.s, 0, none⟩), .string (fp c.1)] W fun e w' => e = .returned (.tuple #[.agg #[.int .i64 id, .bool false, .int .i64 bd.size], .int .i64 0]) ∧ Below W.heap.size W w') := Lib.hid (fun W y' hW hx => statS_any W y' hW c id (hx ▸ hT) bd (hx ▸ hS))
  obtain ⟨p, hp⟩ : ∃ p, Hid (p = fp c.1) := ⟨_, rfl⟩
  rw [← hp.out] at ST ⊢
  obtain ⟨bz, hbz⟩ : ∃ b, Hid (b = bd.size) := ⟨_, rfl⟩
  rw [← hbz.out] at ST ⊢
  clear H hT hS hj
  go_enter Tryz.func17, Tryz.ntmps17
  go_wp2_with (first | (go_at_call 36; with_reducible refine SP.out.mono ?_; rintro e1 w1 ⟨y', rfl, hs, hx, hb, hq⟩; have HS := Lib.hid hs; have HX := Lib.hid hx; have HQ1 := Lib.hid hq; clear hs hx hb hq) | (go_at_call 44; with_reducible refine (ST.out w1 y' HS.out HX.out).mono ?_; rintro e1 w2 ⟨rfl, hq⟩; have HQ2 := Lib.hid (HQ1.out.trans (hq.mono HQ1.out.size)); have x := Below.heap (HQ1.out.trans (hq.mono HQ1.out.size)) (Nat.le_refl _) HN0.out; have x0 := cellAt x 0; have x1 := cellAt x 1; have x2 := cellAt x 2; have f0 := frozenAt x 0; have f1 := frozenAt x 1; have f2 := frozenAt x 2; have HX2 := Lib.hid x; clear x hq))
  have yy := setAt (setAt (setAt HX2.out 0 (.int .i64 id)) 1 (.bool false)) 2 (.int .i64 bz)
  have j0 := cellAt yy 0
  have j1 := cellAt yy 1
  have j2 := cellAt yy 2
  simp at j0 j1 j2
  refine bodyPost_ret (v := .tuple #[.agg #[.int .i64 id, .bool false, .int .i64 bz], .int .i64 0]) (by simp [results, Tryz.results17, go_sem, j0, j1, j2]) rfl ?_
  exact ⟨rfl, (((HB0.out.trans (HQ2.out.mono HB0.out.size)).setCell (p := ⟨w.heap.size, 0, none⟩) (Nat.le_refl _) _).setCell (p := ⟨w.heap.size, 1, none⟩) (Nat.le_refl _) _).setCell (p := ⟨w.heap.size, 2, none⟩) (Nat.le_refl _) _⟩
end Go.Proofs.YtaonlcgneemimaaGreatDoor
namespace Go.Proofs.YtaonlcgneemimaaGreatDoor
open Go.RowKit
set_option maxRecDepth 100000 in
set_option maxHeartbeats 4000000 in
theorem repRead_any (w : World) (r : Nat) (X : RepX) (H : RepAt w r X) (j : Nat) (y : StX) (hj : X.xs[j]? = some y) (c : Fin 26) (id : Int) (hT : y.x.T (fp c.1) = some id) (bd : BodyA) (hS : y.x.S id = some bd) (hw : wholeB X.P bd) (off n : Int) (h0 : 0 ≤ off) (h1 : off ≤ 1099511627776) (h2 : 0 ≤ n) (h3 : n ≤ 4096) :
    Calls Tryz.prog 11 #[.pointer (some ⟨r, 0, none⟩), .int .i64 ((j : Int) + 1), .string (fp c.1), .int .i64 off, .int .i64 n] w fun e w' => ∃ v', e = .returned (.tuple #[v', .int .i64 0]) ∧ Sl w' 5 1 v' (readB X.P bd off n).length (u8s (readB X.P bd off n)) ∧ Below w.heap.size w w' := by
  have HH := Lib.hid H
  have hok := (H.hist.each y (List.mem_of_getElem? hj)).ok
  obtain ⟨-, -, -, hmay, hfew⟩ := (H.hist.each y (List.mem_of_getElem? hj)).at'.bodies.held id bd hS
  have hidr := hok.ids _ _ hT
  have hn2 := hok.n2
  have SA := Lib.hid (repStat_any w r X H j y hj c id hT bd hS)
  have SP : Hid (∀ W, Below w.heap.size w W → Calls Tryz.prog 36 #[.pointer (some ⟨r, 0, none⟩), .int .i64 ((j : Int) + 1)] W fun e w' => ∃ y' : StX, e = .returned (.tuple #[.pointer (some ⟨y'.s, 0, none⟩), .int .i64 0]) ∧ Hid (StAt w' y') ∧ Hid (y'.x = y.x) ∧ Below W.heap.size W w') := Lib.hid (fun W hW => by
    refine (repState_any W r X (HH.out.below hW) j y hj).mono ?_
    rintro e w' ⟨y', a1, a2, a3, -, a4⟩
    exact ⟨y', a1, Lib.hid a2, Lib.hid a3, a4⟩)
  obtain ⟨bz, hbz⟩ : ∃ b, Hid (b = bd.size) := ⟨_, rfl⟩
  obtain ⟨np, hnp⟩ : ∃ b, Hid (b = bd.parts.length) := ⟨_, rfl⟩
  have BP : Hid (∀ (W : World) (y' : StX), Hid (StAt W y') → Hid (y'.x = y.x) → Calls Tryz.prog 37 #[.pointer (some ⟨y'.s, 0, none⟩), .int .i64 id] W fun e w' => ∃ ba bc, e = .returned (.tuple #[.agg #[.int .i64 bz, .slice ba np bc], .bool true]) ∧ Hid (BodyV w' (.agg #[.int .i64 bz, .slice ba np bc]) bd) ∧ Below W.heap.size W w') := Lib.hid (fun W y' hW hx => by
    refine (bodyS_any W y' hW.out id bd (hx.out ▸ hS) (by omega)).mono ?_
    rintro e w' ⟨v, a1, a2, a3⟩
    have a22 := a2
    obtain ⟨bs, hbv, hbs⟩ := a2
    obtain ⟨ba, bc, rfl, -, -, -⟩ := hbs.shape
    subst hbv
    rw [← hbz.out, ← hnp.out] at *
    exact ⟨ba, bc, a1, Lib.hid a22, a3⟩)
  obtain ⟨L, hL⟩ : ∃ L, Hid (L = readB X.P bd off n) := ⟨_, rfl⟩
  have RD : Hid (∀ (W : World) (v : Value), Below w.heap.size w W → Hid (BodyV W v bd) → Calls Tryz.prog 38 #[v, .pointer (some ⟨X.c, 0, none⟩), .int .i64 off, .int .i64 n] W fun e w' => ∃ v', e = .returned (.tuple #[v', .int .i64 0]) ∧ Sl w' 5 1 v' L.length (u8s L) ∧ Below W.heap.size W w') := Lib.hid (fun W v hW hv => by
    rw [hL.out]
    exact bodyRead_any W v bd hv.out hmay hfew 0 X.c X.P X.bl X.bb X.vs X.fb X.m X.sz (HH.out.chunks.below hW) hw off n h0 h1 h2 h3)
  rw [← hL.out]
  obtain ⟨p, hp⟩ : ∃ p, Hid (p = fp c.1) := ⟨_, rfl⟩
  rw [← hp.out] at SA ⊢
  rw [← hbz.out] at SA
  have KC : Hid (∀ W : World, Below w.heap.size w W → W.cell? ⟨r, 2, none⟩ = some (.pointer (some ⟨X.c, 0, none⟩))) := Lib.hid (fun W hW => cellAt (Below.heap hW (Nat.le_refl _) HH.out.cell) 2)
  clear H hT hS hw hj hmay hfew hok h0 h1 h2 h3 hidr hn2
  go_enter Tryz.func11, Tryz.ntmps11
  go_upto_region 8 with (first | (go_at_call 17; with_reducible refine SA.out.mono ?_; rintro e1 w1 ⟨rfl, hq⟩; have Q1 := Lib.hid hq; have BX1 := Lib.hid (fun o => Q1.out.alloc Q1.out.size o); clear hq) | (go_at_call 36; with_reducible refine (SP.out _ (BX1.out _)).mono ?_; rintro e1 w2 ⟨y', rfl, S2, X2, hq⟩; have Q2 := Lib.hid ((BX1.out _).trans (hq.mono (BX1.out _).size)); have x := Below.heap hq (Nat.le_refl _) (heap_new w1 (.cells #[.int .i64 id, .bool false, .int .i64 bz] 54)); have x0 := cellAt x 0; have x1 := cellAt x 1; clear x hq) | (go_at_call 37; with_reducible refine (BP.out _ y' S2 X2).mono ?_; rintro e1 w3 ⟨ba, bc, rfl, V3, hq⟩; have Q3 : Hid (Below w.heap.size w w3) := Lib.hid (Q2.out.trans (hq.mono Q2.out.size)); clear hq))
  obtain ⟨W4, hW4⟩ : ∃ W4, Hid (W4 = w3.alloc (.cells #[.int .i64 bz, .slice ba np bc] 100)) := ⟨_, Lib.hid rfl⟩
  have B34 : Hid (Below w3.heap.size w3 W4) := Lib.hid (by rw [hW4.out]; exact crc_below _ _)
  have Q4 : Hid (Below w.heap.size w W4.drew) := Lib.hid (Q3.out.trans (B34.out.mono Q3.out.size)).drew
  have V4 : Hid (BodyV W4.drew (.agg #[.int .i64 bz, .slice ba np bc]) bd) := Lib.hid (V3.out.kept (fun k arr hk => Below.heap B34.out.drew (Nat.le_refl _) hk))
  have xb : W4.heap[w3.heap.size]? = some (.cells #[.int .i64 bz, .slice ba np bc] 100 (0, 0)) := by rw [hW4.out]; exact heap_new _ _
  have K8 : Hid (∀ W : World, Below W4.heap.size W4 W → W.cell? ⟨r, 2, none⟩ = some (.pointer (some ⟨X.c, 0, none⟩)) ∧ W.cell? ⟨w3.heap.size, 0, none⟩ = some (.int .i64 bz) ∧ W.cell? ⟨w3.heap.size, 1, none⟩ = some (.slice ba np bc)) := Lib.hid (fun W hW => by
    have h := Below.heap hW (Nat.le_refl _) xb
    have hb := (Q3.out.trans (B34.out.mono Q3.out.size))
    exact ⟨KC.out W (hb.trans (hW.mono hb.size)), cellAt h 0, cellAt h 1⟩)
  have R4 : Hid (Below W4.heap.size W4 W4.drew) := Lib.hid (Below.refl _ _).drew
  have hw4 := hW4.out
  clear xb x0 x1
  rw [← hw4]
  clear hw4
  go_region_held3 (fun W => W.cell? ⟨r, 2, none⟩ = some (.pointer (some ⟨X.c, 0, none⟩)) ∧ W.cell? ⟨w3.heap.size, 0, none⟩ = some (.int .i64 bz) ∧ W.cell? ⟨w3.heap.size, 1, none⟩ = some (.slice ba np bc)) (first | exact K8.out _ R4.out | exact K8.out _ R5.out) (first | (go_at_call 38; with_reducible refine (RD.out _ _ Q4.out V4).mono ?_; rintro e1 w5 ⟨v', rfl, hsl, hq⟩; have S5 := Lib.hid hsl; have Q5 := Lib.hid (Q4.out.trans (hq.mono Q4.out.size)); have R5 := Lib.hid (R4.out.trans (hq.mono R4.out.size)); obtain ⟨va, vc, rfl, -, -, -⟩ := hsl.shape; clear hsl hq))
  go_wp2_with fail
  go_ret2
  exact ⟨_, rfl, S5.out, Q5.out⟩
end Go.Proofs.YtaonlcgneemimaaGreatDoor
