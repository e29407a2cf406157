/- TopNames: the contracts of Y11, Y16, Y17, Y18; no condition. -/
import Derived.Test.YtaonlcgneemimaaGreatDoorJ33
import Derived.Test.YtaonlcgneemimaaGreatDoorJ26
import Derived.Test.YtaonlcgneemimaaGreatDoorJ32
namespace Go.Proofs.YtaonlcgneemimaaGreatDoor
open Go.RowKit
/-- What fresh has gathered so far. -/
structure FreshI (w wr : World) (P : List (List Int)) (t4 t5 : Value) (k : Nat) (vs : List Value) (ls : List (List Int)) (ids : List Int) : Prop where
  rows : wr.ownsRow w.heap.size 33 1 t4 ls.length vs
  ones : ∀ u ∈ vs, u.oneCell' = true
  each : ∀ (i : Nat) v l, vs[i]? = some v → ls[i]? = some l → Sl wr 5 1 v l.length (u8s l)
  nil : t4 = .slice none 0 0 ∨ 0 < ls.length
  ints : wr.ownsRow w.heap.size 3 1 t5 ids.length (ints ids)
  nil5 : t5 = .slice none 0 0 ∨ 0 < ids.length
  size : ∀ l ∈ ls, 1 ≤ l.length ∧ l.length ≤ 200
  mem : ∀ id ∈ ids, 1 ≤ id ∧ id ≤ P.length
  few : ls.length ≤ k ∧ ids.length ≤ k
  below : Below w.heap.size w wr
theorem numB_pos (n : Nat) : 1 ≤ (numB n).length := by
  by_cases h : n < 128
  · rw [numB_lo h]; simp
  · rw [numB_hi (by omega)]; simp
theorem recB_len (id : Nat) (hid : id ≤ 9223372036854775807) (b : List Int) (hb : b.length ≤ 64) : 1 ≤ (recB id b).length ∧ (recB id b).length ≤ 200 := by
  have h1 := textB_len (strOfNums b) (by rw [strOfNums_size]; exact hb)
  have h2 := numB_9 hid
  have h3 := numB_pos id
  unfold recB
  simp only [List.length_append]
  omega
theorem FreshI.frame4 {w wr w3 w4 : World} {P : List (List Int)} {t4 t5 : Value} {k : Nat} {vs : List Value} {ls : List (List Int)} {ids : List Int} (h : FreshI w wr P t4 t5 k vs ls ids) (hb : Below wr.heap.size wr w3) (o : Obj) (hg : (w3.alloc o).grownBy w4 t4.ownBlock) : Frame t4.ownBlock.toList wr w4 :=
  ((Frame.of_below hb _).alloc o).grown hg (fun k hk => .inl (by simp [hk]))
theorem own_ne2 {w : World} {B B' e1 e2 s1 s2 n m : Nat} {v1 v2 : Value} {xs ys : List Value} (h1 : w.ownsRow B e1 s1 v1 n xs) (h2 : w.ownsRow B' e2 s2 v2 m ys) (hne : e1 ≠ e2) : ∀ g, v2.ownBlock = some g → g ∉ v1.ownBlock.toList := by
  intro g hg hm
  obtain ⟨a1, ha1⟩ := own_heap h1 (by simpa using hm)
  obtain ⟨a2, ha2⟩ := own_heap h2 hg
  exact cells_ty ha1 ha2 hne rfl
theorem own_noty {w : World} {B e s n t : Nat} {v : Value} {xs : List Value} (h : w.ownsRow B e s v n xs) (hne : e ≠ t) : ∀ g ∈ v.ownBlock.toList, ∀ arr, w.heap[g]? ≠ some (.cells arr t (0, 0)) := by
  intro g hg arr ha
  obtain ⟨a1, ha1⟩ := own_heap h (by simpa using hg)
  exact cells_ty ha1 ha hne rfl
theorem FreshI.mid {w wr w3 w4 : World} {P : List (List Int)} {t4 t5 : Value} {k : Nat} {vs : List Value} {ls : List (List Int)} {ids : List Int} (h : FreshI w wr P t4 t5 k vs ls ids) (hb : Below wr.heap.size wr w3) (o : Obj) (hg : (w3.alloc o).grownBy w4 t4.ownBlock) (o2 : Obj) : (w4.alloc o2).ownsRow w.heap.size 3 1 t5 ids.length (Go.Proofs.YtaonlcgneemimaaGreatDoor.ints ids) :=
  own_below (own_frame h.ints (h.frame4 hb o hg) (own_ne2 h.rows h.ints (by decide))) ((Below.refl _ _).alloc (Nat.le_refl _) _)
theorem FreshI.step {w wr w3 w4 w5 : World} {P : List (List Int)} {t4 t5 t4' t5' v' : Value} {k B : Nat} {vs : List Value} {ls : List (List Int)} {ids : List Int} {p : List Int} {id : Int} (h : FreshI w wr P t4 t5 k vs ls ids) (hb : Below wr.heap.size wr w3) (hv : w3.ownsRow B 5 1 v' p.length (u8s p)) (hv1 : v'.oneCell' = true)
    (hp : 1 ≤ p.length ∧ p.length ≤ 200) (hid : 1 ≤ id ∧ id ≤ P.length) (o : Obj) (hg4 : (w3.alloc o).grownBy w4 t4.ownBlock) (o4 : w4.ownsRow w.heap.size 33 1 t4' (ls.length + 1) (vs ++ [v'])) (o2 : Obj) (hg5 : (w4.alloc o2).grownBy w5 t5.ownBlock) (o5 : w5.ownsRow w.heap.size 3 1 t5' (ids.length + 1) (Go.Proofs.YtaonlcgneemimaaGreatDoor.ints ids ++ [.int .i64 id])) :
    FreshI w w5 P t4' t5' (k + 1) (vs ++ [v']) (ls ++ [p]) (ids ++ [id]) := by
  have F4 := h.frame4 hb o hg4
  have h5 := h.mid hb o hg4 o2
  have F5 : Frame t5.ownBlock.toList w4 w5 := ((Frame.refl t5.ownBlock.toList w4).alloc o2).grown hg5 (fun k hk => .inl (by simp [hk]))
  have h50 := own_frame h.ints F4 (own_ne2 h.rows h.ints (by decide))
  have hvl : vs.length = ls.length := by have := h.rows.1; omega
  have F3 : Frame t4.ownBlock.toList w3 w4 := ((Frame.refl t4.ownBlock.toList w3).alloc o).grown hg4 (fun k hk => .inl (by simp [hk]))
  have hr3 := own_below h.rows hb
  refine ⟨?_, ?_, ?_, .inr (by simp), ?_, .inr (by simp), ?_, ?_, ?_, ?_⟩
  · rw [List.length_append]
    exact own_frame o4 F5 (own_ne2 h50 o4 (by decide))
  · intro u hu
    rcases List.mem_append.1 hu with hu | hu
    · exact h.ones u hu
    · simp only [List.mem_singleton] at hu
      subst hu
      exact hv1
  · intro i v l hi hl
    have key : ∀ {v : Value} {l : List Int}, Sl w4 5 1 v l.length (u8s l) → Sl w5 5 1 v l.length (u8s l) := fun hs => hs.frame F5 (own_noty h50 (by decide))
    by_cases hlt : i < ls.length
    · rw [List.getElem?_append_left (by omega)] at hi
      rw [List.getElem?_append_left hlt] at hl
      exact key ((h.each i v l hi hl).frame F4 (own_noty h.rows (by decide)))
    · have hi0 : i = ls.length := by
        have := (List.getElem?_eq_some_iff.1 hl).1
        simp at this
        omega
      subst hi0
      rw [List.getElem?_append_right (by omega), hvl] at hi
      rw [List.getElem?_append_right (Nat.le_refl _)] at hl
      simp at hi hl
      subst hi
      subst hl
      exact key ((Sl.of_own hv (u8s_one' _) (.inr hp.1)).frame F3 (own_noty hr3 (by decide)))
  · rw [List.length_append]
    have e : Go.Proofs.YtaonlcgneemimaaGreatDoor.ints (ids ++ [id]) = Go.Proofs.YtaonlcgneemimaaGreatDoor.ints ids ++ [.int .i64 id] := by simp [Go.Proofs.YtaonlcgneemimaaGreatDoor.ints]
    rw [e]
    exact o5
  · intro l hl
    rcases List.mem_append.1 hl with hl | hl
    · exact h.size l hl
    · simp only [List.mem_singleton] at hl
      subst hl
      exact hp
  · intro l hl
    rcases List.mem_append.1 hl with hl | hl
    · exact h.mem l hl
    · simp only [List.mem_singleton] at hl
      subst hl
      exact hid
  · have := h.few
    simp
    omega
  · have b4 : Below w.heap.size w w4 := Frame.belowIf F4 h.below (fun g hg => (h.rows.lt g (by simpa using hg)).1) h.below.size
    exact Frame.belowIf F5 b4 (fun g hg => (h50.lt g (by simpa using hg)).1) b4.size
/-- What fresh gives. -/
def FreshPost (w : World) (P : List (List Int)) (e : Ending) (w' : World) : Prop :=
  ∃ v4 v5 ls ids, e = .returned (.tuple #[v4, v5]) ∧ RowsB w' v4 ls ∧ (∀ l ∈ ls, 1 ≤ l.length ∧ l.length ≤ 200) ∧ ls.length ≤ P.length ∧ (∀ g, v4.ownBlock = some g → w.heap.size ≤ g) ∧ Sl w' 3 1 v5 ids.length (ints ids) ∧ (∀ g, v5.ownBlock = some g → w.heap.size ≤ g) ∧ (∀ id ∈ ids, 1 ≤ id ∧ id ≤ P.length) ∧ ids.length ≤ P.length ∧ Below w.heap.size w w'
theorem FreshI.done {w w1 wr : World} {P : List (List Int)} {t4 t5 : Value} {k : Nat} {vs : List Value} {ls : List (List Int)} {ids : List Int} (h : FreshI w1 wr P t4 t5 k vs ls ids) (hb : Below w.heap.size w w1) (hk : k ≤ P.length) : FreshPost w P (.returned (.tuple #[t4, t5])) wr :=
  ⟨t4, t5, ls, ids, rfl, ⟨vs, Sl.of_own h.rows h.ones h.nil, h.each⟩, h.size, by have := h.few; omega, fun g hg => Nat.le_trans hb.size (h.rows.lt g hg).1, Sl.of_own h.ints (ints_one _) h.nil5, fun g hg => Nat.le_trans hb.size (h.ints.lt g hg).1, h.mem, by have := h.few; omega, hb.trans (h.below.mono hb.size)⟩
set_option maxRecDepth 100000 in
set_option maxHeartbeats 4000000 in
theorem fresh_any (w : World) (r c dm dn : Nat) (v0 v1 v4 v5 v6 : Value) (B : Nat) (P : List (List Int)) (bl bb : Nat) (vs : List Value) (fb : Int → Option Value) (m : Nat) (sz : Int) (df : Int → Option Value)
    (hc : w.heap[r]? = some (.cells #[v0, v1, .pointer (some ⟨c, 0, none⟩), .map (some dm), v4, v5, v6] 77 (0, 0))) (H : ChunksAt w B c P bl bb vs fb m sz) (hm : MapX KI w dm dn df) (hdv : ∀ id v, df id = some v → v = .bool true) :
    Calls Tryz.prog 31 #[.pointer (some ⟨r, 0, none⟩)] w (FreshPost w P) := by
  have HH := Lib.hid H
  have HM := Lib.hid hm
  have HD := Lib.hid hdv
  have hsm := H.small.1
  have c2 := cellAt hc 2
  have c3 := cellAt hc 3
  simp only [List.getElem?_toArray, List.getElem?_cons_zero, List.getElem?_cons_succ] at c2 c3
  obtain ⟨i0, hi, hz0, hz1, hz2⟩ := info_parts info33
  obtain ⟨i3, hi3, hz03, hz13, hz23⟩ := info_parts info3
  have K : Hid (∀ W : World, Below w.heap.size w W → W.cell? ⟨r, 2, none⟩ = some (.pointer (some ⟨c, 0, none⟩)) ∧ W.cell? ⟨r, 3, none⟩ = some (.map (some dm))) := Lib.hid (fun W hW => ⟨cellAt (Below.heap hW (Nat.le_refl _) hc) 2, cellAt (Below.heap hW (Nat.le_refl _) hc) 3⟩)
  obtain ⟨Q, hQ⟩ : ∃ Q, Hid (Q = FreshPost w P) := ⟨_, Lib.hid rfl⟩
  rw [← hQ.out]
  obtain ⟨N, hN⟩ : ∃ N, Hid (N = P.length) := ⟨_, Lib.hid rfl⟩
  rw [← hN.out] at hsm
  clear H hm hdv hc
  go_enter Tryz.func31, Tryz.ntmps31
  go_wp2_with (go_at_call 67; with_reducible refine (ids_any w B c P bl bb vs fb m sz HH.out).mono ?_; rintro e w1 ⟨v, ids0, rfl, hid, hsl, hq⟩; have HB1 := Lib.hid hq; have HID := Lib.hid hid; have HSL := Lib.hid hsl; obtain ⟨ia, icap, rfl, hicap, -, hsh⟩ := hsl.shape; have HSH := Lib.hid hsh; have hil : ids0.length = N := hid.len.trans hN.out.symm; rw [hil] at hicap ⊢; clear hid hsl hq hsh)
  go_loopw [4, 5, 7, 8, 9, 16] (fun t4 t5 _ _ _ ti wr => ∃ k : Nat, k ≤ N ∧ ti = .int .i64 k ∧ Hid (∃ vs ls ids, FreshI w1 wr P t4 t5 k vs ls ids)) (fun _ _ _ _ _ i _ => N - (intOf i).toNat)
  case atStart =>
    refine ⟨0, by omega, rfl, Lib.hid ⟨[], [], [], ⟨World.ownsRow_nil _ _ _ _, by simp, by simp, .inl rfl, World.ownsRow_nil _ _ _ _, .inl rfl, by simp, by simp, by simp, Below.refl _ _⟩⟩⟩
  case round =>
    obtain ⟨k, hk, rfl, hI⟩ := hrel
    obtain ⟨vs1, ls, ids, hI⟩ := hI.out
    have HI := Lib.hid hI
    have HWB : Hid (Below w.heap.size w wr) := Lib.hid (HB1.out.trans (hI.below.mono HB1.out.size))
    obtain ⟨y2, y3⟩ := K.out _ HWB.out
    have hfew := hI.few
    obtain ⟨p4, k4, rfl⟩ := own_shape hI.rows
    obtain ⟨p5, k5, rfl⟩ := own_shape hI.ints
    clear hI
    by_cases hlt : k < N
    · obtain ⟨id, hidk⟩ : ∃ id, ids0[k]? = some id := ⟨_, List.getElem?_eq_getElem (by omega)⟩
      have hidr := HID.out.mem id (List.mem_of_getElem? hidk)
      obtain ⟨j, rfl⟩ : ∃ j : Nat, id = (j : Int) + 1 := ⟨(id - 1).toNat, by omega⟩
      obtain ⟨p, hp⟩ : ∃ p, P[j]? = some p := ⟨_, List.getElem?_eq_getElem (by omega)⟩
      obtain ⟨g, off, rfl, hg, hgc⟩ := HSH.out k (by omega)
      have cg := hgc 0 (.int .i64 ((j : Int) + 1)) (by decide) (by simp [ints, hidk])
      rw [Nat.mul_one, Nat.add_zero] at cg
      have cr : wr.cell? ⟨g, off + k, none⟩ = some (.int .i64 ((j : Int) + 1)) := (HI.out.below.cell (p := ⟨g, off + k, none⟩) hg).trans cg
      have HP := Lib.hid hp
      have hjN : j < N := by have := hN.out; omega
      have HPL : Hid (0 < p.length ∧ p.length ≤ 64) := Lib.hid (by
        obtain ⟨pv, hpv⟩ : ∃ pv, vs[j]? = some pv := ⟨_, List.getElem?_eq_getElem (by have := HH.out.pieces.1; have := hN.out; omega)⟩
        exact (HH.out.pieces.2 j pv p hpv hp).2.2)
      have HRC : Hid (∀ W v, Sl W 5 1 v p.length (u8s p) → Calls Tryz.prog 69 #[.int .i64 ((j : Int) + 1), v] W fun e w' => ∃ v', e = .returned v' ∧ w'.ownsRow W.heap.size 5 1 v' (recB (j + 1) p).length (u8s (recB (j + 1) p)) ∧ Below W.heap.size W w') := Lib.hid (fun W v hv => by
        have := record_any W (j + 1) v p (by omega) hv HPL.out.2
        rw [show ((j + 1 : Nat) : Int) = (j : Int) + 1 by push_cast; rfl] at this
        exact this)
      have HLEN := Lib.hid (recB_len (j + 1) (by omega) p HPL.out.2)
      have hL : (Instr.lookup 72 (.map (some dm)) (.int .i64 ((j : Int) + 1)) false).run Tryz.prog wr = .ok ((df ((j : Int) + 1)).getD (.bool false)) wr := ((keep_map HM.out HWB.out).look Tryz.underlying72 (Tryz.zeroValue4 wr) (KI_good (x := (j : Int) + 1) (by omega))).2
      clear hgc cg hidk hp hidr
      cases hdf : df ((j : Int) + 1) with
      | some bv =>
        obtain rfl := HD.out _ _ hdf
        rw [hdf] at hL
        simp only [Option.getD_some] at hL
        clear hdf
        go_wp2_with fail
        go_roundw
        case rel => exact ⟨k + 1, by omega, by go_num, Lib.hid ⟨vs1, ls, ids, { HI.out with few := by have := HI.out.few; omega }⟩⟩
        case measure => simp [intOf]; omega
      | none =>
        rw [hdf] at hL
        simp only [Option.getD_none] at hL
        clear hdf
        go_wp2_with (first | (go_at_call 68; with_reducible refine (get_any wr B c P bl bb vs fb m sz (HH.out.below HWB.out) j p HP.out).mono ?_; rintro e w2 ⟨dv, rfl, ho, hn, hq⟩; have HO := Lib.hid ho; have HQ2 := Lib.hid hq; obtain ⟨dp, dk, rfl⟩ := own_shape ho; clear ho hn hq) | (go_at_call 69; with_reducible refine (HRC.out _ _ (Sl.of_own HO.out (u8s_one' _) (.inr HPL.out.1))).mono ?_; rintro e w3 ⟨v', rfl, ho, hq⟩; have HO3 := Lib.hid ho; have HQ3 : Hid (Below wr.heap.size wr w3) := Lib.hid (HQ2.out.trans (hq.mono HQ2.out.size)); obtain ⟨ep, ek, rfl⟩ := own_shape ho; clear ho hq) | (at_builtin; refine wp_append_sl rfl _ _ 61 rfl w1.heap.size 33 i0 _ 1 24 Tryz.underlying61 hi hz0 hz1 hz2 rfl (by decide) _ ls.length vs1 rfl (own_below HI.out.rows (HQ3.out.alloc HQ3.out.size _)) _ 1 _ rfl (Sl.block' (heap_new _ _) rfl (by simp [Value.oneCell']) (by decide) (by decide)) (by omega) (by decide) (by have := HQ3.out.size; have := HI.out.below.size; simp; omega) ?_; intro u4 w4 hown hgr _ _; have HW4 := Lib.hid hown; have HG4 := Lib.hid hgr; obtain ⟨q4, l4, rfl⟩ := own_shape hown; clear hown hgr) | (at_builtin; refine wp_append_sl rfl _ _ 90 rfl w1.heap.size 3 i3 _ 1 8 Tryz.underlying90 hi3 hz03 hz13 hz23 rfl (by decide) _ ids.length _ rfl (HI.out.mid HQ3.out _ HG4.out _) _ 1 _ rfl (Sl.block' (heap_new _ _) rfl (by simp [Value.oneCell']) (by decide) (by decide)) (by omega) (by decide) (by have := HG4.out.size; have := HQ3.out.size; have := HI.out.below.size; simp at *; omega) ?_; intro u5 w5 hown hgr _ _; have HW5 := Lib.hid hown; have HG5 := Lib.hid hgr; obtain ⟨q5, l5, rfl⟩ := own_shape hown; clear hown hgr))
        go_roundw
        case rel => exact ⟨k + 1, by omega, by go_num, Lib.hid ⟨_, _, _, HI.out.step HQ3.out HO3.out rfl HLEN.out (by have := hN.out; omega) _ HG4.out HW4.out _ HG5.out HW5.out⟩⟩
        case measure => simp [intOf]; omega
    · have hkN : k = N := by omega
      subst hkN
      go_wp2_with fail
      rw [hQ.out]
      exact HI.out.done HB1.out (by rw [hN.out]; exact Nat.le_refl _)
end Go.Proofs.YtaonlcgneemimaaGreatDoor
namespace Go.Proofs.YtaonlcgneemimaaGreatDoor
open Go.RowKit
theorem EngAt.typed2 {w : World} {e : Nat} {x : EngX} (h : EngAt w e x) : ∀ y ∈ x.mut e, y = x.cb ∨ ∃ arr t, w.heap[y]? = some (.cells arr t (0, 0)) ∧ t ∈ [151, 64, 33, 4, 227, 3] := by
  obtain ⟨mn, mf, hm0, -⟩ := h.disk.map
  intro y hy
  rcases h.typed y hy with h1 | ⟨es, cl, h1⟩
  · exact .inr h1
  · refine .inl ?_
    simp only [EngX.mut, List.mem_cons, List.mem_append, Option.mem_toList] at hy
    obtain ⟨ga, hga⟩ := h.space.row
    obtain ⟨ops, hd0⟩ := h.disk.cell
    obtain ⟨lr, hl0, -⟩ := h.disk.row
    have no : ∀ (arr : Array Value) (t : TypeId), w.heap[y]? = some (.cells arr t (0, 0)) → False := fun arr t h2 => by rw [h1] at h2; simp at h2
    rcases hy with rfl | rfl | rfl | rfl | rfl | rfl | rfl | hy | hy
    · exact (no _ _ h.cell).elim
    · exact (no _ _ hd0).elim
    · exact (no _ _ hl0).elim
    · rfl
    · exact (no _ _ hga).elim
    · exact (no _ _ h.logJ.cell).elim
    · exact (no _ _ h.logC.cell).elim
    · obtain ⟨arr, ha⟩ := own_heap h.logJ.segs hy
      exact (no _ _ ha).elim
    · obtain ⟨arr, ha⟩ := own_heap h.logC.segs hy
      exact (no _ _ ha).elim
theorem take_one_more {α : Type} (l : List α) (k : Nat) (i : α) (h : l[k]? = some i) : l.take (k + 1) = l.take k ++ [i] := take_snoc h
/-- The history as a commit goes on. -/
structure HistI (w wr : World) (h : Nat) (pv0 sv0 : Value) (xs0 : List StX) (its : List ItemA) (k : Nat) (pv sv : Value) (zs : List StX) : Prop where
  hist : HistAt wr h pv sv (xs0 ++ zs)
  len : zs.length = k
  st : ∀ j z, zs[j]? = some z → z.x = stepAll (lastX xs0) (its.take (j + 1)) ∧ ∀ b ∈ z.blocks, w.heap.size ≤ b
  fr : Frame (histM h pv0 sv0) w wr
  one : pv.ownBlock ≠ some 1
  ownp : ∀ g, pv.ownBlock = some g → pv0.ownBlock = some g ∨ w.heap.size ≤ g
  owns : ∀ g, sv.ownBlock = some g → sv0.ownBlock = some g ∨ w.heap.size ≤ g
theorem HistI.start {w : World} {h : Nat} {pv sv : Value} {xs : List StX} {its : List ItemA} (H : HistAt w h pv sv xs) (h1 : pv.ownBlock ≠ some 1) : HistI w w h pv sv xs its 0 pv sv [] :=
  ⟨by simpa using H, rfl, fun j z hz => by simp at hz, Frame.refl _ _, h1, fun g hg => .inl hg, fun g hg => .inl hg⟩
theorem HistI.last {w wr : World} {h : Nat} {pv0 sv0 pv sv : Value} {xs0 zs : List StX} {its : List ItemA} {k : Nat} (H : HistI w wr h pv0 sv0 xs0 its k pv sv zs) : lastX (xs0 ++ zs) = stepAll (lastX xs0) (its.take k) := by
  rcases List.eq_nil_or_concat zs with rfl | ⟨l, z, hlz⟩
  · have := H.len
    simp at this
    subst this
    simp [stepAll]
  · rw [List.concat_eq_append] at hlz
    subst hlz
    have hl := H.len
    have hz : (l ++ [z])[l.length]? = some z := by simp
    have h1 := (H.st l.length z hz).1
    simp at hl
    subst hl
    rw [← h1]
    unfold lastX
    simp
theorem HistI.step {w wr w2 : World} {h : Nat} {pv0 sv0 pv sv : Value} {xs0 zs : List StX} {its : List ItemA} {k : Nat} {i : ItemA} (H : HistI w wr h pv0 sv0 xs0 its k pv sv zs) (hk : its[k]? = some i) (hA : AddPost wr h pv sv (xs0 ++ zs) i w2) : ∃ pv' sv' zs', HistI w w2 h pv0 sv0 xs0 its (k + 1) pv' sv' zs' := by
  obtain ⟨pv', sv', y', h1, h2, h3, h4, h5, h6, h7⟩ := hA
  refine ⟨pv', sv', zs ++ [y'], by simpa using h1, by simp [H.len], fun j z hz => ?_, H.fr.trans h4 (fun x hx => ?_), h5, fun g hg => ?_, fun g hg => ?_⟩
  · by_cases hj : j < zs.length
    · rw [List.getElem?_append_left hj] at hz
      exact H.st j z hz
    · have hj0 : j = zs.length := by
        have := (List.getElem?_eq_some_iff.1 hz).1
        simp at this
        omega
      subst hj0
      simp at hz
      subst hz
      refine ⟨?_, fun b hb => Nat.le_trans H.fr.size (h3 b hb)⟩
      rw [h2, H.last, H.len, take_one_more _ _ _ hk, stepAll_snoc]
  · simp only [histM, List.mem_cons, List.mem_append, Option.mem_toList] at hx ⊢
    rcases hx with rfl | hx | hx
    · exact .inl (.inl rfl)
    · rcases H.ownp x hx with h | h
      · exact .inl (.inr (.inl h))
      · exact .inr h
    · rcases H.owns x hx with h | h
      · exact .inl (.inr (.inr h))
      · exact .inr h
  · rcases h6 with h6 | h6
    · exact H.ownp g (h6 ▸ hg)
    · exact .inr (Nat.le_trans H.fr.size (h6 g (by simpa using hg)))
  · rcases h7 with h7 | h7
    · exact H.owns g (h7 ▸ hg)
    · exact .inr (Nat.le_trans H.fr.size (h7 g (by simpa using hg)))
theorem histM_typed {w : World} {h : Nat} {pv sv : Value} {xs : List StX} (H : HistAt w h pv sv xs) : Typed w (histM h pv sv) [115, 52, 73] := fun k hk => by
  obtain ⟨a, t, h1, h2⟩ := histM_ty H k hk
  exact .inl ⟨a, t, h1, by rcases h2 with rfl | rfl | rfl <;> simp⟩
/-- The history behind the engine's part. -/
theorem commit_hist {w w2 w3 w4 : World} {r : Nat} {X : RepX} {x' : EngX} (H : RepAt w r X) (hb : Below w.heap.size w w2) (hm : EngMove w2 X.e X.x w3 x') (f4 : Frame [X.dm] w3 w4) : HistAt w3 X.h X.pv X.sv X.xs ∧ HistAt w4 X.h X.pv X.sv X.xs := by
  have H2 := H.below hb
  have T := H2.eng.typed
  have a3 : HistAt w3 X.h X.pv X.sv X.xs := H2.hist.frame hm.fr (fun k hk hk2 => by
    obtain ⟨arr, t, h1, h2⟩ := histM_ty H2.hist k hk
    exact T.out h1 (by rcases h2 with rfl | rfl | rfl <;> decide) hk2) (fun z hz k hk hk2 => (H.znot z hz k hk).1 (by simp [RepX.mu, hk2])) (fun h1 => H.one.1 (by simp [RepX.mu, h1])) (T.no (by decide))
  refine ⟨a3, a3.frame f4 (fun k hk hk2 => ?_) (fun z hz k hk hk2 => (H.znot z hz k hk).1 (by simp only [List.mem_singleton] at hk2; simp [RepX.mu, hk2])) (fun h1 => H.one.1 (by simp only [List.mem_singleton] at h1; simp [RepX.mu, h1])) (fun g hg arr he => ?_)⟩
  · simp only [List.mem_singleton] at hk2
    subst hk2
    obtain ⟨arr, t, h1, h2⟩ := histM_ty a3 _ hk
    have h3 : MapX KI w3 X.dm X.dn X.df := (H2.dmap.same (hm.fr.block _ H2.dmap.lt H.dne))
    exact h3.cells h1
  · simp only [List.mem_singleton] at hg
    subst hg
    have h3 : MapX KI w3 X.dm X.dn X.df := (H2.dmap.same (hm.fr.block _ H2.dmap.lt H.dne))
    exact h3.cells he
/-- A repository behind a commit. -/
def RepX.done (X : RepX) (x' : EngX) (pv sv : Value) (zs : List StX) (dn : Nat) (df : Int → Option Value) : RepX := { X with x := x', pv := pv, sv := sv, xs := X.xs ++ zs, dn := dn, df := df, rv := .slice none 0 0, its := [] }
theorem commit_close {w w2 w3 w4 w5 : World} {r : Nat} {X : RepX} {x' : EngX} {dn : Nat} {df : Int → Option Value} {pv sv : Value} {zs : List StX} (H : RepAt w r X) (hb : Below w.heap.size w w2) (hm : EngMove w2 X.e X.x w3 x') (hcb : x'.cb = X.x.cb) (hmap : MapX KI w4 X.dm dn df) (hdv : ∀ id v, df id = some v → v = .bool true) (f4 : Frame [X.dm] w3 w4)
    (hI : HistI w4 w5 X.h X.pv X.sv X.xs X.its X.its.length pv sv zs) :
    RepAt (w5.setCell ⟨r, 5, none⟩ (.slice none 0 0)) r (X.done x' pv sv zs dn df) ∧ Frame (X.mu r) w (w5.setCell ⟨r, 5, none⟩ (.slice none 0 0)) := by
  have H2 := H.below hb
  have T2 := H2.eng.typed
  obtain ⟨hh3, hh4⟩ := commit_hist H hb hm f4
  have hd3 : MapX KI w3 X.dm X.dn X.df := H2.dmap.same (hm.fr.block _ H2.dmap.lt H.dne)
  have F2 : Frame (X.mu r) w w2 := Frame.of_below hb _
  have F3 : Frame (X.mu r) w2 w3 := hm.fr.mono (fun k hk => .inl (by simp [RepX.mu, hk]))
  have F4 : Frame (X.mu r) w3 w4 := f4.mono (fun k hk => .inl (by simp only [List.mem_singleton] at hk; simp [RepX.mu, hk]))
  have F5 : Frame (X.mu r) w4 w5 := hI.fr.mono (fun k hk => .inl (by simp [RepX.mu, hk]))
  have f6 : Frame [r] w5 (w5.setCell ⟨r, 5, none⟩ (.slice none 0 0)) := (Frame.refl [r] w5).setCell (p := ⟨r, 5, none⟩) (.inl (by simp)) _
  have F6 : Frame (X.mu r) w5 (w5.setCell ⟨r, 5, none⟩ (.slice none 0 0)) := f6.mono (fun k hk => .inl (by simp only [List.mem_singleton] at hk; simp [RepX.mu, hk]))
  have F : Frame (X.mu r) w (w5.setCell ⟨r, 5, none⟩ (.slice none 0 0)) := (((F2.trans F3 (fun _ h => .inl h)).trans F4 (fun _ h => .inl h)).trans F5 (fun _ h => .inl h)).trans F6 (fun _ h => .inl h)
  have T := H.ty2
  have hr2 := H2.cell
  have hr3 := hm.fr.heap hr2 (T2.out hr2 (by decide))
  have hrd : r ≠ X.dm := fun h => hd3.cells (h ▸ hr3)
  have hr4 := f4.heap hr3 (by simpa using hrd)
  have TH4 := histM_typed hh4
  have hr5 := hI.fr.heap hr4 (TH4.out hr4 (by decide))
  have hs4 : w.heap.size ≤ w4.heap.size := Nat.le_trans hb.size (Nat.le_trans hm.fr.size f4.size)
  have hmu : ∀ k ∈ (X.done x' pv sv zs dn df).mu r, k ∈ X.mu r ∨ w.heap.size ≤ k := by
    intro k hk
    simp only [RepX.done, RepX.mu, List.mem_cons, List.mem_append, histM, Option.mem_toList] at hk ⊢
    rcases hk with rfl | rfl | hk | rfl | hk | hk
    · exact .inl (.inl rfl)
    · exact .inl (.inr (.inl rfl))
    · rcases hm.own k hk with h1 | h1
      · exact .inl (.inr (.inr (.inl h1)))
      · exact .inr (Nat.le_trans hb.size h1)
    · exact .inl (.inr (.inr (.inr (.inl rfl))))
    · rcases hI.ownp k hk with h1 | h1
      · exact .inl (.inr (.inr (.inr (.inr (.inl h1)))))
      · exact .inr (Nat.le_trans hs4 h1)
    · rcases hI.owns k hk with h1 | h1
      · exact .inl (.inr (.inr (.inr (.inr (.inr h1)))))
      · exact .inr (Nat.le_trans hs4 h1)
  have hnot : ∀ k, k < w.heap.size → k ∉ X.mu r → k ∉ (X.done x' pv sv zs dn df).mu r := fun k h1 h2 h3 => by
    rcases hmu k h3 with h4 | h4
    · exact h2 h4
    · omega
  have h1lt : 1 < w.heap.size := by
    obtain ⟨m, hm1⟩ := H.hist.glob
    exact World.block_lt_of_cell? w ⟨1, 0, none⟩ hm1
  have L1 := H.ty1.lt
  have M2 : Frame (r :: X.dm :: histM X.h X.pv X.sv) w3 (w5.setCell ⟨r, 5, none⟩ (.slice none 0 0)) := ((f4.mono (M' := r :: X.dm :: histM X.h X.pv X.sv) (fun k hk => .inl (by simp only [List.mem_singleton] at hk; simp [hk]))).trans hI.fr (fun k hk => .inl (by simp [hk]))).trans f6 (fun k hk => .inl (by simp only [List.mem_singleton] at hk; simp [hk]))
  have T3 := hm.eng.typed
  have hdm3 : X.dm ∉ x'.mut X.e := fun h => by
    rcases hm.own _ h with h1 | h1
    · exact H.dne h1
    · have := H2.dmap.lt
      omega
  have TH3 := histM_typed hh3
  have heng : EngAt (w5.setCell ⟨r, 5, none⟩ (.slice none 0 0)) X.e x' := hm.eng.frame M2 (fun k hk hk2 => by
    simp only [List.mem_cons] at hk2
    rcases hk2 with rfl | rfl | hk2
    · exact T3.out hr3 (by decide) hk
    · exact hdm3 hk
    · obtain ⟨arr, t, h1, h2⟩ := histM_ty hh3 k hk2
      exact T3.out h1 (by rcases h2 with rfl | rfl | rfl <;> decide) hk) (fun hk2 => by
    obtain ⟨ba, hba⟩ := hm.eng.space.blk
    simp only [List.mem_cons] at hk2
    rcases hk2 with hk2 | hk2 | hk2
    · rw [hk2] at hba
      exact cells_ty hba hr3 (by decide) rfl
    · rw [hk2] at hba
      exact hd3.cells hba
    · exact TH3.out hba (by decide) hk2)
  have hhr : r ∉ histM X.h pv sv := fun hk => by
    obtain ⟨arr, t, h1, h2⟩ := histM_ty hI.hist r hk
    rw [hr5] at h1
    injection h1 with h1
    injection h1 with _ h3
    subst h3
    rcases h2 with h2 | h2 | h2 <;> exact absurd h2 (by decide)
  have hzn : ∀ z ∈ zs, ∀ k ∈ z.blocks, w4.heap.size ≤ k := fun z hz k hk => by
    obtain ⟨j, hj, e⟩ := List.getElem_of_mem hz
    exact (hI.st j z (by rw [List.getElem?_eq_getElem hj, e])).2 k hk
  have hrlt := heap_lt H.cell
  have hone6 : ∀ g ∈ [r], ∀ arr, w5.heap[g]? ≠ some (.cells arr 134 (0, 0)) := fun g hg arr he => by
    simp only [List.mem_singleton] at hg
    subst hg
    exact cells_ty hr5 he (by decide) rfl
  have hhist : HistAt (w5.setCell ⟨r, 5, none⟩ (.slice none 0 0)) X.h pv sv (X.xs ++ zs) := hI.hist.frame f6 (fun k hk h => by simp only [List.mem_singleton] at h; exact hhr (h ▸ hk)) (fun z hz k hk h => by
    simp only [List.mem_singleton] at h
    subst h
    rcases List.mem_append.1 hz with hz | hz
    · exact (H.znot z hz _ hk).1 (by simp [RepX.mu])
    · have := hzn z hz _ hk
      omega) (fun h => H.one.1 (by simp only [List.mem_singleton] at h; simp [RepX.mu, h])) hone6
  have hdm6 : MapX KI (w5.setCell ⟨r, 5, none⟩ (.slice none 0 0)) X.dm dn df := by
    have h5 : MapX KI w5 X.dm dn df := hmap.same (hI.fr.block _ hmap.lt (fun h => by
      obtain ⟨arr, t, h1, h2⟩ := histM_ty hh4 _ h
      exact hmap.cells h1))
    exact h5.same (f6.block _ h5.lt (by simpa using (Ne.symm hrd)))
  refine ⟨⟨?_, heng, hhist, H.chunks.frame F (T.out H.chunks.cell (by decide)) H.cnot.1 H.cnot.2 H.fnot (T.no (by decide)), hdm6, hdv, ⟨[], rfl, Sl.nil _ _ _, fun j s i h => by simp at h⟩, H.st.frame F H.ynot H.one.1 (T.no (by decide)), ?_, trivial, fun i hi => by simp [RepX.done] at hi, ⟨?_, H.one.2⟩, fun k hk => hnot k (H.st.lt k hk) (H.ynot k hk), fun z hz k hk => ?_, ⟨hnot _ H.chunks.ml.lt H.cnot.1, hnot _ H.chunks.mb.lt H.cnot.2⟩, fun k v g hv hg => hnot g ((H.chunks.rows k v hv).1.lt g hg).2 (H.fnot k v g hv hg), hdm3⟩, F⟩
  · have := setAt hr5 5 (.slice none 0 0)
    simpa [RepX.done] using this
  · show X.y.x = stepAll (lastX (X.xs ++ zs)) []
    rw [H.yx]
    show _ = lastX (X.xs ++ zs)
    rw [hI.last, List.take_length]
  · intro h
    rcases hmu 1 h with h | h
    · exact H.one.1 h
    · omega
  · rcases List.mem_append.1 hz with hz | hz
    · exact ⟨hnot k ((H.hist.each z hz).lt k hk) (H.znot z hz k hk).1, (H.znot z hz k hk).2⟩
    · have hk4 := hzn z hz k hk
      refine ⟨fun hmk => ?_, fun h1 => by have := L1 k h1; omega⟩
      have hzst := hhist.each z (List.mem_append_right _ hz)
      have hkind : (∃ arr t, (w5.setCell ⟨r, 5, none⟩ (.slice none 0 0)).heap[k]? = some (.cells arr t (0, 0)) ∧ (t = 121 ∨ t = 170)) ∨ ∃ es cl, (w5.setCell ⟨r, 5, none⟩ (.slice none 0 0)).heap[k]? = some (.map es cl) := by
        simp only [StX.blocks, List.mem_cons, List.not_mem_nil, or_false] at hk
        rcases hk with rfl | rfl | rfl | rfl
        · exact .inl ⟨_, _, hzst.at'.cell, .inl rfl⟩
        · exact .inl ⟨_, _, hzst.at'.tree.cell, .inr rfl⟩
        · exact .inr hzst.at'.tree.map.obj
        · exact .inr hzst.at'.bodies.map.obj
      have clash : ∀ (arr : Array Value) (t : TypeId), (w5.setCell ⟨r, 5, none⟩ (.slice none 0 0)).heap[k]? = some (.cells arr t (0, 0)) → t ≠ 121 → t ≠ 170 → False := fun arr t h1 h2 h3 => by
        rcases hkind with ⟨a, u, h4, h5⟩ | ⟨es, cl, h4⟩
        · rw [h1] at h4
          injection h4 with h4
          injection h4 with _ h6
          subst h6
          rcases h5 with h5 | h5
          · exact h2 h5
          · exact h3 h5
        · rw [h1] at h4
          simp at h4
      simp only [RepX.done, RepX.mu, List.mem_cons, List.mem_append] at hmk
      rcases hmk with rfl | rfl | hmk | hmk
      · omega
      · have := H.dmap.lt
        omega
      · rcases heng.typed2 k hmk with h1 | ⟨arr, t, h1, h2⟩
        · rw [hcb] at h1
          have := (H.eng.disk.lt).2.2
          omega
        · simp only [List.mem_cons, List.not_mem_nil, or_false] at h2
          refine clash arr t h1 ?_ ?_ <;> rcases h2 with rfl | rfl | rfl | rfl | rfl | rfl <;> decide
      · obtain ⟨arr, t, h1, h2⟩ := histM_ty hhist k hmk
        refine clash arr t h1 ?_ ?_ <;> rcases h2 with rfl | rfl | rfl <;> decide
end Go.Proofs.YtaonlcgneemimaaGreatDoor
namespace Go.Proofs.YtaonlcgneemimaaGreatDoor
open Go.RowKit
theorem sumMany_few : ∀ (ls : List (List Int)), (∀ l ∈ ls, 1 ≤ l.length ∧ l.length ≤ 200) → sumMany ls ≤ 4 * ls.length
  | [], _ => by simp [sumMany]
  | l :: ls, h => by
    have h1 := (h l (by simp)).2
    have h2 := sumMany_few ls (fun x hx => h x (by simp [hx]))
    have h3 : manyN l.length ≤ 4 := by unfold manyN; omega
    simp only [sumMany, List.map_cons, List.sum_cons, List.length_cons] at h2 ⊢
    omega
/-- What a commit leaves. -/
def CommitPost (w : World) (r : Nat) (X : RepX) (w' : World) : Prop :=
  ∃ (x' : EngX) (pv sv : Value) (zs : List StX) (dn : Nat) (df : Int → Option Value) (T : Nat), RepAt w' r (X.done x' pv sv zs dn df) ∧ Frame (X.mu r) w w' ∧ zs.length = X.its.length ∧ (∀ j z, zs[j]? = some z → z.x = stepAll (lastX X.xs) (X.its.take (j + 1))) ∧ T ≤ 4 * X.P.length ∧ dn ≤ X.dn + X.P.length ∧
    EngGrew X.x x' 4 (manyN (recordB (X.xs.length + 1) X.its).length) T (needN X.x.ssJ.length X.x.nJ (manyN (recordB (X.xs.length + 1) X.its).length)) (needN X.x.ssC.length X.x.nC T)
/-- The pieces' numbers as they are noted. -/
structure NoteI (w3 wr : World) (dm dn0 k : Nat) (dn : Nat) (df : Int → Option Value) : Prop where
  map : MapX KI wr dm dn df
  val : ∀ id v, df id = some v → v = .bool true
  few : dn ≤ dn0 + k
  fr : Frame [dm] w3 wr
theorem NoteI.step {w3 wr : World} {dm dn0 k dn : Nat} {df : Int → Option Value} (h : NoteI w3 wr dm dn0 k dn df) (hs : dn0 + k ≤ 1000000) (id : Int) (hid : 1 ≤ id ∧ id ≤ 1000000) : ∃ w9, (Instr.mapUpdate 72 (.map (some dm)) (.int .i64 id) (.bool true)).run Tryz.prog wr = .ok () w9 ∧ ∃ dn' df', NoteI w3 w9 dm dn0 (k + 1) dn' df' := by
  obtain ⟨w9, h1, h2, h3⟩ := h.map.store Tryz.underlying72 (by have := h.few; unfold maxLen; omega) (x := id) (KI_good (by omega)) (.bool true)
  refine ⟨w9, h1, _, _, h2, fun x v hx => ?_, by have := h.few; split <;> omega, h.fr.turned h3 (.inl (by simp))⟩
  unfold fput at hx
  split at hx
  · simpa using hx.symm
  · exact h.val x v hx
theorem RowsV.item {w : World} {v : Value} {its : List ItemA} (h : RowsV w v its) {ra : Option Addr} {n rcap : Nat} (hv : v = .slice ra n rcap) {k : Nat} {i : ItemA} (hk : its[k]? = some i) : ∃ g off s, ra = some ⟨g, off, none⟩ ∧ Sl w 134 4 s i.parts.length (partsC i.parts) ∧ w.cell? ⟨g, off + k * 8, none⟩ = some (.float .f64 0) ∧ w.cell? ⟨g, off + k * 8 + 1, none⟩ = some (.int .i64 i.op) ∧ w.cell? ⟨g, off + k * 8 + 2, none⟩ = some (.string i.path) ∧ w.cell? ⟨g, off + k * 8 + 3, none⟩ = some (.string i.to) ∧ w.cell? ⟨g, off + k * 8 + 4, none⟩ = some (.int .i64 i.off) ∧ w.cell? ⟨g, off + k * 8 + 5, none⟩ = some (.int .i64 i.size) ∧ w.cell? ⟨g, off + k * 8 + 6, none⟩ = some (.slice none 0 0) ∧ w.cell? ⟨g, off + k * 8 + 7, none⟩ = some (s) := by
  obtain ⟨a, cap, e, -, -, hc⟩ := rows_cells h
  obtain ⟨g, off, s, h1, h2, h3, h4⟩ := hc k i hk
  rw [hv] at e
  injection e with e1 e2 e3
  exact ⟨g, off, s, e1.trans h1, h3, h4⟩
set_option maxRecDepth 100000 in
set_option maxHeartbeats 8000000 in
theorem commit_any (w : World) (r : Nat) (X : RepX) (H : RepAt w r X) (hne : X.its ≠ []) (hlen : (recordB (X.xs.length + 1) X.its).length ≤ 16384) (hfew : X.xs.length + X.its.length ≤ 9999) (hP : X.P.length ≤ 20000) (hdn : X.dn ≤ 100000) (hk : X.x.k ≤ 100000) (hnum : X.x.number + 4 ≤ 2147483647)
    (hok : ∀ T, T ≤ 4 * X.P.length → needN X.x.ssC.length X.x.nC T + needN X.x.ssJ.length X.x.nJ (manyN (recordB (X.xs.length + 1) X.its).length) ≤ sp_frees X.x.bs) :
    Calls Tryz.prog 10 #[.pointer (some ⟨r, 0, none⟩)] w fun e w' => e = .returned (.int .i64 0) ∧ CommitPost w r X w' := by
  have HH := Lib.hid H
  obtain ⟨ra, rcap, hrv, -, -, -⟩ := rows_cells H.rows
  obtain ⟨n, hn⟩ : ∃ n, Hid (n = X.its.length) := ⟨_, Lib.hid rfl⟩
  rw [← hn.out] at hrv hfew
  have hn0 : n ≠ 0 := by rw [hn.out]; exact fun h => hne (List.eq_nil_of_length_eq_zero h)
  have dn0 : ((n : Int) == 0) = false := by simpa using hn0
  have HRV := Lib.hid hrv
  have HC := Lib.hid H.cell
  rw [hrv] at HC
  have HK := Lib.hid hok
  obtain ⟨Rc, hRc⟩ : ∃ R, Hid (R = recordB (X.xs.length + 1) X.its) := ⟨_, Lib.hid rfl⟩
  obtain ⟨NP, hNP⟩ : ∃ N, Hid (N = X.P.length) := ⟨_, Lib.hid rfl⟩
  rw [← hNP.out] at hP
  have BT : Hid (Calls Tryz.prog 28 #[.pointer (some ⟨r, 0, none⟩), .slice ra n rcap] w fun e w' => ∃ v', e = .returned (.tuple #[v', .int .i64 0]) ∧ w'.ownsRow w.heap.size 5 1 v' Rc.length (u8s Rc) ∧ Below w.heap.size w w') := Lib.hid (by
    rw [hRc.out]
    have := H.rows
    rw [hrv] at this
    exact repBatch_any w r X.h _ _ _ _ _ _ _ _ X.xs HC.out H.hist _ _ this (fun j hj => (H.good j hj).1) hne (by have := hn.out; omega) hlen)
  have hR1 : 1 ≤ Rc.length := by rw [hRc.out]; simp [recordB]
  have hR0 : 0 < Rc.length := hR1
  have hR2 : Rc.length ≤ 16384 := by rw [hRc.out]; exact hlen
  have FR : Hid (∀ W, Below w.heap.size w W → Calls Tryz.prog 31 #[.pointer (some ⟨r, 0, none⟩)] W fun e w' => ∃ v4 v5 ls ids, e = .returned (.tuple #[v4, v5]) ∧ Hid (RowsB w' v4 ls) ∧ Hid (∀ l ∈ ls, 1 ≤ l.length ∧ l.length ≤ 200) ∧ ls.length ≤ NP ∧ Hid (Sl w' 3 1 v5 ids.length (ints ids)) ∧ Hid (∀ g, v5.ownBlock = some g → W.heap.size ≤ g) ∧ Hid (∀ id ∈ ids, 1 ≤ id ∧ id ≤ NP) ∧ ids.length ≤ NP ∧ Below W.heap.size W w') := Lib.hid (fun W hW => by
    refine (fresh_any W r X.c X.dm X.dn _ _ _ _ _ 0 X.P X.bl X.bb X.vs X.fb X.m X.sz X.df (Below.heap hW (Nat.le_refl _) HC.out) (HH.out.chunks.below hW) (keep_map HH.out.dmap hW) HH.out.dval).mono ?_
    rintro e w' ⟨v4, v5, ls, ids, h1, h2, h3, h4, h5, h6, h7, h8, h9, h10⟩
    rw [hNP.out]
    exact ⟨v4, v5, ls, ids, h1, h2, h3, h4, h6, h7, h8, h9, h10⟩)
  have EA : Hid (∀ W v4 ls v, Below w.heap.size w W → RowsB W v4 ls → (∀ l ∈ ls, 1 ≤ l.length ∧ l.length ≤ 200) → ls.length ≤ NP → Sl W 5 1 v Rc.length (u8s Rc) → Calls Tryz.prog 32 #[.pointer (some ⟨X.e, 0, none⟩), v4, v] W fun e w' => e = .returned (.int .i64 0) ∧ Hid (∃ x' T, EngMove W X.e X.x w' x' ∧ T ≤ 4 * NP ∧ EngGrew X.x x' 4 (manyN Rc.length) T (needN X.x.ssJ.length X.x.nJ (manyN Rc.length)) (needN X.x.ssC.length X.x.nC T))) := Lib.hid (fun W v4 ls v hW h1 h2 h3 h4 => by
    have hT := sumMany_few ls h2
    refine (append_any W X.e X.x (HH.out.eng.below hW) v4 ls h1 (fun l hl => ⟨(h2 l hl).1, by have := (h2 l hl).2; omega⟩) v Rc h4 hR1 hR2 (by omega) hk hnum (by have := HK.out (sumMany ls) (by rw [← hNP.out]; omega); rw [← hRc.out] at this; exact this)).mono ?_
    rintro e w' ⟨rfl, x', h5, h6⟩
    exact ⟨rfl, x', sumMany ls, h5, by omega, h6⟩)
  obtain ⟨Q, hQ⟩ : ∃ Q, Hid (Q = CommitPost w r X) := ⟨_, Lib.hid rfl⟩
  rw [← hQ.out]
  have c0 := cellAt HC.out 0
  have c5 := cellAt HC.out 5
  simp only [List.getElem?_toArray, List.getElem?_cons_zero, List.getElem?_cons_succ] at c0 c5
  have KB : Hid (∀ W : World, Below w.heap.size w W → W.cell? ⟨r, 0, none⟩ = some (.pointer (some ⟨X.e, 0, none⟩)) ∧ W.cell? ⟨r, 5, none⟩ = some (.slice ra n rcap)) := Lib.hid (fun W hW => ⟨cellAt (Below.heap hW (Nat.le_refl _) HC.out) 0, cellAt (Below.heap hW (Nat.le_refl _) HC.out) 5⟩)
  clear H hne hlen hk hnum hok hrv hn0
  go_enter Tryz.func10, Tryz.ntmps10
  go_wp2_with (first | (go_at_call 28; with_reducible refine BT.out.mono ?_; rintro e1 w1 ⟨vb, rfl, ho, hq⟩; have O1 := Lib.hid ho; have B1 := Lib.hid hq; obtain ⟨ba, bcap, rfl⟩ := own_shape ho; have y0 := (KB.out _ hq).1; clear ho hq) | (go_at_call 31; with_reducible refine (FR.out _ B1.out).mono ?_; rintro e1 w2 ⟨v4, v5, ls, ids, rfl, R4, L4, hl4, S5, O5, M5, hl5, hq⟩; have B12 := Lib.hid hq; have B2 : Hid (Below w.heap.size w w2) := Lib.hid (B1.out.trans (hq.mono B1.out.size)); have z0 := (KB.out _ B2.out).1; obtain ⟨ia, icap, rfl, hicap, -, hsh⟩ := S5.out.shape; have SH := Lib.hid hsh; have V2 : Hid (Sl w2 5 1 (.slice ba Rc.length bcap) Rc.length (u8s Rc)) := Lib.hid ((Sl.of_own O1.out (u8s_one' _) (.inr hR0)).below hq); clear hq hsh) | (go_at_call 32; with_reducible refine (EA.out _ v4 ls _ B2.out R4.out L4.out hl4 V2.out).mono ?_; rintro e1 w3 ⟨rfl, EM⟩))
  obtain ⟨x', T, hm, hT, hg⟩ := EM.out
  have HM := Lib.hid hm
  have HG := Lib.hid hg
  have HT := Lib.hid hT
  have B2o := B2.out
  have hr3 : Hid (w3.heap[r]? = _) := Lib.hid (hm.fr.heap (Below.heap B2o (Nat.le_refl _) HC.out) (HH.out.eng.typed.out HC.out (by decide)))
  have hd3 : Hid (MapX KI w3 X.dm X.dn X.df) := Lib.hid ((keep_map HH.out.dmap B2o).same (hm.fr.block _ (keep_map HH.out.dmap B2o).lt HH.out.dne))
  have hrd : Hid (r ≠ X.dm) := Lib.hid (fun h => hd3.out.cells (h ▸ hr3.out))
  obtain ⟨NI, hNI⟩ : ∃ N, Hid (N = ids.length) := ⟨_, Lib.hid rfl⟩
  rw [← hNI.out] at hicap hl5 ⊢
  have RC : Hid (∀ W, Frame [X.dm] w3 W → W.cell? ⟨r, 3, none⟩ = some (.map (some X.dm)) ∧ W.cell? ⟨r, 5, none⟩ = some (.slice ra n rcap)) := Lib.hid (fun W hW => by
    have h := hW.heap hr3.out (by simpa using hrd.out)
    exact ⟨cellAt h 3, cellAt h 5⟩)
  have IDC : Hid (∀ W, Frame [X.dm] w3 W → ∀ (k : Nat) (id : Int), ids[k]? = some id → ∃ g off, ia = some ⟨g, off, none⟩ ∧ W.cell? ⟨g, off + k, none⟩ = some (.int .i64 id)) := Lib.hid (fun W hW k id hid => by
    have hkl := (List.getElem?_eq_some_iff.1 hid).1
    obtain ⟨g, off, he, hgl, hc⟩ := SH.out k hkl
    have h0 := hc 0 (.int .i64 id) (by decide) (by simp [ints, hid])
    rw [Nat.mul_one, Nat.add_zero] at h0
    refine ⟨g, off, he, ?_⟩
    have hge : w1.heap.size ≤ g := O5.out g (by rw [he]; rfl)
    have hn1 : g ∉ X.x.mut X.e := fun h => by
      have := HH.out.eng.typed.lt g h
      have := B1.out.size
      omega
    have hn2 : g ≠ X.dm := fun h => by
      have := HH.out.dmap.lt
      have := B1.out.size
      omega
    rw [hW.cell (p := ⟨g, off + k, none⟩) (Nat.lt_of_lt_of_le hgl HM.out.fr.size) (by simpa using hn2), HM.out.fr.cell (p := ⟨g, off + k, none⟩) hgl hn1]
    exact h0)
  have hr3c := (RC.out w3 (Frame.refl _ _)).1
  clear hm hg hT EM B2o y0 z0 hrd
  go_loopw [8, 50] (fun _ ti wr => ∃ k : Nat, k ≤ NI ∧ ti = .int .i64 k ∧ Hid (∃ dn df, NoteI w3 wr X.dm X.dn k dn df)) (fun _ i _ => NI - (intOf i).toNat)
  case atStart => exact ⟨0, by omega, rfl, Lib.hid ⟨X.dn, X.df, hd3.out, HH.out.dval, Nat.le_refl _, Frame.refl _ _⟩⟩
  case round =>
  obtain ⟨k, hk, rfl, hI⟩ := hrel
  obtain ⟨dn1, df1, hI⟩ := hI.out
  have HI := Lib.hid hI
  obtain ⟨y3, y5⟩ := RC.out _ hI.fr
  clear hI
  by_cases hlt : k < NI
  · obtain ⟨id, hid⟩ : ∃ id, ids[k]? = some id := ⟨_, List.getElem?_eq_getElem (by have := hNI.out; omega)⟩
    obtain ⟨g, off, rfl, hc⟩ := IDC.out _ HI.out.fr k id hid
    have hmem := M5.out id (List.mem_of_getElem? hid)
    obtain ⟨w9, hrun, hN9⟩ := HI.out.step (by omega) id (by omega)
    have HN9 := Lib.hid hN9
    clear hN9 hmem hid
    go_wp2_with fail
    go_roundw
    case rel => exact ⟨k + 1, by omega, by go_num, HN9⟩
    case measure => simp [intOf]; omega
  · have hkN : NI = k := by omega
    subst hkN
    obtain ⟨w4, hw4⟩ : ∃ x : World, x = wr := ⟨_, rfl⟩
    subst hw4
    have hh4 := (commit_hist HH.out B2.out HM.out HI.out.fr).2
    have hr4 : Hid (w4.heap[r]? = _) := Lib.hid (HI.out.fr.heap hr3.out (by simpa using (fun h => hd3.out.cells (h ▸ hr3.out) : r ≠ X.dm)))
    have HST : Hid (HistI w4 w4 X.h X.pv X.sv X.xs X.its 0 X.pv X.sv []) := Lib.hid (HistI.start hh4 (fun h => HH.out.one.1 (by simp [RepX.mu, histM, h])))
    have R4H : Hid (∀ W, Frame (histM X.h X.pv X.sv) w4 W → W.heap[r]? = some (.cells #[.pointer (some ⟨X.e, 0, none⟩), .pointer (some ⟨X.h, 0, none⟩), .pointer (some ⟨X.c, 0, none⟩), .map (some X.dm), .float .f64 0, .slice ra n rcap, .pointer (some ⟨X.y.s, 0, none⟩)] 77 (0, 0))) := Lib.hid (fun W hW => hW.heap hr4.out ((histM_typed hh4).out hr4.out (by decide)))
    have MU : Hid (∀ W, Frame (histM X.h X.pv X.sv) w4 W → Frame (X.mu r) w W) := Lib.hid (fun W hW => by
      have F2 : Frame (X.mu r) w w2 := Frame.of_below B2.out _
      have F3 : Frame (X.mu r) w2 w3 := HM.out.fr.mono (fun k hk => .inl (by simp [RepX.mu, hk]))
      have F4 : Frame (X.mu r) w3 w4 := HI.out.fr.mono (fun k hk => .inl (by simp only [List.mem_singleton] at hk; simp [RepX.mu, hk]))
      have F5 : Frame (X.mu r) w4 W := hW.mono (fun k hk => .inl (by simp [RepX.mu, hk]))
      exact ((F2.trans F3 (fun _ h => .inl h)).trans F4 (fun _ h => .inl h)).trans F5 (fun _ h => .inl h))
    have RV : Hid (∀ W, Frame (histM X.h X.pv X.sv) w4 W → RowsV W (.slice ra n rcap) X.its) := Lib.hid (fun W hW => by
      have := HH.out.rows.frame (MU.out W hW) (HH.out.ty2.no (by decide)) (HH.out.ty2.no (by decide))
      rw [HRV.out] at this
      exact this)
    clear hh4
    go_wp2_with fail
    go_loopw [10, 65] (fun _ ti wr => ∃ k : Nat, k ≤ n ∧ ti = .int .i64 k ∧ Hid (∃ pv sv zs, HistI w4 wr X.h X.pv X.sv X.xs X.its k pv sv zs)) (fun _ i _ => n - (intOf i).toNat)
    case atStart => exact ⟨0, by omega, rfl, Lib.hid ⟨_, _, _, HST.out⟩⟩
    case round =>
    obtain ⟨k2, hk2, rfl, hJ⟩ := hrel
    obtain ⟨pv, sv, zs, hJ⟩ := hJ.out
    have HJ := Lib.hid hJ
    have hrr := R4H.out _ hJ.fr
    by_cases hlt2 : k2 < n
    · obtain ⟨i, hi⟩ : ∃ i, X.its[k2]? = some i := ⟨_, List.getElem?_eq_getElem (by have := hn.out; omega)⟩
      obtain ⟨g, off, s, rfl, hs, q0, q1, q2, q3, q4, q5, q6, q7⟩ := (RV.out _ hJ.fr).item rfl hi
      obtain ⟨sa, sc, rfl, -, -, -⟩ := hs.shape
      obtain ⟨m, hm⟩ : ∃ m, Hid (m = (X.xs ++ zs).length) := ⟨_, Lib.hid rfl⟩
      have hml : m ≤ 9999 := by
        have h1 := hm.out
        have h2 := hJ.len
        rw [List.length_append] at h1
        omega
      have HS := Lib.hid hs
      have hig := HH.out.good i (List.mem_of_getElem? hi)
      have hok := okAll_at _ _ HH.out.ok k2 i hi
      rw [← hJ.last] at hok
      have HSTEP : Hid (∀ W, Below wr.heap.size wr W → Calls Tryz.prog 33 #[.pointer (some ⟨X.h, 0, none⟩), .agg #[.int .i64 ((m : Int) + 1), .float .f64 0, .string ⟨#[]⟩], .agg #[.int .i64 i.op, .string i.path, .string i.to, .int .i64 i.off, .int .i64 i.size, .slice none 0 0, .slice sa i.parts.length sc]] W fun e w' => e = .returned (.int .i64 0) ∧ Hid (∃ pv' sv' zs', HistI w4 w' X.h X.pv X.sv X.xs X.its (k2 + 1) pv' sv' zs') ∧ Hid (Frame (histM X.h pv sv) W w')) := Lib.hid (fun W hW => by
        have := histAdd_any W X.h pv sv (X.xs ++ zs) (HJ.out.hist.below hW) HJ.out.one (by have := hm.out; omega) i hok hig.1 (.slice sa i.parts.length sc) (HS.out.below hW)
        rw [← hm.out] at this
        refine this.mono ?_
        rintro e w' ⟨rfl, hA⟩
        have hJW : HistI w4 W X.h X.pv X.sv X.xs X.its k2 pv sv zs := ⟨HJ.out.hist.below hW, HJ.out.len, HJ.out.st, HJ.out.fr.then_below hW, HJ.out.one, HJ.out.ownp, HJ.out.owns⟩
        refine ⟨rfl, Lib.hid (hJW.step hi hA), ?_⟩
        obtain ⟨pv', sv', y', h1, h2, h3, h4, -⟩ := hA
        exact Lib.hid h4)
      have LP : Hid (∀ W, Below wr.heap.size wr W → Calls Tryz.prog 35 #[.pointer (some ⟨X.h, 0, none⟩)] W fun e w' => e = .returned (.agg #[.int .i64 m, .float .f64 0, .string ⟨#[]⟩]) ∧ Below W.heap.size W w') := Lib.hid (fun W hW => by
        have := lastPt_any W X.h pv sv (X.xs ++ zs) (HJ.out.hist.below hW)
        rw [← hm.out] at this
        exact this)
      have PT : Hid (∀ W, Calls Tryz.prog 34 #[.int .i64 ((m : Int) + 1), .agg #[.float .f64 0, .int .i64 i.op, .string i.path, .string i.to, .int .i64 i.off, .int .i64 i.size, .slice none 0 0, .slice sa i.parts.length sc]] W fun e w' => e = .returned (.agg #[.int .i64 ((m : Int) + 1), .float .f64 0, .string ⟨#[]⟩]) ∧ Below W.heap.size W w') := Lib.hid (fun W => point_any W _ i hig.2 _ ⟨_, _, _, rfl⟩)
      obtain ⟨W1, hW1⟩ : ∃ W1, Hid (W1 = wr.alloc (.cells #[.float .f64 0, .int .i64 i.op, .string i.path, .string i.to, .int .i64 i.off, .int .i64 i.size, .slice none 0 0, .slice sa i.parts.length sc] 86)) := ⟨_, Lib.hid rfl⟩
      have Bx : Hid (Below wr.heap.size wr W1) := Lib.hid (by rw [hW1.out]; exact crc_below _ _)
      have hs1 : W1.heap.size = wr.heap.size + 1 := by rw [hW1.out]; simp
      have hrx : Hid (W1.heap[r]? = _ ∧ W1.heap[wr.heap.size]? = some (.cells #[.float .f64 0, .int .i64 i.op, .string i.path, .string i.to, .int .i64 i.off, .int .i64 i.size, .slice none 0 0, .slice sa i.parts.length sc] 86 (0, 0))) := Lib.hid ⟨Below.heap Bx.out (Nat.le_refl _) hrr, by rw [hW1.out]; exact heap_new _ _⟩
      have K20 : Hid (∀ W : World, Below W1.heap.size W1 W → W.cell? ⟨r, 1, none⟩ = some (.pointer (some ⟨X.h, 0, none⟩)) ∧ W.cell? ⟨wr.heap.size, 0, none⟩ = some (.float .f64 0) ∧ W.cell? ⟨wr.heap.size, 1, none⟩ = some (.int .i64 i.op) ∧ W.cell? ⟨wr.heap.size, 2, none⟩ = some (.string i.path) ∧ W.cell? ⟨wr.heap.size, 3, none⟩ = some (.string i.to) ∧ W.cell? ⟨wr.heap.size, 4, none⟩ = some (.int .i64 i.off) ∧ W.cell? ⟨wr.heap.size, 5, none⟩ = some (.int .i64 i.size) ∧ W.cell? ⟨wr.heap.size, 6, none⟩ = some (.slice none 0 0) ∧ W.cell? ⟨wr.heap.size, 7, none⟩ = some (.slice sa i.parts.length sc)) := Lib.hid (fun W hW => by
        have h1 := Below.heap hW (Nat.le_refl _) hrx.out.1
        have h2 := Below.heap hW (Nat.le_refl _) hrx.out.2
        exact ⟨cellAt h1 1, cellAt h2 0, cellAt h2 1, cellAt h2 2, cellAt h2 3, cellAt h2 4, cellAt h2 5, cellAt h2 6, cellAt h2 7⟩)
      have TY := HJ.out.hist
      have hno : Hid (r ∉ histM X.h pv sv ∧ wr.heap.size ∉ histM X.h pv sv) := Lib.hid ⟨(histM_typed TY).out hrr (by decide), fun h => by have := (histM_typed TY).lt _ h; omega⟩
      have K21 : Hid (∀ W W' : World, Below W1.heap.size W1 W → Frame (histM X.h pv sv) W W' → W'.cell? ⟨r, 1, none⟩ = some (.pointer (some ⟨X.h, 0, none⟩)) ∧ W'.cell? ⟨wr.heap.size, 0, none⟩ = some (.float .f64 0) ∧ W'.cell? ⟨wr.heap.size, 1, none⟩ = some (.int .i64 i.op) ∧ W'.cell? ⟨wr.heap.size, 2, none⟩ = some (.string i.path) ∧ W'.cell? ⟨wr.heap.size, 3, none⟩ = some (.string i.to) ∧ W'.cell? ⟨wr.heap.size, 4, none⟩ = some (.int .i64 i.off) ∧ W'.cell? ⟨wr.heap.size, 5, none⟩ = some (.int .i64 i.size) ∧ W'.cell? ⟨wr.heap.size, 6, none⟩ = some (.slice none 0 0) ∧ W'.cell? ⟨wr.heap.size, 7, none⟩ = some (.slice sa i.parts.length sc)) := Lib.hid (fun W W' hW hf => by
        have h1 := hf.heap (Below.heap hW (Nat.le_refl _) hrx.out.1) hno.out.1
        have h2 := hf.heap (Below.heap hW (Nat.le_refl _) hrx.out.2) hno.out.2
        exact ⟨cellAt h1 1, cellAt h2 0, cellAt h2 1, cellAt h2 2, cellAt h2 3, cellAt h2 4, cellAt h2 5, cellAt h2 6, cellAt h2 7⟩)
      have hfd : ∀ W, (Instr.field 52 (.agg #[.int .i64 m, .float .f64 0, .string ⟨#[]⟩]) 0).run Tryz.prog W = .ok (.int .i64 m) W := fun W => by kernel_rfl
      have hsf := fun (W : World) (p : Addr) => run_store Tryz.prog W p (.float .f64 0) .plain rfl
      have ew : IntKind.i64.wrap ((m : Int) + 1) = (m : Int) + 1 := IntWalk.i64_in _ (by omega)
      have hw1 := hW1.out
      have R1 : Hid (Below W1.heap.size W1 W1.drew) := Lib.hid (Below.refl _ _).drew
      have R1w : Hid (Below wr.heap.size wr W1.drew) := Lib.hid Bx.out.drew
      clear hJ hs hig hok TY hrr hi hs1
      go_upto_region 20 with fail
      rw [← hw1]
      clear hw1 hsf
      go_region_held3 (fun W => W.cell? ⟨r, 1, none⟩ = some (.pointer (some ⟨X.h, 0, none⟩)) ∧ W.cell? ⟨wr.heap.size, 0, none⟩ = some (.float .f64 0) ∧ W.cell? ⟨wr.heap.size, 1, none⟩ = some (.int .i64 i.op) ∧ W.cell? ⟨wr.heap.size, 2, none⟩ = some (.string i.path) ∧ W.cell? ⟨wr.heap.size, 3, none⟩ = some (.string i.to) ∧ W.cell? ⟨wr.heap.size, 4, none⟩ = some (.int .i64 i.off) ∧ W.cell? ⟨wr.heap.size, 5, none⟩ = some (.int .i64 i.size) ∧ W.cell? ⟨wr.heap.size, 6, none⟩ = some (.slice none 0 0) ∧ W.cell? ⟨wr.heap.size, 7, none⟩ = some (.slice sa i.parts.length sc)) (first | exact K20.out _ R1.out | exact K20.out _ H1.out | exact K20.out _ H2.out | exact K21.out _ _ H2.out HF.out) (first | (go_at_call 35; with_reducible refine (LP.out _ R1w.out).mono ?_; rintro e1 w5 ⟨rfl, hq⟩; have H1 : Hid (Below W1.heap.size W1 w5) := Lib.hid (R1.out.trans (hq.mono R1.out.size)); clear hq) | (go_at_call 34; with_reducible refine (PT.out _).mono ?_; rintro e1 w6 ⟨rfl, hq⟩; have H2 : Hid (Below W1.heap.size W1 w6) := Lib.hid (H1.out.trans (hq.mono H1.out.size)); have H2w : Hid (Below wr.heap.size wr w6) := Lib.hid (Bx.out.trans (H2.out.mono Bx.out.size)); clear hq) | (go_at_call 33; with_reducible refine (HSTEP.out _ H2w.out).mono ?_; rintro e1 w7 ⟨rfl, HZ, HF⟩))
      go_wp2_with fail
      go_roundw
      case rel => exact ⟨k2 + 1, by omega, by go_num, HZ⟩
      case measure => simp [intOf]; omega
    · have hk2n : n = k2 := by omega
      subst hk2n
      have z5 := cellAt hrr 5
      have f5 := frozenAt hrr 5
      have HRR := Lib.hid hrr
      clear hJ hrr
      go_wp2_with fail
      rw [hQ.out]
      go_ret
      refine ⟨rfl, ?_⟩
      have hJ2 := HJ.out
      rw [hn.out] at hJ2
      obtain ⟨a1, a2⟩ := commit_close HH.out B2.out HM.out HG.out.cb HI.out.map HI.out.val HI.out.fr hJ2
      have hf := HI.out.few
      have h1 := hNP.out
      have h2 := HT.out
      have h3 := HG.out
      rw [hRc.out] at h3
      exact ⟨x', pv, sv, zs, dn1, df1, T, a1, a2, hJ2.len, fun j z hz => (hJ2.st j z hz).1, by omega, by omega, h3⟩
end Go.Proofs.YtaonlcgneemimaaGreatDoor
namespace Go.Proofs.YtaonlcgneemimaaGreatDoor
open Go.RowKit
/-- A repository of nothing, on a disk. -/
structure NewRep (w : World) (d l cb : Nat) (r : Nat) (X : RepX) (w' : World) : Prop where
  rep : RepAt w' r X
  fr : Frame [d, l, cb] w w'
  xs : X.xs = []
  its : X.its = []
  P : X.P = []
  dn : X.dn = 0
  number : X.x.number = 2
  k : X.x.k = 0
  ssJ : X.x.ssJ = []
  ssC : X.x.ssC = []
  nJ : X.x.nJ = 0
  nC : X.x.nC = 0
  own : ∀ y ∈ X.mu r, y = d ∨ y = l ∨ y = cb ∨ w.heap.size ≤ y
  own1 : ∀ y ∈ X.m1 r, w.heap.size ≤ y
theorem newRep_close {w w1 w2 w3 w5 : World} {d l cb eb : Nat} {x : EngX} {y : StX} (h1 : d ≠ 1 ∧ l ≠ 1 ∧ cb ≠ 1) (hg : 1 < w.heap.size) (F : FormatPost w d l cb eb x w1) (hh : HistAt w2 w1.heap.size (.slice none 0 0) (.slice none 0 0) []) (b2 : Below w1.heap.size w1 w2) (hc : ChunksAt w3 w2.heap.size (w2.heap.size + 2) [] w2.heap.size (w2.heap.size + 1) [] (fun _ => none) 0 0) (b3 : Below w2.heap.size w2 w3)
    (hs : StAt w5 y) (hx : y.x = Abs.new) (hy : ∀ k ∈ y.blocks, w3.heap.size + 1 ≤ k) (b5 : Below (w3.heap.size + 1) (w3.alloc (.map #[] 0)) w5) :
    NewRep w d l cb w5.heap.size ⟨eb, x, w1.heap.size, .slice none 0 0, .slice none 0 0, [], w2.heap.size + 2, [], w2.heap.size, w2.heap.size + 1, [], fun _ => none, 0, 0, w3.heap.size, 0, fun _ => none, .slice none 0 0, [], y⟩
      (w5.alloc (.cells #[.pointer (some ⟨eb, 0, none⟩), .pointer (some ⟨w1.heap.size, 0, none⟩), .pointer (some ⟨w2.heap.size + 2, 0, none⟩), .map (some w3.heap.size), .float .f64 0, .slice none 0 0, .pointer (some ⟨y.s, 0, none⟩)] 77)) := by
  have s1 := F.fr.size
  have s2 := b2.size
  have s3 := b3.size
  have sh := heap_lt hh.cell
  have sc := heap_lt hc.cell
  have s5 : w3.heap.size + 1 ≤ w5.heap.size := by have := b5.size; simpa using this
  have b4 : Below w3.heap.size w3 (w3.alloc (.map #[] 0)) := crc_below _ _
  have b35 : Below w3.heap.size w3 w5 := b4.trans (b5.mono (by omega))
  have b6 : Below w5.heap.size w5 (w5.alloc (.cells #[.pointer (some ⟨eb, 0, none⟩), .pointer (some ⟨w1.heap.size, 0, none⟩), .pointer (some ⟨w2.heap.size + 2, 0, none⟩), .map (some w3.heap.size), .float .f64 0, .slice none 0 0, .pointer (some ⟨y.s, 0, none⟩)] 77)) := crc_below _ _
  have b36 : Below w3.heap.size w3 _ := b35.trans (b6.mono b35.size)
  have b26 : Below w2.heap.size w2 _ := b3.trans (b36.mono b3.size)
  have b16 : Below w1.heap.size w1 _ := b2.trans (b26.mono b2.size)
  have LE := F.eng.typed.lt
  have hyl := hs.lt
  have hmu : ∀ k, k ∈ RepX.mu ⟨eb, x, w1.heap.size, .slice none 0 0, .slice none 0 0, [], w2.heap.size + 2, [], w2.heap.size, w2.heap.size + 1, [], fun _ => none, 0, 0, w3.heap.size, 0, fun _ => none, .slice none 0 0, [], y⟩ w5.heap.size → k = w5.heap.size ∨ k = w3.heap.size ∨ (k ∈ x.mut eb ∧ k < w1.heap.size) ∨ k = w1.heap.size := by
    intro k hk
    simp only [RepX.mu, histM, Value.ownBlock, List.mem_cons, List.mem_append, Option.toList_none, List.not_mem_nil, or_false] at hk
    rcases hk with h | h | h | h
    · exact .inl h
    · exact .inr (.inl h)
    · exact .inr (.inr (.inl ⟨h, LE k h⟩))
    · exact .inr (.inr (.inr h))
  have hmut : ∀ k ∈ x.mut eb, k ≠ 1 := fun k hk h => by
    rcases F.own k hk with h2 | h2 | h2 | h2
    · exact h1.1 (h2 ▸ h)
    · exact h1.2.1 (h2 ▸ h)
    · exact h1.2.2 (h2 ▸ h)
    · omega
  have hm1 : ∀ k, k ∈ RepX.m1 ⟨eb, x, w1.heap.size, .slice none 0 0, .slice none 0 0, [], w2.heap.size + 2, [], w2.heap.size, w2.heap.size + 1, [], fun _ => none, 0, 0, w3.heap.size, 0, fun _ => none, .slice none 0 0, [], y⟩ w5.heap.size → k = w5.heap.size ∨ k ∈ y.blocks := by
    intro k hk
    simp only [RepX.m1, StX.blocks, List.mem_cons, List.not_mem_nil, or_false] at hk ⊢
    rcases hk with h | h | h | h
    · exact .inl h
    · exact .inr (.inr (.inl h))
    · exact .inr (.inr (.inr (.inl h)))
    · exact .inr (.inr (.inr (.inr h)))
  refine ⟨⟨heap_new _ _, F.eng.below b16, hh.below b26, (hc.below b36).weak (Nat.zero_le _), ?_, fun id v h => by simp at h, ⟨[], rfl, Sl.nil _ _ _, fun j s i h => by simp at h⟩, hs.below b6, hx, trivial, fun i hi => by simp at hi, ⟨fun h => ?_, fun h => ?_⟩, fun k hk h => ?_, fun z hz => by simp at hz, ⟨fun h => ?_, fun h => ?_⟩, fun k v g hv => by simp at hv, fun h => ?_⟩, F.fr.then_below b16, rfl, rfl, rfl, rfl, F.number, F.k, F.ssJ, F.ssC, F.nJ, F.nC, fun k hk => ?_, fun k hk => ?_⟩
  · have hm : MapX KI (w3.alloc (.map #[] 0)) w3.heap.size 0 (fun _ => none) := MapX.made KI w3
    have hm5 : MapX KI w5 w3.heap.size 0 (fun _ => none) := hm.same (b5.block _ (by omega))
    exact hm5.same (b6.block _ (by omega))
  · rcases hmu 1 h with h | h | ⟨h, -⟩ | h
    · omega
    · omega
    · exact hmut 1 h rfl
    · omega
  · rcases hm1 1 h with h | h
    · omega
    · have := hy 1 h
      omega
  · have h2 := hy k hk
    have h3 := hyl k hk
    rcases hmu k h with h | h | ⟨-, h⟩ | h <;> omega
  · rcases hmu _ h with h | h | ⟨-, h⟩ | h <;> simp only at h <;> omega
  · rcases hmu _ h with h | h | ⟨-, h⟩ | h <;> simp only at h <;> omega
  · have := LE _ h
    simp only at this
    omega
  · rcases hmu k hk with h | h | ⟨h, -⟩ | h
    · exact .inr (.inr (.inr (by omega)))
    · exact .inr (.inr (.inr (by omega)))
    · exact F.own k h
    · exact .inr (.inr (.inr (by omega)))
  · rcases hm1 k hk with h | h
    · omega
    · have := hy k h
      omega
set_option maxRecDepth 100000 in
set_option maxHeartbeats 2000000 in
theorem repFormat_any (w : World) (d l cb k : Nat) (HD : DiskAt w d l cb 776 k) (hk : k ≤ 900000) (h1 : d ≠ 1 ∧ l ≠ 1 ∧ cb ≠ 1) (hg : ∃ m, w.cell? ⟨1, 0, none⟩ = some (.int .i64 m)) :
    Calls Tryz.prog 8 #[.pointer (some ⟨d, 0, none⟩)] w fun e w' => ∃ r X, e = .returned (.tuple #[.pointer (some ⟨r, 0, none⟩), .int .i64 0]) ∧ NewRep w d l cb r X w' := by
  have FM := Lib.hid (format_any w d l cb k HD hk)
  have h1lt : 1 < w.heap.size := by
    obtain ⟨m, hm1⟩ := hg
    exact World.block_lt_of_cell? w ⟨1, 0, none⟩ hm1
  have FM2 : Hid (Calls Tryz.prog 19 #[.pointer (some ⟨d, 0, none⟩)] w fun e w' => ∃ (eb : Nat) (x : EngX), e = .returned (.tuple #[.pointer (some ⟨eb, 0, none⟩), .int .i64 0]) ∧ Hid (FormatPost w d l cb eb x w') ∧ Hid (∃ m, w'.cell? ⟨1, 0, none⟩ = some (.int .i64 m))) := Lib.hid (by
    refine FM.out.mono ?_
    rintro e w' ⟨eb, x, rfl, hp⟩
    refine ⟨eb, x, rfl, Lib.hid hp, Lib.hid ?_⟩
    obtain ⟨m, hm1⟩ := hg
    exact ⟨m, (hp.fr.cell (p := ⟨1, 0, none⟩) h1lt (by simp only [List.mem_cons, List.not_mem_nil, or_false]; omega)).trans hm1⟩)
  have GB : Hid (∀ (W W' : World), Hid (∃ m, W.cell? ⟨1, 0, none⟩ = some (.int .i64 m)) → Below W.heap.size W W' → Hid (∃ m, W'.cell? ⟨1, 0, none⟩ = some (.int .i64 m))) := Lib.hid (fun W W' hW hb => Lib.hid (by
    obtain ⟨m, hm1⟩ := hW.out
    exact ⟨m, (hb.cell (p := ⟨1, 0, none⟩) (World.block_lt_of_cell? W ⟨1, 0, none⟩ hm1)).trans hm1⟩))
  have hmk := fun t w => run_makeMap (P := Tryz.prog) t w
  clear HD FM hg
  go_enter Tryz.func8, Tryz.ntmps8
  go_wp2_with (first | (go_at_call 19; with_reducible refine FM2.out.mono ?_; rintro e1 w1 ⟨eb, x, rfl, F1, G1⟩) | (go_at_call 20; with_reducible refine (newHist_any w1 G1.out).mono ?_; rintro e1 w2 ⟨rfl, hh, hq⟩; have H2 := Lib.hid hh; have B2 := Lib.hid hq; have G2 := GB.out _ _ G1 hq; clear hh hq) | (go_at_call 21; with_reducible refine (newChunks_any w2).mono ?_; rintro e1 w3 ⟨rfl, hc, hq⟩; have C3 := Lib.hid hc; have B3 := Lib.hid hq; have G3 := GB.out _ _ G2 hq; have G4 := GB.out _ (w3.alloc (.map #[] 0)) G3 (crc_below _ _); clear hc hq) | (go_at_call 22; with_reducible refine (newS_any (w3.alloc (.map #[] 0)) G4.out).mono ?_; rintro e1 w5 ⟨y, rfl, hs, hx, hy, hq⟩; have S5 := Lib.hid hs; have X5 := Lib.hid hx; have Y5 := Lib.hid hy; have B5 := Lib.hid hq; clear hs hx hy hq))
  have e4 : (w3.alloc (.map #[] 0)).heap.size = w3.heap.size + 1 := by simp
  refine bodyPost_ret (v := .tuple #[.pointer (some ⟨w5.heap.size, 0, none⟩), .int .i64 0]) (by simp [results, Tryz.results8, go_sem]) rfl ?_
  exact ⟨_, _, rfl, newRep_close h1 h1lt F1.out H2.out B2.out C3.out B3.out S5.out X5.out (fun k hk => by rw [← e4]; exact Y5.out k hk) (e4 ▸ B5.out)⟩
end Go.Proofs.YtaonlcgneemimaaGreatDoor
