/- TopNames: the contracts of X1, X2, X3, X4; no condition. -/
import Derived.Test.YtaonlcgneemimaaGreatDoorJ15
import Derived.Sort.MapsRangeIn
import Derived.Maps.OwnSet
import Derived.Test.YtaonlcgneemimaaGreatDoorJ12
namespace Go.Proofs.YtaonlcgneemimaaGreatDoor
open Go.RowKit
theorem KS_inv : KeyInv KS := fun key kl h => by
  obtain ⟨x, rfl⟩ := Maps.keyOf_string_inv Tryz.underlying9 h
  simp [keyOf, Tryz.underlying9, mapKey] at h
  exact ⟨x, h.1, rfl, h.2.symm⟩
theorem fp_no_prefix (c d : Fin 26) : Lib.hasPrefix (fp d.1).data.toList (fp c.1 ++ ⟨#[47]⟩).data.toList = false := by
  revert c d
  decide
set_option maxRecDepth 100000 in
set_option maxHeartbeats 2000000 in
/-- Nothing lies under a file. -/
theorem treeUnder_any (w : World) (a b nf : Nat) (T : ByteArray → Option Int) (next : Int) (H : TreeAt w a b nf T next) (c : Fin 26) :
    Calls Tryz.prog 99 #[.pointer (some ⟨a, 0, none⟩), .string (fp c.1)] w fun e w' => e = .returned (.slice none 0 0) ∧ Below w.heap.size w w' := by
  have HH := Lib.hid H
  have HM := Lib.hid H.map
  have c0 := cellAt H.cell 0
  simp only [List.getElem?_toArray, List.getElem?_cons_zero, List.getElem?_cons_succ] at c0
  have HP : Hid (∀ d : Fin 26, ∀ W, Calls Tryz.prog 141 #[.string (fp d.1), .string (fp c.1 ++ ⟨#[47]⟩)] W fun e w' => e = .returned (.bool false) ∧ w' = W) := Lib.hid (fun d W => by
    refine (Tryz.strings_HasPrefix _ _ _).mono ?_
    rintro e w' ⟨rfl, rfl⟩
    rw [fp_no_prefix]
    exact ⟨rfl, rfl⟩)
  obtain ⟨s, hs⟩ : ∃ s, Hid (s = fp c.1) := ⟨_, rfl⟩
  have hss : ¬ (9223372036854775807 < s.size + 1) := by rw [hs.out, fp_size]; decide
  rw [← hs.out] at HP ⊢
  clear H
  go_enter Tryz.func99, Tryz.ntmps99
  go_wp2_with (first | (at_range; refine wpx_range _ rfl _ 166 rfl KS 168 Tryz.underlying166 b nf (tmap T) rfl HM.out ?_; intro w0 hrg0 hg0 hs0; have HR0 := Lib.hid hrg0; have HG0 := Lib.hid hg0; clear hrg0 hg0) | go_in)
  go_frame
  go_loopw [5, 7] (fun t5 _ wr => ∃ left cnt, RangeX KS wr b w.heap.size nf (tmap T) left cnt ∧ t5 = .slice none 0 0 ∧ Hid (Below w.heap.size w wr)) (fun _ _ wr => wr.rangeLeft b w.heap.size)
  case atStart =>
    refine ⟨_, _, HR0.out, rfl, Lib.hid ⟨HG0.out.os, HG0.out.tape, HG0.out.output, HG0.out.size, fun k hk => HG0.out.block k hk (by simp)⟩⟩
  case round =>
    obtain ⟨left, cnt, hrg, rfl, hbel⟩ := hrel
    have HRG := Lib.hid hrg
    clear hrg
    go_wp2_with (first | (at_next; refine wpx_next _ rfl _ rfl KS KS_inv b w.heap.size nf (tmap T) left cnt rfl HRG.out ?_ ?_) | go_in)
    · intro h0 hl0
      clear hl0
      go_wp2
      go_ret
      exact ⟨rfl, hbel.out⟩
    · intro x v w1 cnt1 hx hlx hfx hrg1 hlt1 hg1 hsz1 hen
      obtain ⟨id, hT, rfl⟩ : ∃ id, T x = some id ∧ v = .agg #[.string x, .int .i64 id, .bool false] := by
        unfold tmap at hfx
        cases hT : T x with
        | none => rw [hT] at hfx; simp at hfx
        | some id => rw [hT] at hfx; simp at hfx; exact ⟨id, rfl, hfx.symm⟩
      obtain ⟨d, rfl⟩ := HH.out.flat _ _ hT
      have HPd := Lib.hid (HP.out d)
      obtain ⟨y, hy⟩ : ∃ y, Hid (y = fp d.1) := ⟨_, rfl⟩
      have HRG1 := Lib.hid hrg1
      have HLT1 := Lib.hid hlt1
      have hb1 : Hid (Below w.heap.size w w1) := Lib.hid (hbel.out.grown hg1 hbel.out.size (fun k hk => by cases hk; exact Nat.le_refl _))
      rw [← hy.out] at HPd hen ⊢
      have hen2 : (Instr.entry (.pointer (some ⟨w.heap.size, 0, none⟩))).run Tryz.prog w1 = .ok (.tuple #[.string y, .agg #[.string y, .int .i64 id, .bool false]]) w1 := hen
      clear hx hlx hfx hrg1 hlt1 hg1 hT hen
      go_wp2_with (go_at_call 141; with_reducible refine (HPd.out _).mono ?_; rintro e1 w2 ⟨rfl, hw⟩; have hw := hw.symm; subst hw)
      go_roundw
      case rel =>
        refine ⟨_, cnt1, HRG1.out.kept ?_ ?_, rfl, hb1.out.alloc hb1.out.size _⟩
        · exact Below.heap_alloc _ _ _ HRG1.out.map.lt
        · exact Below.heap_alloc _ _ _ HRG1.out.lt
      case measure =>
        rw [HRG.out.left_eq, (HRG1.out.kept (w' := w1.alloc (.cells #[.string y, .int .i64 id, .bool false] 168)) (Below.heap_alloc _ _ _ HRG1.out.map.lt) (Below.heap_alloc _ _ _ HRG1.out.lt)).left_eq]
        exact HLT1.out
set_option maxRecDepth 100000 in
set_option maxHeartbeats 2000000 in
theorem treeDeep_any (w : World) (a b nf : Nat) (T : ByteArray → Option Int) (next : Int) (H : TreeAt w a b nf T next) (c d : Fin 26) :
    Calls Tryz.prog 98 #[.pointer (some ⟨a, 0, none⟩), .string (fp c.1), .string (fp d.1)] w fun e w' => e = .returned (.bool false) ∧ Below w.heap.size w w' := by
  have U := Lib.hid (treeUnder_any w a b nf T next H c)
  obtain ⟨s, hs⟩ : ∃ s, Hid (s = fp c.1) := ⟨_, rfl⟩
  obtain ⟨t, ht⟩ : ∃ s, Hid (s = fp d.1) := ⟨_, rfl⟩
  rw [← hs.out] at U
  rw [← hs.out, ← ht.out]
  clear H
  go_enter Tryz.func98, Tryz.ntmps98
  go_wp2_with (go_at_call 99; with_reducible refine U.out.mono ?_; rintro e1 w1 ⟨rfl, hq⟩; have Q1 := Lib.hid hq; clear hq)
  go_loopw [8, 9, 10, 15] (fun _ _ _ ti wr => ti = .int .i64 0 ∧ Hid (Below w.heap.size w wr)) (fun _ _ _ _ _ => 0)
  case atStart => exact ⟨rfl, Q1⟩
  case round =>
    obtain ⟨rfl, hb⟩ := hrel
    go_wp2
    go_ret
    exact ⟨rfl, hb.out⟩
theorem under_fp (c d : Fin 26) : underP (fp d.1) (fp c.1) = false := by
  unfold underP
  rw [split_fp, split_fp]
  rfl
theorem fp_lbeq : ∀ c d : Fin 26, ((fp c.1).toList == (fp d.1).toList) = decide (c = d) := by
  intro c d
  rw [Lib.toList_data, Lib.toList_data]
  revert c d
  decide
theorem root_nep (c : Fin 26) : ¬ (fp c.1).toList = [47] := fun h => by
  have := root_ne c
  rw [h] at this
  cases this
/-- The node that lies at a path, or none. -/
def nodeV (T : ByteArray → Option Int) (s : ByteArray) : Value := ((tmap T) s).getD (.agg #[.string ⟨#[]⟩, .int .i64 0, .bool false])
set_option maxRecDepth 100000 in
set_option maxHeartbeats 4000000 in
theorem canRename_any (w : World) (a b nf : Nat) (T : ByteArray → Option Int) (next : Int) (H : TreeAt w a b nf T next) (c d : Fin 26) (id : Int) (hT : T (fp c.1) = some id) :
    Calls Tryz.prog 52 #[.pointer (some ⟨a, 0, none⟩), .string (fp c.1), .string (fp d.1)] w fun e w' => e = .returned (.int .i64 0) ∧ Below w.heap.size w w' := by
  obtain ⟨m, hm⟩ := H.glob
  have h1 : 1 < w.heap.size := World.block_lt_of_cell? w ⟨1, 0, none⟩ hm
  have GM : Hid (∀ W, Below w.heap.size w W → W.cell? ⟨1, 0, none⟩ = some (.int .i64 m)) := Lib.hid (fun W hW => (hW.cell (p := ⟨1, 0, none⟩) h1).trans hm)
  have HH := Lib.hid H
  have SC : Hid (∀ W, Below w.heap.size w W → Calls Tryz.prog 96 #[.string (fp c.1)] W fun e w' => ∃ g, e = .returned (.tuple #[.slice (some ⟨g, 0, none⟩) 1 1, .int .i64 0]) ∧ Below W.heap.size W w') := Lib.hid (fun W hW => by
    refine (split_row (fp c.1) (by rw [fp_size]; decide) m W (GM.out W hW) [fnm c.1] (split_fp c) (by simp)).mono ?_
    rintro e w' ⟨g, rfl, -, hq⟩
    exact ⟨g, rfl, hq⟩)
  have SD : Hid (∀ W, Below w.heap.size w W → Calls Tryz.prog 96 #[.string (fp d.1)] W fun e w' => ∃ g, e = .returned (.tuple #[.slice (some ⟨g, 0, none⟩) 1 1, .int .i64 0]) ∧ Below W.heap.size W w') := Lib.hid (fun W hW => by
    refine (split_row (fp d.1) (by rw [fp_size]; decide) m W (GM.out W hW) [fnm d.1] (split_fp d) (by simp)).mono ?_
    rintro e w' ⟨g, rfl, -, hq⟩
    exact ⟨g, rfl, hq⟩)
  have LK : Hid (∀ W, Below w.heap.size w W → Calls Tryz.prog 87 #[.pointer (some ⟨a, 0, none⟩), .string (fp c.1)] W fun e w' => e = .returned (.tuple #[.int .i64 id, .bool false, .int .i64 0]) ∧ Below W.heap.size W w') := Lib.hid (fun W hW => look_hit W a b nf T next (HH.out.below hW) c id hT)
  have UN : Hid (∀ W, Below w.heap.size w W → Calls Tryz.prog 97 #[.string (fp d.1), .string (fp c.1)] W fun e w' => e = .returned (.bool false) ∧ Below W.heap.size W w') := Lib.hid (fun W hW => by
    have := under_any (fp d.1) (fp c.1) (by rw [fp_size]; decide) (by rw [fp_size]; decide) m W (by have := hW.size; omega) (GM.out W hW)
    rw [under_fp] at this
    exact this)
  have PA : Hid (∀ W, Below w.heap.size w W → Calls Tryz.prog 95 #[.pointer (some ⟨a, 0, none⟩), .string (fp d.1)] W fun e w' => e = .returned (.int .i64 0) ∧ Below W.heap.size W w') := Lib.hid (fun W hW => parent_any W a b nf T next (HH.out.below hW) d)
  have DP : Hid (∀ W, Below w.heap.size w W → Calls Tryz.prog 98 #[.pointer (some ⟨a, 0, none⟩), .string (fp c.1), .string (fp d.1)] W fun e w' => e = .returned (.bool false) ∧ Below W.heap.size W w') := Lib.hid (fun W hW => treeDeep_any W a b nf T next (HH.out.below hW) c d)
  have hnc := root_ne c
  have hnd := root_ne d
  have hnd2 := root_nep d
  have hcd := fp_lbeq c d
  obtain ⟨s, hs⟩ : ∃ s, Hid (s = fp c.1) := ⟨_, rfl⟩
  obtain ⟨t, ht⟩ : ∃ s, Hid (s = fp d.1) := ⟨_, rfl⟩
  obtain ⟨ns, ni, hnv⟩ : ∃ ns ni, Hid ((tmap T (fp d.1)).getD (.agg #[.string ⟨#[]⟩, .int .i64 0, .bool false]) = .agg #[.string ns, .int .i64 ni, .bool false]) := by
    unfold tmap
    cases T (fp d.1) with
    | none => exact ⟨_, _, Lib.hid rfl⟩
    | some i => exact ⟨_, _, Lib.hid rfl⟩
  have LU : Hid (∀ W, Below w.heap.size w W → W.cell? ⟨a, 0, none⟩ = some (.map (some b)) ∧ (Instr.lookup 166 (.map (some b)) (.string (fp d.1)) true).run Tryz.prog W = .ok (.tuple #[.agg #[.string ns, .int .i64 ni, .bool false], .bool (T (fp d.1)).isSome]) W) := Lib.hid (fun W hW => by
    refine ⟨cellAt (HH.out.below hW).cell 0, ?_⟩
    have h := ((HH.out.below hW).map.look Tryz.underlying166 (zero168 W) (x := fp d.1) (KS_good d.1)).1
    rw [hnv.out, show (tmap T (fp d.1)).isSome = (T (fp d.1)).isSome by unfold tmap; cases T (fp d.1) <;> rfl] at h
    exact h)
  obtain ⟨ok, hok⟩ : ∃ ok, Hid (ok = (T (fp d.1)).isSome) := ⟨_, rfl⟩
  rw [← hok.out] at LU
  rw [← hs.out] at SC LK UN DP hnc hcd
  rw [← ht.out] at SD UN PA DP hnd hnd2 hcd LU
  rw [← hs.out, ← ht.out]
  clear H hm hT hnv
  by_cases hcd2 : c = d
  all_goals (first | (have hst : (s.toList == t.toList) = true := by rw [hcd]; simpa using hcd2) | (have hst : (s.toList == t.toList) = false := by rw [hcd]; simpa using hcd2))
  all_goals clear hcd hcd2
  all_goals cases ok
  all_goals go_enter Tryz.func52, Tryz.ntmps52
  all_goals go_wp2_with (first | (go_at_call 96; with_reducible refine (SC.out w (Below.refl _ _)).mono ?_; rintro e1 w1 ⟨g1, rfl, hq⟩; have Q1 := Lib.hid hq; clear hq) | (go_at_call 96; with_reducible refine (SD.out w1 Q1.out).mono ?_; rintro e1 w2 ⟨g2, rfl, hq⟩; have Q2 := Lib.hid (Q1.out.trans (hq.mono Q1.out.size)); clear hq) | (go_at_call 87; with_reducible refine (LK.out w2 Q2.out).mono ?_; rintro e1 w3 ⟨rfl, hq⟩; have Q3 := Lib.hid (Q2.out.trans (hq.mono Q2.out.size)); clear hq) | (go_at_call 97; with_reducible refine (UN.out w3 Q3.out).mono ?_; rintro e1 w4 ⟨rfl, hq⟩; have Q4 := Lib.hid (Q3.out.trans (hq.mono Q3.out.size)); clear hq) | (go_at_call 95; with_reducible refine (PA.out w4 Q4.out).mono ?_; rintro e1 w5 ⟨rfl, hq⟩; have Q5 := Lib.hid (Q4.out.trans (hq.mono Q4.out.size)); have hlu := LU.out w5 Q5.out; obtain ⟨hl1, hl2⟩ := hlu; have Q6 := Lib.hid (fun o => Q5.out.alloc Q5.out.size o); clear hq) | (go_at_call 98; with_reducible refine (DP.out _ (Q6.out _)).mono ?_; rintro e1 w6 ⟨rfl, hq⟩; have Q7 := Lib.hid ((Q6.out _).trans (hq.mono (Q6.out _).size)); clear hq))
  all_goals go_ret
  all_goals first | exact ⟨rfl, Q7.out⟩ | exact ⟨rfl, Q6.out _⟩
end Go.Proofs.YtaonlcgneemimaaGreatDoor
namespace Go.Proofs.YtaonlcgneemimaaGreatDoor
open Go.RowKit
set_option maxRecDepth 100000 in
set_option maxHeartbeats 2000000 in
theorem canDrop_any (w : World) (a b nf : Nat) (T : ByteArray → Option Int) (next : Int) (H : TreeAt w a b nf T next) (c : Fin 26) (id : Int) (hT : T (fp c.1) = some id) :
    Calls Tryz.prog 53 #[.pointer (some ⟨a, 0, none⟩), .string (fp c.1), .bool false] w fun e w' => e = .returned (.int .i64 0) ∧ Below w.heap.size w w' := by
  have HH := Lib.hid H
  have LK : Hid (∀ W, Below w.heap.size w W → Calls Tryz.prog 87 #[.pointer (some ⟨a, 0, none⟩), .string (fp c.1)] W fun e w' => e = .returned (.tuple #[.int .i64 id, .bool false, .int .i64 0]) ∧ Below W.heap.size W w') := Lib.hid (fun W hW => look_hit W a b nf T next (HH.out.below hW) c id hT)
  have UN : Hid (∀ W, Below w.heap.size w W → Calls Tryz.prog 99 #[.pointer (some ⟨a, 0, none⟩), .string (fp c.1)] W fun e w' => e = .returned (.slice none 0 0) ∧ Below W.heap.size W w') := Lib.hid (fun W hW => treeUnder_any W a b nf T next (HH.out.below hW) c)
  have hnc := root_ne c
  have hnp := root_nep c
  obtain ⟨s, hs⟩ : ∃ s, Hid (s = fp c.1) := ⟨_, rfl⟩
  rw [← hs.out] at LK UN hnc hnp ⊢
  clear H hT
  go_enter Tryz.func53, Tryz.ntmps53
  go_wp2_with (first | (go_at_call 87; with_reducible refine (LK.out w (Below.refl _ _)).mono ?_; rintro e1 w3 ⟨rfl, hq⟩; have Q3 := Lib.hid hq; clear hq) | (go_at_call 99; with_reducible refine (UN.out w3 Q3.out).mono ?_; rintro e1 w4 ⟨rfl, hq⟩; have Q4 := Lib.hid (Q3.out.trans (hq.mono Q3.out.size)); clear hq))
  go_ret
  exact ⟨rfl, Q4.out⟩
set_option maxRecDepth 100000 in
set_option maxHeartbeats 2000000 in
theorem drop_any (w : World) (a b nf : Nat) (T : ByteArray → Option Int) (next : Int) (H : TreeAt w a b nf T next) (c : Fin 26) (id : Int) (hT : T (fp c.1) = some id) :
    Calls Tryz.prog 66 #[.pointer (some ⟨a, 0, none⟩), .string (fp c.1), .bool false] w fun e w' => e = .returned (.tuple #[.int .i64 id, .int .i64 0]) ∧ TreeAt w' a b (nf - 1) (tset T (fp c.1) none) next ∧ Frame [b] w w' := by
  have HH := Lib.hid H
  have CD := Lib.hid (canDrop_any w a b nf T next H c id hT)
  have hab : a ≠ b := fun e => H.map.cells (e ▸ H.cell)
  have h1 := H.ne1
  have hg := KS_good c.1
  have hTm : tmap T (fp c.1) = some (.agg #[.string (fp c.1), .int .i64 id, .bool false]) := by unfold tmap; rw [hT]; rfl
  have hflat : ∀ y i, tset T (fp c.1) none y = some i → ∃ d : Fin 26, y = fp d.1 := fun y i hy => by
    unfold tset at hy
    by_cases h : y = fp c.1
    · exact ⟨c, h⟩
    · rw [if_neg h] at hy; exact H.flat y i hy
  have LU : Hid (∀ W, Below w.heap.size w W → W.cell? ⟨a, 0, none⟩ = some (.map (some b)) ∧ (Instr.lookup 166 (.map (some b)) (.string (fp c.1)) false).run Tryz.prog W = .ok (.agg #[.string (fp c.1), .int .i64 id, .bool false]) W) := Lib.hid (fun W hW => by
    refine ⟨cellAt (HH.out.below hW).cell 0, ?_⟩
    have h := ((HH.out.below hW).map.look Tryz.underlying166 (zero168 W) (x := fp c.1) (KS_good c.1)).2
    rw [hTm] at h
    exact h)
  obtain ⟨s, hs⟩ : ∃ s, Hid (s = fp c.1) := ⟨_, rfl⟩
  rw [← hs.out] at CD hg hTm hflat LU ⊢
  have hfd : ∀ w, (Instr.field 168 (.agg #[.string s, .int .i64 id, .bool false]) 1).run Tryz.prog w = .ok (.int .i64 id) w := fun _ => by kernel_rfl
  have HGS := Lib.hid hg
  have HTM := Lib.hid hTm
  have HFL := Lib.hid hflat
  clear H hT hg hTm hflat
  go_enter Tryz.func66, Tryz.ntmps66
  go_wp2_with (first | (go_at_call 53; with_reducible refine CD.out.mono ?_; rintro e1 w1 ⟨rfl, hq⟩; have Q1 := Lib.hid hq; have hlu := LU.out w1 hq; obtain ⟨l1, l2⟩ := hlu; clear hq) | (at_delete; refine wpx_drop _ rfl _ _ 166 9 rfl KS 168 Tryz.underlying166 b nf (tmap T) rfl (keep_map HH.out.map Q1.out) s HGS.out rfl ?_; intro w2 hm2 ht2; have HM2 := Lib.hid hm2; have HT2 := Lib.hid ht2; clear hm2 ht2))
  go_ret2
  have hFr : Frame [b] w w2 := (Frame.of_below Q1.out [b]).turned HT2.out (.inl (by simp))
  refine ⟨rfl, ⟨turned_keep HT2.out (HH.out.below Q1.out).cell hab, ?_, ?_, HFL.out⟩, hFr⟩
  · have h := HM2.out
    rw [HTM.out] at h
    simp only [Option.isSome_some, if_true] at h
    rw [tmap_drop] at h
    exact h
  · obtain ⟨m, hm⟩ := HH.out.glob
    have hl := World.block_lt_of_cell? w _ hm
    exact ⟨m, by rw [World.cell?_of_block (w := w) (hFr.block 1 hl (by simpa using h1.2))]; exact hm⟩
end Go.Proofs.YtaonlcgneemimaaGreatDoor
namespace Go.Proofs.YtaonlcgneemimaaGreatDoor
open Go.RowKit
theorem info168 : (Tryz.prog.info? 168).map (fun i => (i.zero, i.size, i.bytes)) = some (some (.agg #[.string ⟨#[]⟩, .int .i64 0, .bool false]), 3, 32) := by kernel_rfl
theorem fp_moved : ∀ c d : Fin 26, fp d.1 ++ (fp c.1).extract 2 2 = fp d.1 := by decide
theorem step_drop {P : Program} {ops : Array Oper} {o : Oper} {a : Act} {w : World} {K : Act → World → Prop} {Q : Exit → Act → World → Prop} {E : Prop} (hgd : o.guard = none) (m x : Operand) (t k : TypeId)
    (ho : o.op = .call { callee := .builtin .delete, args := #[m, x], argTypes := #[t, k] }) (v1 v2 : Value) (h1 : a.eval m = v1) (h2 : a.eval x = v2) (w' : World) (hrun : ∀ ty, (Builtin.delete_ #[t, k] ty #[v1, v2]).run P w = .ok (.tuple #[]) w') (h : K (a.put o.dst (.tuple #[])) w') :
    if Region.wanted o (yielded ops a.tmps) = true then Oper.wp P o a w K Q else E := by
  subst h1
  subst h2
  have hw : Region.wanted o (yielded ops a.tmps) = true := by simp [Region.wanted, hgd]
  rw [if_pos hw]
  unfold Oper.wp execOp
  simp only [ho, resolve, invoke, builtin, Sem.run_bind, Sem.run_pure, Result.andThen_ok, List.map_toArray, List.map_cons, List.map_nil, hrun]
  exact h
theorem MapX.drop' {α : Type} {P : Program} {k t e : TypeId} [DecidableEq α] {K : KeyKind P k α} {w : World} {b n : Nat} {f : α → Option Value} (h : MapX K w b n f) (ht : P.underlying t = some (.map k e)) {x : α} (hx : K.good x) :
    ∃ w', (∀ ty, (Builtin.delete_ #[t, k] ty #[.map (some b), K.enc x]).run P w = .ok (.tuple #[]) w') ∧ MapX K w' b (if (f x).isSome then n - 1 else n) (fput f x none) ∧ w.mapTurned w' b := by
  obtain ⟨w', hrun, h1, h2⟩ := h.drop ht hx 0
  exact ⟨w', fun ty => hrun, h1, h2⟩
/-- Where the nodes to be moved lie: one. -/
def OneN (w wc : World) (q : Nat) (s : ByteArray) (id : Int) : Prop :=
  Below w.heap.size w wc ∧ w.heap.size ≤ q ∧ wc.cell? ⟨q, 0, none⟩ = some (.string s) ∧ wc.cell? ⟨q, 1, none⟩ = some (.int .i64 id) ∧ wc.cell? ⟨q, 2, none⟩ = some (.bool false)
theorem oneN_of {w w1 w2 : World} {s : ByteArray} {id : Int} {v : Value} (h1 : Below w.heap.size w w1) (ho : w2.ownsRow w.heap.size 168 3 v 1 [.string s, .int .i64 id, .bool false]) (hg : w1.grownBy w2 none) : ∃ q cap, v = .slice (some ⟨q, 0, none⟩) 1 cap ∧ OneN w w2 q s id := by
  obtain ⟨-, h⟩ := ho
  rcases h with ⟨-, h⟩ | ⟨g, cap, cur, rfl, hb, hh, -, -, -, ht⟩
  · cases h
  · refine ⟨g, cap, rfl, h1.grown hg h1.size (fun k hk => by cases hk), hb, ?_, ?_, ?_⟩
    all_goals
      rw [cellAt hh, ← Array.getElem?_toList]
      first
      | (have := congrArg (·[0]?) ht; simpa [List.getElem?_take] using this)
      | (have := congrArg (·[1]?) ht; simpa [List.getElem?_take] using this)
      | (have := congrArg (·[2]?) ht; simpa [List.getElem?_take] using this)
set_option maxRecDepth 100000 in
set_option maxHeartbeats 2000000 in
theorem rename_any (w : World) (a b nf : Nat) (T : ByteArray → Option Int) (next : Int) (H : TreeAt w a b nf T next) (c d : Fin 26) (hcd : c ≠ d) (id : Int) (hT : T (fp c.1) = some id) (hTd : T (fp d.1) = none) (hnf : nf ≤ 64) :
    Calls Tryz.prog 65 #[.pointer (some ⟨a, 0, none⟩), .string (fp c.1), .string (fp d.1)] w fun e w' => e = .returned (.tuple #[.int .i64 (-1), .int .i64 0]) ∧ TreeAt w' a b (nf - 1 + 1) (tset (tset T (fp c.1) none) (fp d.1) (some id)) next ∧ Frame [b] w w' := by
  have HH := Lib.hid H
  have CD := Lib.hid (canRename_any w a b nf T next H c d id hT)
  have hab : a ≠ b := fun e => H.map.cells (e ▸ H.cell)
  have h1 := H.ne1
  have hgc := KS_good c.1
  have hgd := KS_good d.1
  have hTm : tmap T (fp c.1) = some (.agg #[.string (fp c.1), .int .i64 id, .bool false]) := by unfold tmap; rw [hT]; rfl
  have HTD := Lib.hid hTd
  have UN : Hid (∀ W, Below w.heap.size w W → Calls Tryz.prog 99 #[.pointer (some ⟨a, 0, none⟩), .string (fp c.1)] W fun e w' => e = .returned (.slice none 0 0) ∧ Below W.heap.size W w') := Lib.hid (fun W hW => treeUnder_any W a b nf T next (HH.out.below hW) c)
  have CA : Hid (∀ W, Below w.heap.size w W → W.cell? ⟨a, 0, none⟩ = some (.map (some b))) := Lib.hid (fun W hW => cellAt (HH.out.below hW).cell 0)
  have LD : Hid (∀ W, Below w.heap.size w W → (Instr.lookup 166 (.map (some b)) (.string (fp d.1)) true).run Tryz.prog W = .ok (.tuple #[.agg #[.string ⟨#[]⟩, .int .i64 0, .bool false], .bool false]) W) := Lib.hid (fun W hW => by
    have h := ((HH.out.below hW).map.look Tryz.underlying166 (zero168 W) (x := fp d.1) (KS_good d.1)).1
    unfold tmap at h
    rw [hTd] at h
    exact h)
  have LC : Hid (∀ W, Below w.heap.size w W → (Instr.lookup 166 (.map (some b)) (.string (fp c.1)) false).run Tryz.prog W = .ok (.agg #[.string (fp c.1), .int .i64 id, .bool false]) W) := Lib.hid (fun W hW => by
    have h := ((HH.out.below hW).map.look Tryz.underlying166 (zero168 W) (x := fp c.1) (KS_good c.1)).2
    rw [hTm] at h
    exact h)
  have hsd : ((fp c.1).toList == (fp d.1).toList) = false := by rw [fp_lbeq]; simpa using hcd
  have hszc := fp_size c.1
  have hszd : ¬ (9223372036854775807 < (fp d.1).size) := by rw [fp_size]; decide
  have hext : fp d.1 ++ (fp c.1).extract 2 2 = fp d.1 := fp_moved c d
  obtain ⟨i0, hi, hz0, hz1, hz2⟩ := info_parts info168
  obtain ⟨s, hs⟩ : ∃ s, Hid (s = fp c.1) := ⟨_, rfl⟩
  obtain ⟨t, ht⟩ : ∃ s, Hid (s = fp d.1) := ⟨_, rfl⟩
  rw [← hs.out] at CD hgc hTm UN LC hsd hszc hext ⊢
  rw [← ht.out] at CD hgd HTD LD hsd hext hszd ⊢
  clear H hT hTd
  go_enter Tryz.func65, Tryz.ntmps65
  go_wp2_with (first | (go_at_call 52; with_reducible refine CD.out.mono ?_; rintro e1 w1 ⟨rfl, hq⟩; have Q1 := Lib.hid hq; have ca := CA.out w1 hq; have ld := LD.out w1 hq; clear hq))
  go_cut [46, 47, 48] from 14 (fun s46 s47 s48 wc => ∃ q cap, s46 = .slice (some ⟨q, 0, none⟩) 1 cap ∧ s47 = .int .i64 1 ∧ s48 = .int .i64 0 ∧ Hid (OneN w wc q s id))
  case first =>
    have B0 : Hid (Below w.heap.size w (w1.alloc (.cells #[.string ⟨#[]⟩, .int .i64 0, .bool false] 168))) := Lib.hid (Q1.out.alloc Q1.out.size _)
    have lc0 := LC.out _ B0.out.drew
    go_region_held3 (fun W => W.cell? ⟨a, 0, none⟩ = some (.map (some b))) (first | exact CA.out _ B0.out.drew | exact CA.out _ (B0.out.alloc B0.out.size _).drew | exact CA.out _ Q2.out | exact CA.out _ (Q2.out.alloc Q2.out.size _) | exact CA.out _ ONE.out.1) (first | (go_at_call 99; with_reducible refine (UN.out _ (by first | exact B0.out.drew | exact (B0.out.alloc B0.out.size _).drew)).mono ?_; rintro e1 w2 ⟨rfl, hq⟩; have Q2 : Hid (Below w.heap.size w w2) := Lib.hid (by first | exact B0.out.drew.trans (hq.mono B0.out.drew.size) | exact (B0.out.alloc B0.out.size _).drew.trans (hq.mono (B0.out.alloc B0.out.size _).drew.size)); have lc2 := LC.out w2 Q2.out; (first | (have HE : Hid (w2.heap[w1.heap.size + 1]? = some (.cells #[.string s, .int .i64 id, .bool false] 168 (0, 0))) := Lib.hid (by have h := Below.heap hq (Nat.le_refl _) (heap_new (w1.alloc (.cells #[.string ⟨#[]⟩, .int .i64 0, .bool false] 168)) (.cells #[.string s, .int .i64 id, .bool false] 168)); simpa using h)) | skip); clear hq) | (refine step_append_sl rfl _ _ 184 rfl w.heap.size 168 i0 _ 3 32 Tryz.underlying184 hi hz0 hz1 hz2 rfl (by decide) _ 0 _ rfl (World.ownsRow_nil _ _ _ _) _ 1 _ rfl (Sl.block' (heap_new w2 _) rfl (by simp [Value.oneCell']) (by decide) (by decide)) (by omega) (by decide) (by have := Q2.out.size; first | omega | (simp; omega)) ?_; intro v3 w3 hown hgr _ _; obtain ⟨q, cap, hv, hone⟩ := oneN_of (Q2.out.alloc Q2.out.size _) hown hgr; subst hv; have ONE := Lib.hid hone; clear hown hgr hone) | (refine step_append_sl rfl _ _ 184 rfl w.heap.size 168 i0 _ 3 32 Tryz.underlying184 hi hz0 hz1 hz2 rfl (by decide) _ 0 _ rfl (World.ownsRow_nil _ _ _ _) _ 1 _ rfl (Sl.block' HE.out rfl (by simp [Value.oneCell']) (by decide) (by decide)) (by omega) (by decide) (by have := Q2.out.size; first | omega | (simp; omega)) ?_; intro v3 w3 hown hgr _ _; obtain ⟨q, cap, hv, hone⟩ := oneN_of (Q2.out) hown hgr; subst hv; have ONE := Lib.hid hone; clear hown hgr hone))
    all_goals
      go_wp2_with fail
      go_meet
      case rel => exact ⟨_, _, rfl, rfl, rfl, ONE⟩
  case rest =>
    obtain ⟨q, cap, rfl, rfl, rfl, ONE⟩ := hcut
    go_wp2_with fail
    go_loopw [48] (fun t48 wr => (t48 = .int .i64 0 ∧ Hid (OneN w wr q s id)) ∨ (t48 = .int .i64 1 ∧ Hid (TreeAt wr a b (nf - 1 + 1) (tset (tset T s none) t (some id)) next ∧ Frame [b] w wr))) (fun i _ => 1 - (intOf i).toNat)
    case atStart => exact .inl ⟨rfl, ONE⟩
    case round =>
      rcases hrel with ⟨rfl, hone⟩ | ⟨rfl, hfin⟩
      · obtain ⟨hb, hq, c0, c1, c2⟩ := hone.out
        have ca := CA.out _ hb
        go_wp2_with fail
        have HN2 := Lib.hid (heap_new wr (.cells #[.string s, .int .i64 id, .bool false] 168))
        have HA2 := Lib.hid (heap_old (HH.out.below hb).cell (.cells #[.string s, .int .i64 id, .bool false] 168))
        have hm2 : MapX KS (wr.alloc (.cells #[.string s, .int .i64 id, .bool false] 168)).drew b nf (tmap T) := (keep_map HH.out.map hb).same (Below.heap_alloc wr _ b (by have := hb.size; have := HH.out.map.lt; omega))
        obtain ⟨w3, hrun3, hm3, ht3⟩ := hm2.drop' Tryz.underlying166 (x := s) hgc
        have HR3 : Hid (∀ ty, (Builtin.delete_ #[166, 9] ty #[.map (some b), .string s]).run Tryz.prog (wr.alloc (.cells #[.string s, .int .i64 id, .bool false] 168)).drew = .ok (.tuple #[]) w3) := Lib.hid hrun3
        have HM3 := Lib.hid hm3
        have HT3 := Lib.hid ht3
        have HA3 := Lib.hid (turned_keep ht3 HA2.out hab)
        have HN3 := Lib.hid (turned_keep ht3 HN2.out (fun e => by have := hb.size; have := HH.out.map.lt; omega))
        have HK : Hid (∀ W : World, W.heap[a]? = some (.cells #[.map (some b), .int .i64 next] 170 (0, 0)) → ∀ y : ByteArray, W.heap[wr.heap.size]? = some (.cells #[.string y, .int .i64 id, .bool false] 168 (0, 0)) → W.cell? ⟨a, 0, none⟩ = some (.map (some b)) ∧ W.cell? ⟨wr.heap.size, 0, none⟩ = some (.string y) ∧ W.cell? ⟨wr.heap.size, 1, none⟩ = some (.int .i64 id) ∧ W.cell? ⟨wr.heap.size, 2, none⟩ = some (.bool false)) := Lib.hid (fun W h1 y h2 => ⟨cellAt h1 0, cellAt h2 0, cellAt h2 1, cellAt h2 2⟩)
        clear hm2 hrun3 hm3 ht3
        go_region_held3 (fun W => W.cell? ⟨a, 0, none⟩ = some (.map (some b)) ∧ W.cell? ⟨wr.heap.size, 0, none⟩ = some (.string s) ∧ W.cell? ⟨wr.heap.size, 1, none⟩ = some (.int .i64 id) ∧ W.cell? ⟨wr.heap.size, 2, none⟩ = some (.bool false)) (first | exact HK.out _ HA2.out _ HN2.out | exact HK.out _ HA3.out _ HN3.out) (first | (refine step_drop rfl _ _ 166 9 rfl _ _ rfl rfl w3 HR3.out ?_))
        have k3 := HK.out _ HA3.out _ HN3.out
        obtain ⟨k30, k31, k32, k33⟩ := k3
        have f3 := frozenAt HN3.out 0
        go_wp2_with fail
        have hne : a ≠ wr.heap.size := by have := heap_lt (HH.out.below hb).cell; omega
        have hbn : b ≠ wr.heap.size := by have := hb.size; have := HH.out.map.lt; omega
        have HA4 : Hid ((w3.setCell ⟨wr.heap.size, 0, none⟩ (.string t)).heap[a]? = some (.cells #[.map (some b), .int .i64 next] 170 (0, 0))) := Lib.hid ((heap_set_ne _ hne).trans HA3.out)
        have HN4 : Hid ((w3.setCell ⟨wr.heap.size, 0, none⟩ (.string t)).heap[wr.heap.size]? = some (.cells #[.string t, .int .i64 id, .bool false] 168 (0, 0))) := Lib.hid (by simpa using setAt HN3.out 0 (.string t))
        have hm4 : MapX KS (w3.setCell ⟨wr.heap.size, 0, none⟩ (.string t)).drew b (nf - 1) (tmap (tset T s none)) := by
          have h := HM3.out
          rw [hTm] at h
          simp only [Option.isSome_some, if_true] at h
          rw [tmap_drop] at h
          exact h.same (heap_set_ne _ hbn)
        obtain ⟨w5, hrun5, hm5, ht5⟩ := hm4.store Tryz.underlying166 (by unfold maxLen; omega) (x := t) hgd (.agg #[.string t, .int .i64 id, .bool false])
        have hr5 : (Instr.mapUpdate 166 (.map (some b)) (.string t) (.agg #[.string t, .int .i64 id, .bool false])).run Tryz.prog (w3.setCell ⟨wr.heap.size, 0, none⟩ (.string t)).drew = .ok () w5 := hrun5
        have HM5 := Lib.hid hm5
        have HT5 := Lib.hid ht5
        have HA5 := Lib.hid (turned_keep ht5 HA4.out hab)
        have HN5 := Lib.hid (turned_keep ht5 HN4.out (fun e => hbn e.symm))
        clear hm4 hrun5 hm5 ht5
        go_region_held3 (fun W => W.cell? ⟨a, 0, none⟩ = some (.map (some b)) ∧ W.cell? ⟨wr.heap.size, 0, none⟩ = some (.string t) ∧ W.cell? ⟨wr.heap.size, 1, none⟩ = some (.int .i64 id) ∧ W.cell? ⟨wr.heap.size, 2, none⟩ = some (.bool false)) (first | exact HK.out _ HA4.out _ HN4.out | exact HK.out _ HA5.out _ HN5.out) (first | fail)
        go_wp2_with fail
        have hTt : (tmap (tset T s none) t).isSome = false := by
          unfold tmap tset
          by_cases hts : t = s
          · rw [if_pos hts]; rfl
          · rw [if_neg hts, HTD.out]; rfl
        have hF5 : Frame [b] w w5 := (((((Frame.of_below hb [b]).alloc _).drew.turned HT3.out (.inl (by simp))).setCell (p := ⟨wr.heap.size, 0, none⟩) (.inr (by have := hb.size; simpa using this)) (.string t)).drew).turned HT5.out (.inl (by simp))
        refine ⟨.inr ⟨rfl, Lib.hid ⟨⟨HA5.out, ?_, ?_, ?_⟩, hF5⟩⟩, by decide⟩
        · have h := HM5.out
          rw [hTt, tmap_set] at h
          exact h
        · obtain ⟨m, hm⟩ := HH.out.glob
          have hl := World.block_lt_of_cell? w _ hm
          exact ⟨m, by rw [World.cell?_of_block (w := w) (hF5.block 1 hl (by simpa using h1.2))]; exact hm⟩
        · intro y i hy
          unfold tset at hy
          by_cases h : y = t
          · exact ⟨d, h.trans ht.out⟩
          · rw [if_neg h] at hy
            by_cases h2 : y = s
            · exact ⟨c, h2.trans hs.out⟩
            · rw [if_neg h2] at hy
              exact HH.out.flat y i hy
      · go_wp2
        go_ret2
        exact ⟨rfl, hfin.out.1, hfin.out.2⟩
set_option maxRecDepth 100000 in
set_option maxHeartbeats 2000000 in
theorem renameSame_any (w : World) (a b nf : Nat) (T : ByteArray → Option Int) (next : Int) (H : TreeAt w a b nf T next) (c : Fin 26) (id : Int) (hT : T (fp c.1) = some id) :
    Calls Tryz.prog 65 #[.pointer (some ⟨a, 0, none⟩), .string (fp c.1), .string (fp c.1)] w fun e w' => e = .returned (.tuple #[.int .i64 (-1), .int .i64 0]) ∧ Below w.heap.size w w' := by
  have CD := Lib.hid (canRename_any w a b nf T next H c c id hT)
  have hsd : ((fp c.1).toList == (fp c.1).toList) = true := by rw [fp_lbeq]; simp
  obtain ⟨s, hs⟩ : ∃ s, Hid (s = fp c.1) := ⟨_, rfl⟩
  rw [← hs.out] at CD hsd ⊢
  clear H hT
  go_enter Tryz.func65, Tryz.ntmps65
  go_wp2_with (first | (go_at_call 52; with_reducible refine CD.out.mono ?_; rintro e1 w1 ⟨rfl, hq⟩; have Q1 := Lib.hid hq; clear hq))
  go_ret2
  exact ⟨rfl, Q1.out⟩
end Go.Proofs.YtaonlcgneemimaaGreatDoor
namespace Go.Proofs.YtaonlcgneemimaaGreatDoor
open Go.RowKit
theorem bodies_drop {w w' : World} {sm nb : Nat} {S : Int → Option BodyA} {g : Int → Option Value} (h : BodiesAt w sm nb S g) (id : Int) {n' : Nat} (hmap : MapX KI w' sm n' (fput g id none)) (ht : w.mapTurned w' sm) : BodiesAt w' sm n' (bset S id none) (fput g id none) := by
  have hk : ∀ (k : Nat) (arr : Array Value), w.heap[k]? = some (.cells arr 134 (0, 0)) → w'.heap[k]? = some (.cells arr 134 (0, 0)) := fun k arr hk => by
    refine turned_keep ht hk (fun e => ?_)
    subst e
    exact h.map.cells hk
  refine ⟨hmap, fun y hy => ?_, fun y b hy => ?_⟩
  · unfold bset at hy
    unfold fput
    by_cases e : y = id
    · rw [if_pos e]
    · rw [if_neg e] at hy ⊢
      exact h.none y hy
  · unfold bset at hy
    unfold fput
    by_cases e : y = id
    · rw [if_pos e] at hy; cases hy
    · rw [if_neg e] at hy ⊢
      obtain ⟨v, h1, h2, h3⟩ := h.held y b hy
      exact ⟨v, h1, h2.kept hk, h3⟩
set_option maxRecDepth 100000 in
set_option maxHeartbeats 2000000 in
theorem checkRename_any (w : World) (s a b sm nf nb : Nat) (T : ByteArray → Option Int) (next : Int) (S : Int → Option BodyA) (g : Int → Option Value) (H : StateAt w s a b sm nf nb T next S g) (c d : Fin 26)
    (off size : Int) (da : Option Addr) (dn dc : Nat) (id : Int) (hT : T (fp c.1) = some id) :
    Calls Tryz.prog 23 #[.pointer (some ⟨s, 0, none⟩), .agg #[.int .i64 5, .string (fp c.1), .string (fp d.1), .int .i64 off, .int .i64 size, .slice da dn dc]] w fun e w' => e = .returned (.int .i64 0) ∧ Below w.heap.size w w' := by
  have hb0 : ∀ o, Below w.heap.size w (w.alloc o) := fun o => (Below.refl _ _).alloc (Nat.le_refl _) _
  have HC := Lib.hid (fun w' (hb : Below w.heap.size w w') => canRename_any w' a b nf T next (H.tree.below hb) c d id hT)
  have hs0 := heap_lt H.cell
  obtain ⟨p, hp⟩ : ∃ p, Hid (p = fp c.1) := ⟨_, rfl⟩
  obtain ⟨t, ht⟩ : ∃ p, Hid (p = fp d.1) := ⟨_, rfl⟩
  rw [← hp.out, ← ht.out] at HC ⊢
  have HX := Lib.hid (heap_old H.cell (.cells #[.int .i64 5, .string p, .string t, .int .i64 off, .int .i64 size, .slice da dn dc] 35))
  have x0 : (w.alloc (.cells #[.int .i64 5, .string p, .string t, .int .i64 off, .int .i64 size, .slice da dn dc] 35)).cell? ⟨s, 0, none⟩ = some (.pointer (some ⟨a, 0, none⟩)) := cellAt HX.out 0
  have HY := Lib.hid (heap_new w (.cells #[.int .i64 5, .string p, .string t, .int .i64 off, .int .i64 size, .slice da dn dc] 35))
  have HK : Hid (∀ W : World, Below (w.alloc (.cells #[.int .i64 5, .string p, .string t, .int .i64 off, .int .i64 size, .slice da dn dc] 35)).heap.size (w.alloc (.cells #[.int .i64 5, .string p, .string t, .int .i64 off, .int .i64 size, .slice da dn dc] 35)) W → W.cell? ⟨s, 0, none⟩ = some (.pointer (some ⟨a, 0, none⟩)) ∧ W.cell? ⟨w.heap.size, 1, none⟩ = some (.string p) ∧ W.cell? ⟨w.heap.size, 2, none⟩ = some (.string t)) := Lib.hid (fun W hW => ⟨cellAt (Below.heap hW (Nat.le_refl _) HX.out) 0, cellAt (Below.heap hW (Nat.le_refl _) HY.out) 1, cellAt (Below.heap hW (Nat.le_refl _) HY.out) 2⟩)
  clear H hT
  go_enter Tryz.func23, Tryz.ntmps23
  go_wp2_with fail
  go_region_held3 (fun W => W.cell? ⟨s, 0, none⟩ = some (.pointer (some ⟨a, 0, none⟩)) ∧ W.cell? ⟨w.heap.size, 1, none⟩ = some (.string p) ∧ W.cell? ⟨w.heap.size, 2, none⟩ = some (.string t)) (first | exact HK.out _ ((Below.refl _ _).drew) | exact k1) (first | (go_at_call 52; refine (HC.out _ (hb0 _).drew).mono ?_; rintro e w1 ⟨rfl, hq⟩; have HQ := Lib.hid ((hb0 _).drew.trans (hq.mono (hb0 _).drew.size)); have k1 := HK.out w1 (((Below.refl _ _).drew).trans hq); clear hq))
  go_wp2_with fail
  go_ret
  exact ⟨rfl, HQ.out⟩
set_option maxRecDepth 100000 in
set_option maxHeartbeats 2000000 in
theorem checkDrop_any (w : World) (s a b sm nf nb : Nat) (T : ByteArray → Option Int) (next : Int) (S : Int → Option BodyA) (g : Int → Option Value) (H : StateAt w s a b sm nf nb T next S g) (c : Fin 26)
    (off size : Int) (t : ByteArray) (da : Option Addr) (dn dc : Nat) (id : Int) (hT : T (fp c.1) = some id) :
    Calls Tryz.prog 23 #[.pointer (some ⟨s, 0, none⟩), .agg #[.int .i64 6, .string (fp c.1), .string t, .int .i64 off, .int .i64 size, .slice da dn dc]] w fun e w' => e = .returned (.int .i64 0) ∧ Below w.heap.size w w' := by
  have hb0 : ∀ o, Below w.heap.size w (w.alloc o) := fun o => (Below.refl _ _).alloc (Nat.le_refl _) _
  have HC := Lib.hid (fun w' (hb : Below w.heap.size w w') => canDrop_any w' a b nf T next (H.tree.below hb) c id hT)
  have hs0 := heap_lt H.cell
  obtain ⟨p, hp⟩ : ∃ p, Hid (p = fp c.1) := ⟨_, rfl⟩
  rw [← hp.out] at HC ⊢
  have HX := Lib.hid (heap_old H.cell (.cells #[.int .i64 6, .string p, .string t, .int .i64 off, .int .i64 size, .slice da dn dc] 35))
  have x0 : (w.alloc (.cells #[.int .i64 6, .string p, .string t, .int .i64 off, .int .i64 size, .slice da dn dc] 35)).cell? ⟨s, 0, none⟩ = some (.pointer (some ⟨a, 0, none⟩)) := cellAt HX.out 0
  have HY := Lib.hid (heap_new w (.cells #[.int .i64 6, .string p, .string t, .int .i64 off, .int .i64 size, .slice da dn dc] 35))
  have HK : Hid (∀ W : World, Below (w.alloc (.cells #[.int .i64 6, .string p, .string t, .int .i64 off, .int .i64 size, .slice da dn dc] 35)).heap.size (w.alloc (.cells #[.int .i64 6, .string p, .string t, .int .i64 off, .int .i64 size, .slice da dn dc] 35)) W → W.cell? ⟨s, 0, none⟩ = some (.pointer (some ⟨a, 0, none⟩)) ∧ W.cell? ⟨w.heap.size, 0, none⟩ = some (.int .i64 6) ∧ W.cell? ⟨w.heap.size, 1, none⟩ = some (.string p)) := Lib.hid (fun W hW => ⟨cellAt (Below.heap hW (Nat.le_refl _) HX.out) 0, cellAt (Below.heap hW (Nat.le_refl _) HY.out) 0, cellAt (Below.heap hW (Nat.le_refl _) HY.out) 1⟩)
  clear H hT
  go_enter Tryz.func23, Tryz.ntmps23
  go_wp2_with fail
  go_region_held3 (fun W => W.cell? ⟨s, 0, none⟩ = some (.pointer (some ⟨a, 0, none⟩)) ∧ W.cell? ⟨w.heap.size, 0, none⟩ = some (.int .i64 6) ∧ W.cell? ⟨w.heap.size, 1, none⟩ = some (.string p)) (first | exact HK.out _ ((Below.refl _ _).drew) | exact k1) (first | (go_at_call 53; refine (HC.out _ (hb0 _).drew).mono ?_; rintro e w1 ⟨rfl, hq⟩; have HQ := Lib.hid ((hb0 _).drew.trans (hq.mono (hb0 _).drew.size)); have k1 := HK.out w1 (((Below.refl _ _).drew).trans hq); clear hq))
  go_wp2_with fail
  go_ret
  exact ⟨rfl, HQ.out⟩
/-- The tree behind a renaming. -/
def renT (T : ByteArray → Option Int) (s t : ByteArray) (id : Int) : ByteArray → Option Int := if t = s then T else tset (tset T s none) t (some id)
def renN (nf : Nat) (s t : ByteArray) : Nat := if t = s then nf else nf - 1 + 1
theorem rename2_any (w : World) (a b nf : Nat) (T : ByteArray → Option Int) (next : Int) (H : TreeAt w a b nf T next) (c d : Fin 26) (id : Int) (hT : T (fp c.1) = some id) (hTd : fp d.1 = fp c.1 ∨ T (fp d.1) = none) (hnf : nf ≤ 64) :
    Calls Tryz.prog 65 #[.pointer (some ⟨a, 0, none⟩), .string (fp c.1), .string (fp d.1)] w fun e w' => e = .returned (.tuple #[.int .i64 (-1), .int .i64 0]) ∧ TreeAt w' a b (renN nf (fp c.1) (fp d.1)) (renT T (fp c.1) (fp d.1) id) next ∧ Frame [b] w w' := by
  by_cases h : fp d.1 = fp c.1
  · rw [h]
    unfold renN renT
    rw [if_pos rfl, if_pos rfl]
    refine (renameSame_any w a b nf T next H c id hT).mono ?_
    rintro e w' ⟨rfl, hq⟩
    exact ⟨rfl, H.below hq, Frame.of_below hq [b]⟩
  · unfold renN renT
    rw [if_neg h, if_neg h]
    exact rename_any w a b nf T next H c d (fun e => h (by rw [e])) id hT (hTd.resolve_left h) hnf
set_option maxRecDepth 100000 in
set_option maxHeartbeats 4000000 in
theorem applyRename_any (w : World) (s a b sm nf nb : Nat) (T : ByteArray → Option Int) (next : Int) (S : Int → Option BodyA) (g : Int → Option Value) (H : StateAt w s a b sm nf nb T next S g) (c d : Fin 26)
    (off size : Int) (da : Option Addr) (dn dc : Nat) (lv : Value) (id : Int) (hT : T (fp c.1) = some id) (hTd : fp d.1 = fp c.1 ∨ T (fp d.1) = none) (hnf : nf ≤ 64) :
    Calls Tryz.prog 30 #[.pointer (some ⟨s, 0, none⟩), .agg #[.int .i64 5, .string (fp c.1), .string (fp d.1), .int .i64 off, .int .i64 size, .slice da dn dc], lv] w fun e w' => e = .returned (.int .i64 0) ∧ ∃ nb' g', nb' ≤ nb ∧ StateAt w' s a b sm (renN nf (fp c.1) (fp d.1)) nb' (renT T (fp c.1) (fp d.1) id) next (bset S (-1) none) g' ∧ Frame [a, b, sm] w w' := by
  have HH := Lib.hid H
  have hb0 : ∀ o, Below w.heap.size w (w.alloc o) := fun o => (Below.refl _ _).alloc (Nat.le_refl _) _
  have HC := Lib.hid (fun w' (hb : Below w.heap.size w w') => checkRename_any w' s a b sm nf nb T next S g (H.below hb) c d off size da dn dc id hT)
  have HMK := Lib.hid (fun w' (hb : Below w.heap.size w w') => rename2_any w' a b nf T next (H.tree.below hb) c d id hT hTd hnf)
  have hs0 := heap_lt H.cell
  obtain ⟨es, cl, hob⟩ := H.tree.map.obj
  have hsa : s ≠ a := heap_type_ne H.cell H.tree.cell (by decide)
  have hsb : s ≠ b := heap_map_ne H.cell hob
  have hal := heap_lt H.tree.cell
  have hbl := heap_lt hob
  obtain ⟨p, hp⟩ : ∃ p, Hid (p = fp c.1) := ⟨_, rfl⟩
  obtain ⟨t, ht⟩ : ∃ p, Hid (p = fp d.1) := ⟨_, rfl⟩
  rw [← hp.out, ← ht.out] at HC HMK ⊢
  have hsm : s ≠ sm := by obtain ⟨es2, cl2, ob2⟩ := H.bodies.map.obj; exact heap_map_ne H.cell ob2
  have hasm : a ≠ sm := by obtain ⟨es2, cl2, ob2⟩ := H.bodies.map.obj; exact heap_map_ne H.tree.cell ob2
  have h1sm : 1 ≠ sm := H.bodies.map.ne1 H.tree.glob
  have hbsm := H.ne
  have HOBB := Lib.hid hob
  clear H hT hTd hob
  go_enter Tryz.func30, Tryz.ntmps30
  go_wp2_with (go_at_call 23; refine (HC.out _ (hb0 _)).mono ?_; rintro e w1 ⟨rfl, hq⟩; have HQ := Lib.hid ((hb0 (.cells #[.int .i64 5, .string p, .string t, .int .i64 off, .int .i64 size, .slice da dn dc] 35)).trans (hq.mono (hb0 _).size)); have HX := Lib.hid (Below.heap hq (Nat.le_refl _) (heap_new w (.cells #[.int .i64 5, .string p, .string t, .int .i64 off, .int .i64 size, .slice da dn dc] 35))); have x0 : w1.cell? ⟨w.heap.size, 0, none⟩ = some (.int .i64 5) := cellAt HX.out 0; clear hq)
  have HS1 := Lib.hid (Below.heap HQ.out (Nat.le_refl _) HH.out.cell)
  have HK : Hid (∀ W : World, W.heap[s]? = some (.cells #[.pointer (some ⟨a, 0, none⟩), .map (some sm)] 121 (0, 0)) → W.heap[w.heap.size]? = some (.cells #[.int .i64 5, .string p, .string t, .int .i64 off, .int .i64 size, .slice da dn dc] 35 (0, 0)) → W.cell? ⟨s, 0, none⟩ = some (.pointer (some ⟨a, 0, none⟩)) ∧ W.cell? ⟨w.heap.size, 1, none⟩ = some (.string p) ∧ W.cell? ⟨w.heap.size, 2, none⟩ = some (.string t)) := Lib.hid (fun W h1 h2 => ⟨cellAt h1 0, cellAt h2 1, cellAt h2 2⟩)
  go_region_held3 (fun W => W.cell? ⟨s, 0, none⟩ = some (.pointer (some ⟨a, 0, none⟩)) ∧ W.cell? ⟨w.heap.size, 1, none⟩ = some (.string p) ∧ W.cell? ⟨w.heap.size, 2, none⟩ = some (.string t)) (first | exact HK.out _ HS1.out HX.out | exact k2) (first | (go_at_call 65; refine (HMK.out _ HQ.out.drew).mono ?_; rintro e w2 ⟨rfl, ht, hf⟩; have HT2 := Lib.hid ht; have HF2 := Lib.hid ((Frame.of_below HQ.out [b]).drew.trans hf (fun x hx => .inl hx)); have HS2 := Lib.hid (hf.heap HS1.out (by simp [hsb])); have HX2 := Lib.hid (hf.heap HX.out (by simp; omega)); have k2 := HK.out w2 HS2.out HX2.out; have HF := Lib.hid hf; clear ht hf))
  have HB2 := Lib.hid (HH.out.bodies.frame HF2.out (by simp; exact fun e => hbsm e.symm) (fun k hk arr e => by
    simp at hk
    subst hk
    rw [HOBB.out] at e; cases e))
  have y1 : w2.cell? ⟨s, 1, none⟩ = some (.map (some sm)) := (cellAt HS2.out 1)
  have y0 := k2.1
  go_wp2_with (at_delete; refine wpx_drop _ rfl _ _ 119 3 rfl KI 100 Tryz.underlying119 sm nb g rfl HB2.out.map (-1) (KI_good (by omega)) rfl ?_; intro w3 hm3 ht3; have HM3 := Lib.hid hm3; have HT3 := Lib.hid ht3; clear hm3 ht3)
  go_ret
  refine ⟨rfl, if (g (-1)).isSome then nb - 1 else nb, fput g (-1) none, ?_, ⟨turned_keep HT3.out HS2.out hsm, ?_, ?_, hbsm⟩, (HF2.out.mono (fun x hx => .inl (by simp at hx ⊢; simp [hx]))).turned HT3.out (.inl (by simp))⟩
  · split <;> omega
  · exact HT2.out.frame ((Frame.refl [sm] w2).turned HT3.out (.inl (by simp))) (by simpa using hasm) (by simpa using hbsm) (by simpa using h1sm)
  · exact bodies_drop HB2.out (-1) HM3.out HT3.out
set_option maxRecDepth 100000 in
set_option maxHeartbeats 4000000 in
theorem applyDrop_any (w : World) (s a b sm nf nb : Nat) (T : ByteArray → Option Int) (next : Int) (S : Int → Option BodyA) (g : Int → Option Value) (H : StateAt w s a b sm nf nb T next S g) (c : Fin 26)
    (off size : Int) (t : ByteArray) (da : Option Addr) (dn dc : Nat) (lv : Value) (id : Int) (hT : T (fp c.1) = some id) (bd : BodyA) (hS : S id = some bd) (hid : 0 ≤ id ∧ id ≤ 4611686018427387904) :
    Calls Tryz.prog 30 #[.pointer (some ⟨s, 0, none⟩), .agg #[.int .i64 6, .string (fp c.1), .string t, .int .i64 off, .int .i64 size, .slice da dn dc], lv] w fun e w' => e = .returned (.int .i64 0) ∧ ∃ g', StateAt w' s a b sm (nf - 1) (nb - 1) (tset T (fp c.1) none) next (bset S id none) g' ∧ Frame [a, b, sm] w w' := by
  have HH := Lib.hid H
  have hb0 : ∀ o, Below w.heap.size w (w.alloc o) := fun o => (Below.refl _ _).alloc (Nat.le_refl _) _
  have HC := Lib.hid (fun w' (hb : Below w.heap.size w w') => checkDrop_any w' s a b sm nf nb T next S g (H.below hb) c off size t da dn dc id hT)
  have HMK := Lib.hid (fun w' (hb : Below w.heap.size w w') => drop_any w' a b nf T next (H.tree.below hb) c id hT)
  have hgs : (g id).isSome = true := by obtain ⟨v, h1, -⟩ := H.bodies.held id bd hS; rw [h1]; rfl
  have HGS := Lib.hid hgs
  have hs0 := heap_lt H.cell
  obtain ⟨es, cl, hob⟩ := H.tree.map.obj
  have hsa : s ≠ a := heap_type_ne H.cell H.tree.cell (by decide)
  have hsb : s ≠ b := heap_map_ne H.cell hob
  have hal := heap_lt H.tree.cell
  have hbl := heap_lt hob
  obtain ⟨p, hp⟩ : ∃ p, Hid (p = fp c.1) := ⟨_, rfl⟩
  rw [← hp.out] at HC HMK ⊢
  have hsm : s ≠ sm := by obtain ⟨es2, cl2, ob2⟩ := H.bodies.map.obj; exact heap_map_ne H.cell ob2
  have hasm : a ≠ sm := by obtain ⟨es2, cl2, ob2⟩ := H.bodies.map.obj; exact heap_map_ne H.tree.cell ob2
  have h1sm : 1 ≠ sm := H.bodies.map.ne1 H.tree.glob
  have hbsm := H.ne
  have HOBB := Lib.hid hob
  clear H hT hob hgs hS
  go_enter Tryz.func30, Tryz.ntmps30
  go_wp2_with (go_at_call 23; refine (HC.out _ (hb0 _)).mono ?_; rintro e w1 ⟨rfl, hq⟩; have HQ := Lib.hid ((hb0 (.cells #[.int .i64 6, .string p, .string t, .int .i64 off, .int .i64 size, .slice da dn dc] 35)).trans (hq.mono (hb0 _).size)); have HX := Lib.hid (Below.heap hq (Nat.le_refl _) (heap_new w (.cells #[.int .i64 6, .string p, .string t, .int .i64 off, .int .i64 size, .slice da dn dc] 35))); have x0 : w1.cell? ⟨w.heap.size, 0, none⟩ = some (.int .i64 6) := cellAt HX.out 0; clear hq)
  have HS1 := Lib.hid (Below.heap HQ.out (Nat.le_refl _) HH.out.cell)
  have HK : Hid (∀ W : World, W.heap[s]? = some (.cells #[.pointer (some ⟨a, 0, none⟩), .map (some sm)] 121 (0, 0)) → W.heap[w.heap.size]? = some (.cells #[.int .i64 6, .string p, .string t, .int .i64 off, .int .i64 size, .slice da dn dc] 35 (0, 0)) → W.cell? ⟨s, 0, none⟩ = some (.pointer (some ⟨a, 0, none⟩)) ∧ W.cell? ⟨w.heap.size, 0, none⟩ = some (.int .i64 6) ∧ W.cell? ⟨w.heap.size, 1, none⟩ = some (.string p)) := Lib.hid (fun W h1 h2 => ⟨cellAt h1 0, cellAt h2 0, cellAt h2 1⟩)
  go_region_held3 (fun W => W.cell? ⟨s, 0, none⟩ = some (.pointer (some ⟨a, 0, none⟩)) ∧ W.cell? ⟨w.heap.size, 0, none⟩ = some (.int .i64 6) ∧ W.cell? ⟨w.heap.size, 1, none⟩ = some (.string p)) (first | exact HK.out _ HS1.out HX.out | exact k2) (first | (go_at_call 66; refine (HMK.out _ HQ.out.drew).mono ?_; rintro e w2 ⟨rfl, ht, hf⟩; have HT2 := Lib.hid ht; have HF2 := Lib.hid ((Frame.of_below HQ.out [b]).drew.trans hf (fun x hx => .inl hx)); have HS2 := Lib.hid (hf.heap HS1.out (by simp [hsb])); have HX2 := Lib.hid (hf.heap HX.out (by simp; omega)); have k2 := HK.out w2 HS2.out HX2.out; have HF := Lib.hid hf; clear ht hf))
  have HB2 := Lib.hid (HH.out.bodies.frame HF2.out (by simp; exact fun e => hbsm e.symm) (fun k hk arr e => by
    simp at hk
    subst hk
    rw [HOBB.out] at e; cases e))
  have y1 : w2.cell? ⟨s, 1, none⟩ = some (.map (some sm)) := (cellAt HS2.out 1)
  have y0 := k2.1
  go_wp2_with (at_delete; refine wpx_drop _ rfl _ _ 119 3 rfl KI 100 Tryz.underlying119 sm nb g rfl HB2.out.map id (KI_good (by omega)) rfl ?_; intro w3 hm3 ht3; have HM3 := Lib.hid hm3; have HT3 := Lib.hid ht3; clear hm3 ht3)
  go_ret
  have hm3 := HM3.out
  rw [if_pos HGS.out] at hm3
  refine ⟨rfl, fput g id none, ⟨turned_keep HT3.out HS2.out hsm, ?_, ?_, hbsm⟩, (HF2.out.mono (fun x hx => .inl (by simp at hx ⊢; simp [hx]))).turned HT3.out (.inl (by simp))⟩
  · exact HT2.out.frame ((Frame.refl [sm] w2).turned HT3.out (.inl (by simp))) (by simpa using hasm) (by simpa using hbsm) (by simpa using h1sm)
  · exact bodies_drop HB2.out id hm3 HT3.out
end Go.Proofs.YtaonlcgneemimaaGreatDoor
