/- TopNames: the contracts of W1, W2; no condition. -/
import Derived.Test.YtaonlcgneemimaaGreatDoorJ16
import Derived.Test.YtaonlcgneemimaaGreatDoorJ09
namespace Go.Proofs
open Go.RowKit Go.Maps Go.Sort Go.Shelf
set_option maxHeartbeats 1000000 in
theorem Tryz.paths_raw {H : Type} (a b nn : Nat) (D0 : DataW H) (R : Value → Option (DataW H × List MemPlace)) (w : World) (hcell : w.cell? ⟨a, 0, none⟩ = some (.map (some b))) (hown : w.ownsMap Tryz.prog 9 R b nn D0) (hmax : Maps.size D0 ≤ maxLen) (hbytes : Maps.size D0 * 16 ≤ 140737488355328) :
    Calls Tryz.prog 43 #[.pointer (some ⟨a, 0, none⟩)] w fun e w' => ∃ (v : Value) (ss : List (List UInt8)), e = .returned v ∧ ss.Perm (strKeys D0) ∧
      w'.ownsRow w.heap.size 9 1 v ss.length ((ss.mergeSort (fun x y => decide (x ≤ y))).map encStr) ∧ (v = .slice none 0 0 ↔ ss = []) ∧ Below w.heap.size w w' := by
  refine (callsIn_wide (n := 6)).1 ?_
  have hfK : Fence.wide.fn 86 := trivial
  have hfS : Fence.wide.fn 85 := trivial
  refine callsIn_of_wp Tryz.func43 rfl trivial ?_ rfl
  simp only [Tryz.ntmps43, List.size_toArray, List.length_cons, List.length_nil, Nat.reduceAdd, Nat.reduceSub, Array.replicate_succ, Array.replicate_zero, List.push_toArray, List.append_toArray, List.nil_append, List.cons_append]
  gi_wp2_with (first
    | (gi_at_call 86; refine (Tryz.maps_Keys_86 _ _).mono ?_; rintro e w' ⟨rfl, rfl⟩)
    | (gi_at_call 85; refine (Tryz.slices_Sorted_keys_85_86 b nn D0 R w hown hmax hbytes).mono ?_; rintro e w' ⟨v, ss, rfl, hS, hrow, hnil, hb⟩))
  go_ret
  exact ⟨v, ss, rfl, hS, ownsRow_base_a hrow (by simp), hnil, ((Below.refl _ w).alloc (Nat.le_refl _) _).trans (hb.mono (by simp))⟩
end Go.Proofs
namespace Go.Proofs.YtaonlcgneemimaaGreatDoor
open Go.RowKit
open Go.Maps (Keyed)
theorem strKeys_has {H : Type} {D : DataW H} {x : List UInt8} {P : Program} {R : Value → Option (DataW H × List MemPlace)} {w : World} {b n : Nat} (hown : w.ownsMap P 9 R b n D) (hk : P.underlying 9 = some .string) : x ∈ strKeys D ↔ Maps.has D (.string x) = true := by
  obtain ⟨es, rfl, hko⟩ := hown.keysOf
  constructor
  · intro hx
    obtain ⟨p, hp, rfl⟩ := List.mem_map.1 hx
    obtain ⟨v, hv⟩ := hko p hp
    obtain ⟨y, _, hy, hl⟩ := Maps.keyOf_str hk hv
    refine List.any_eq_true.2 ⟨p, hp, ?_⟩
    rw [hy]
    simp [Lit.sameKey, strOf]
  · intro hx
    obtain ⟨p, hp, he⟩ := List.any_eq_true.1 hx
    obtain ⟨v, hv⟩ := hko p hp
    obtain ⟨y, _, hy, hl⟩ := Maps.keyOf_str hk hv
    rw [hy] at he
    refine List.mem_map.2 ⟨p, hp, ?_⟩
    rw [hy]
    simpa [Lit.sameKey, strOf] using he
/-- The paths of a tree, rising. -/
structure PathsOf (T : ByteArray → Option Int) (nf : Nat) (ps : List ByteArray) : Prop where
  len : ps.length = nf
  mem : ∀ p, p ∈ ps ↔ (T p).isSome = true
def strsC (ps : List ByteArray) : List Value := ps.map .string
theorem strsC_one (ps : List ByteArray) : ∀ u ∈ strsC ps, u.oneCell' = true := by
  intro u hu
  obtain ⟨p, _, rfl⟩ := List.mem_map.1 hu
  rfl
theorem paths_any (w : World) (a b nf : Nat) (T : ByteArray → Option Int) (next : Int) (H : TreeAt w a b nf T next) (hnf : nf ≤ 100000) :
    Calls Tryz.prog 43 #[.pointer (some ⟨a, 0, none⟩)] w fun e w' => ∃ v ps, e = .returned v ∧ PathsOf T nf ps ∧ Sl w' 9 1 v nf (strsC ps) ∧ Below w.heap.size w w' := by
  have hml : maxLen = 9223372036854775807 := by decide
  obtain ⟨D, hown, hsz, hf⟩ := H.map
  refine (Tryz.paths_raw a b _ D _ w (cellAt H.cell 0) hown (by omega) (by omega)).mono ?_
  rintro e w' ⟨v, ss, rfl, hp, hrow, hnil, hb⟩
  have hlen : ss.length = nf := by
    rw [hp.length_eq, ← hsz]
    obtain ⟨es, rfl, -⟩ := hown.keysOf
    simp [strKeys, Maps.size]
  have hmt : ∀ p : ByteArray, (tmap T p).isSome = (T p).isSome := fun p => by unfold tmap; cases T p <;> rfl
  have hwf := strKeys_le hown Tryz.underlying9
  refine ⟨v, (ss.mergeSort (fun x y => decide (x ≤ y))).map (fun l => ⟨l.toArray⟩), rfl, ⟨by simpa using hlen, fun p => ?_⟩, ?_, hb⟩
  · have h1 : p ∈ (ss.mergeSort (fun x y => decide (x ≤ y))).map (fun l => (⟨l.toArray⟩ : ByteArray)) ↔ p.data.toList ∈ strKeys D := by
      rw [List.mem_map]
      constructor
      · rintro ⟨l, hl, rfl⟩
        exact hp.mem_iff.1 (by simpa using hl)
      · intro h
        exact ⟨p.data.toList, by simpa using hp.mem_iff.2 h, by simp⟩
    rw [h1, strKeys_has hown Tryz.underlying9, ← hmt]
    by_cases hg : KS.good p
    · rw [show Maps.has D (.string p.data.toList) = (tmap T p).isSome from MapX.has_iff (K := KS) (hf p hg)]
    · constructor
      · intro h
        exact absurd (by have := hwf _ ((strKeys_has hown Tryz.underlying9).2 h); simpa [KS, strKey] using this) hg
      · intro h
        exfalso
        rw [hmt] at h
        obtain ⟨id, hid⟩ := Option.isSome_iff_exists.1 h
        obtain ⟨c, rfl⟩ := H.flat _ _ hid
        exact hg (KS_good c.1)
  · rw [← hlen]
    have e : strsC ((ss.mergeSort (fun x y => decide (x ≤ y))).map (fun l => (⟨l.toArray⟩ : ByteArray))) = (ss.mergeSort (fun x y => decide (x ≤ y))).map encStr := by
      simp [strsC, encStr]
    rw [e]
    refine Sl.of_own hrow (fun u hu => ?_) ?_
    · obtain ⟨l, _, rfl⟩ := List.mem_map.1 hu
      rfl
    · rcases Nat.eq_zero_or_pos ss.length with h0 | h0
      · exact .inl (hnil.2 (List.eq_nil_of_length_eq_zero h0))
      · exact .inr h0
end Go.Proofs.YtaonlcgneemimaaGreatDoor
namespace Go.Proofs.YtaonlcgneemimaaGreatDoor
open Go.RowKit
theorem own_belowN {w w' : World} {B e sz n : Nat} {v : Value} {xs : List Value} (h : w.ownsRow B e sz v n xs) (hb : Below w.heap.size w w') : w'.ownsRow B e sz v n xs :=
  row_kept h (fun _ _ hk _ => Below.heap hb (Nat.le_refl _) hk)
theorem strs_cells {w : World} {v : Value} {n : Nat} {ps : List ByteArray} (h : Sl w 9 1 v n (strsC ps)) : ∃ a cap, v = .slice a n cap ∧ n ≤ cap ∧ (a = none → n = 0) ∧ ∀ j p, ps[j]? = some p → ∃ g off, a = some ⟨g, off, none⟩ ∧ g < w.heap.size ∧ w.cell? ⟨g, off + j, none⟩ = some (.string p) := by
  have hl : ps.length = n := by have := h.1; simpa [strsC] using this
  obtain ⟨a, cap, rfl, h1, h2, h3⟩ := h.shape
  refine ⟨a, cap, rfl, h1, h2, fun j p hp => ?_⟩
  have hj : j < n := by rw [← hl]; exact (List.getElem?_eq_some_iff.1 hp).1
  obtain ⟨g, off, e, hg, hc⟩ := h3 j hj
  refine ⟨g, off, e, hg, ?_⟩
  have := hc 0 (.string p) (by omega) (by simp [strsC, hp])
  simpa using this
/-- Nodes: the paths' own. -/
def nodesC (T : ByteArray → Option Int) (ps : List ByteArray) : List Value := ps.flatMap fun p => [.string p, .int .i64 ((T p).getD 0), .bool false]
theorem nodesC_len (T : ByteArray → Option Int) (ps : List ByteArray) : (nodesC T ps).length = ps.length * 3 := by
  induction ps with
  | nil => rfl
  | cons a l ih => simp [nodesC] at ih ⊢; omega
theorem nodesC_snoc (T : ByteArray → Option Int) (ps : List ByteArray) (p : ByteArray) : nodesC T (ps ++ [p]) = nodesC T ps ++ [.string p, .int .i64 ((T p).getD 0), .bool false] := by simp [nodesC]
theorem nodesC_one (T : ByteArray → Option Int) (ps : List ByteArray) : ∀ u ∈ nodesC T ps, u.oneCell' = true := by
  intro u hu
  obtain ⟨p, _, h⟩ := List.mem_flatMap.1 hu
  simp at h
  rcases h with rfl | rfl | rfl <;> rfl
set_option maxRecDepth 100000 in
set_option maxHeartbeats 4000000 in
theorem nodes_any (w : World) (a b nf : Nat) (T : ByteArray → Option Int) (next : Int) (H : TreeAt w a b nf T next) (hnf : nf ≤ 100000) :
    Calls Tryz.prog 174 #[.pointer (some ⟨a, 0, none⟩)] w fun e w' => ∃ v ps, e = .returned v ∧ PathsOf T nf ps ∧ Sl w' 168 3 v nf (nodesC T ps) ∧ Below w.heap.size w w' := by
  have HH := Lib.hid H
  have HP := Lib.hid (paths_any w a b nf T next H hnf)
  have CA : Hid (∀ W, Below w.heap.size w W → W.cell? ⟨a, 0, none⟩ = some (.map (some b))) := Lib.hid (fun W hW => cellAt (HH.out.below hW).cell 0)
  have LU : Hid (∀ W, Below w.heap.size w W → ∀ p id, T p = some id → (Instr.lookup 166 (.map (some b)) (.string p) false).run Tryz.prog W = .ok (.agg #[.string p, .int .i64 id, .bool false]) W) := Lib.hid (fun W hW p id hp => by
    obtain ⟨c, rfl⟩ := HH.out.flat _ _ hp
    have h := ((HH.out.below hW).map.look Tryz.underlying166 (zero168 W) (x := fp c.1) (KS_good c.1)).2
    rw [show tmap T (fp c.1) = some (.agg #[.string (fp c.1), .int .i64 id, .bool false]) by unfold tmap; rw [hp]; rfl] at h
    exact h)
  obtain ⟨i0, hi, hz0, hz1, hz2⟩ := info_parts info168
  clear H
  go_enter Tryz.func174, Tryz.ntmps174
  go_wp2_with (go_at_call 43; refine HP.out.mono ?_; rintro e w1 ⟨v, ps, rfl, hps, hsl, hq⟩; obtain ⟨pa, pk, rfl, h1, h2, h3⟩ := strs_cells hsl; have PS := Lib.hid hps; have PC := Lib.hid h3; have Q1 := Lib.hid hq; clear hps hsl hq h3)
  have hs1 := Q1.out.size
  go_loopw [3, 5, 9] (fun t3 _ ti wr => ∃ k : Nat, k ≤ nf ∧ ti = .int .i64 k ∧ Hid (wr.ownsRow w1.heap.size 168 3 t3 k (nodesC T (ps.take k))) ∧ (t3 = .slice none 0 0 ∨ 0 < k) ∧ Hid (Below w1.heap.size w1 wr)) (fun _ _ i _ => nf - (intOf i).toNat)
  case atStart =>
    exact ⟨0, by omega, rfl, Lib.hid (World.ownsRow_nil _ _ _ _), .inl rfl, Lib.hid (Below.refl _ _)⟩
  case round =>
    obtain ⟨k, hk, rfl, hown, hnil, hbel⟩ := hrel
    have hbw : Below w.heap.size w wr := Q1.out.trans (hbel.out.mono hs1)
    by_cases hlt : k < nf
    · obtain ⟨p, hp⟩ : ∃ p, ps[k]? = some p := ⟨_, List.getElem?_eq_getElem (by rw [PS.out.len]; exact hlt)⟩
      obtain ⟨g, off, rfl, hg, c0⟩ := PC.out k p hp
      obtain ⟨id, hid⟩ := Option.isSome_iff_exists.1 ((PS.out.mem p).1 (List.mem_of_getElem? hp))
      have q0 : wr.cell? ⟨g, off + k, none⟩ = some (.string p) := (hbel.out.cell (p := ⟨g, off + k, none⟩) hg).trans c0
      have ca := CA.out _ hbw
      have lu := LU.out _ hbw p id hid
      have hbs := hbel.out.size
      have OA : Hid (∀ o, (wr.alloc o).ownsRow w1.heap.size 168 3 u3 k (nodesC T (ps.take k))) := Lib.hid (fun o => own_belowN hown.out ((Below.refl _ _).alloc (Nat.le_refl _) o))
      have FIN : Hid (∀ v3 w6 o, w6.ownsRow w1.heap.size 168 3 v3 (k + 1) (nodesC T (ps.take k) ++ [.string p, .int .i64 id, .bool false]) → (wr.alloc o).grownBy w6 u3.ownBlock → w6.ownsRow w1.heap.size 168 3 v3 (k + 1) (nodesC T (ps.take (k + 1))) ∧ Below w1.heap.size w1 w6) := Lib.hid (fun v3 w6 o ho hgr => by
        refine ⟨?_, (hbel.out.alloc hbs o).grown hgr (by simp; omega) (fun j hj => (hown.out.lt j hj).1)⟩
        have e : ps.take (k + 1) = ps.take k ++ [p] := by rw [List.take_add_one, hp]; rfl
        rw [e, nodesC_snoc, hid]
        exact ho)
      have dk : (k : Int) < nf := by omega
      clear c0 hp
      go_wp2_with (at_builtin; refine wp_append_sl rfl _ _ 184 rfl w1.heap.size 168 i0 _ 3 32 Tryz.underlying184 hi hz0 hz1 hz2 rfl (by decide) _ k _ rfl (OA.out _) _ 1 _ rfl (Sl.block' (heap_new _ _) rfl (by simp [Value.oneCell']) (by decide) (by decide)) (by omega) (by decide) (by simp; omega) ?_; intro v3 w6 ho hgr _ _; have hfin := FIN.out _ _ _ ho hgr; have HO6 := Lib.hid hfin.1; have HB6 := Lib.hid hfin.2; clear ho hgr hfin)
      go_roundw
      case rel => exact ⟨k + 1, by omega, by go_num, HO6, .inr (by omega), HB6⟩
      case measure => simp [intOf]; omega
    · have hke : k = nf := by omega
      subst hke
      have dk : ¬ ((k : Int) < k) := by omega
      go_wp2
      go_ret
      refine ⟨u3, rfl, ps, PS.out, ?_, hbw⟩
      have h := hown.out
      rw [List.take_of_length_le (by rw [PS.out.len]; exact Nat.le_refl _)] at h
      exact Sl.of_own h (nodesC_one _ _) hnil
end Go.Proofs.YtaonlcgneemimaaGreatDoor
