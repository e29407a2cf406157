/- TopHoles: the contracts of T9; no condition. -/
import Derived.Test.YtaonlcgneemimaaGreatDoorG10
namespace Go.Proofs.YtaonlcgneemimaaGreatDoor
open Go.RowKit
set_option maxRecDepth 100000 in
set_option maxHeartbeats 4000000 in
theorem applyWrite_any (w : World) (s a b sm nf nb : Nat) (T : ByteArray → Option Int) (next : Int) (S : Int → Option BodyA) (g : Int → Option Value) (H : StateAt w s a b sm nf nb T next S g) (c : Fin 26) (id : Int) (hT : T (fp c.1) = some id) (bd : BodyA) (hS : S id = some bd)
    (off size : Int) (tt : ByteArray) (l : List PartA) (lv : Value) (hl : Sl w 134 4 lv l.length (partsC l)) (hf : ∀ p ∈ l, p.fits) (hln : bd.parts.length + l.length + 1 ≤ 1000) (h0 : 0 ≤ off) (h1 : off + sumLen l ≤ 1099511627776) (hid : 0 ≤ id ∧ id ≤ 4611686018427387904) (hnb : nb ≤ 1000000) :
    Calls Tryz.prog 30 #[.pointer (some ⟨s, 0, none⟩), .agg #[.int .i64 3, .string (fp c.1), .string tt, .int .i64 off, .int .i64 size, .slice none 0 0], lv] w fun e w' => e = .returned (.int .i64 0) ∧ ∃ g', StateAt w' s a b sm nf nb T next (bset S id (some (writeB bd off l))) g' ∧ Frame [sm] w w' := by
  have hb0 : ∀ o, Below w.heap.size w (w.alloc o) := fun o => (Below.refl _ _).alloc (Nat.le_refl _) _
  have hsn := sumLen_nonneg hf
  have HC := Lib.hid (fun w' (hb : Below w.heap.size w w') => check_any w' s a b sm nf nb T next S g (H.below hb) c 3 off size tt none 0 0 (.inr (.inl ⟨rfl, ⟨id, hT⟩, by decide, h0, by simp; omega⟩)))
  have HP := Lib.hid (fun w' (hb : Below w.heap.size w w') => put_state w' s a b sm nf nb T next S g (H.below hb) c id hT bd hS 3 off size tt l lv (hl.below hb) hf hln h0 h1 hid hnb)
  obtain ⟨p, hp⟩ : ∃ p, Hid (p = fp c.1) := ⟨_, rfl⟩
  rw [← hp.out] at HC HP ⊢
  clear H hT hS hf hl
  go_enter Tryz.func30, Tryz.ntmps30
  go_wp2_with (first | (go_at_call 23; refine (HC.out _ (hb0 _)).mono ?_; rintro e w1 ⟨rfl, hq⟩; have HQ := Lib.hid ((hb0 (.cells #[.int .i64 3, .string p, .string tt, .int .i64 off, .int .i64 size, .slice none 0 0] 35)).trans (hq.mono (hb0 _).size)); have hx := Below.heap hq (Nat.le_refl _) (heap_new w (.cells #[.int .i64 3, .string p, .string tt, .int .i64 off, .int .i64 size, .slice none 0 0] 35)); have x0 := cellAt hx 0; have x1 := cellAt hx 1; have x2 := cellAt hx 2; have x3 := cellAt hx 3; have x4 := cellAt hx 4; have x5 := cellAt hx 5; clear hq hx) | (go_at_call 62; refine (HP.out _ HQ.out).mono ?_; rintro e w2 ⟨rfl, hs2⟩; have HS2 := Lib.hid hs2; clear hs2))
  go_ret
  obtain ⟨g', hs, hfr⟩ := HS2.out
  exact ⟨rfl, g', hs, (Frame.of_below HQ.out [sm]).trans hfr (fun x hx => .inl hx)⟩
set_option maxRecDepth 100000 in
set_option maxHeartbeats 4000000 in
theorem applyTrunc_any (w : World) (s a b sm nf nb : Nat) (T : ByteArray → Option Int) (next : Int) (S : Int → Option BodyA) (g : Int → Option Value) (H : StateAt w s a b sm nf nb T next S g) (c : Fin 26) (id : Int) (hT : T (fp c.1) = some id) (bd : BodyA) (hS : S id = some bd)
    (off size : Int) (tt : ByteArray) (lv : Value) (h0 : 0 ≤ size) (h1 : size ≤ 1099511627776) (hid : 0 ≤ id ∧ id ≤ 4611686018427387904) (hnb : nb ≤ 1000000) :
    Calls Tryz.prog 30 #[.pointer (some ⟨s, 0, none⟩), .agg #[.int .i64 4, .string (fp c.1), .string tt, .int .i64 off, .int .i64 size, .slice none 0 0], lv] w fun e w' => e = .returned (.int .i64 0) ∧ ∃ g', StateAt w' s a b sm nf nb T next (bset S id (some (truncB bd size))) g' ∧ Frame [sm] w w' := by
  have HH := Lib.hid H
  have hb0 : ∀ o, Below w.heap.size w (w.alloc o) := fun o => (Below.refl _ _).alloc (Nat.le_refl _) _
  have HC := Lib.hid (fun w' (hb : Below w.heap.size w w') => check_any w' s a b sm nf nb T next S g (H.below hb) c 4 off size tt none 0 0 (.inr (.inr ⟨rfl, ⟨id, hT⟩, h0, h1⟩)))
  have HF := Lib.hid (fun w' (hb : Below w.heap.size w w') => file_any w' s a b sm nf nb T next S g (H.below hb) c id hT)
  obtain ⟨bv, hbv, hBV, hmay, hfew⟩ := H.bodies.held id bd hS
  have HTR := Lib.hid (fun w' (hb : Below w.heap.size w w') => trunc_any bd size bv w' (hBV.kept (fun k arr hk => Below.heap hb (Nat.le_refl _) hk)) hmay (by omega) h0 h1)
  have HMAY := Lib.hid (truncB_may hmay h0 h1)
  have HFEW := Lib.hid (show (truncB bd size).parts.length ≤ 1000 by have := truncB_few (b := bd) (size := size); omega)
  have hlook : ∀ W, W.heap[sm]? = w.heap[sm]? → (Instr.lookup 119 (.map (some sm)) (.int .i64 id) false).run Tryz.prog W = .ok bv W := fun W hW => by
    have h := ((H.bodies.map.same hW).look Tryz.underlying119 (zero100 W) (KI_good (x := id) (by omega))).2
    rw [hbv] at h
    exact h
  have HLK := Lib.hid hlook
  have hgs : (g id).isSome = true := by rw [hbv]; rfl
  have HGS := Lib.hid hgs
  have hs0 := heap_lt H.cell
  have hsml := H.bodies.map.lt
  have hsm : s ≠ sm := by obtain ⟨es2, cl2, ob2⟩ := H.bodies.map.obj; exact heap_map_ne H.cell ob2
  have hasm : a ≠ sm := by obtain ⟨es2, cl2, ob2⟩ := H.bodies.map.obj; exact heap_map_ne H.tree.cell ob2
  have h1sm : 1 ≠ sm := H.bodies.map.ne1 H.tree.glob
  obtain ⟨p, hp⟩ : ∃ p, Hid (p = fp c.1) := ⟨_, rfl⟩
  rw [← hp.out] at HC HF ⊢
  clear H hT hS hbv hBV hmay hfew hlook hgs
  go_enter Tryz.func30, Tryz.ntmps30
  go_wp2_with (first | (go_at_call 23; refine (HC.out _ (hb0 _)).mono ?_; rintro e w1 ⟨rfl, hq⟩; have HQ := Lib.hid ((hb0 (.cells #[.int .i64 4, .string p, .string tt, .int .i64 off, .int .i64 size, .slice none 0 0] 35)).trans (hq.mono (hb0 _).size)); have hx := Below.heap hq (Nat.le_refl _) (heap_new w (.cells #[.int .i64 4, .string p, .string tt, .int .i64 off, .int .i64 size, .slice none 0 0] 35)); have HX := Lib.hid hx; have x0 := cellAt hx 0; have x1 := cellAt hx 1; have x2 := cellAt hx 2; have x3 := cellAt hx 3; have x4 := cellAt hx 4; have x5 := cellAt hx 5; clear hq hx) | (go_at_call 63; refine (HF.out _ HQ.out).mono ?_; rintro e w2 ⟨rfl, hq⟩; have HQ2 := Lib.hid (HQ.out.trans (hq.mono HQ.out.size)); have HX2 := Lib.hid (Below.heap hq (Nat.le_refl _) HX.out); clear hq))
  have HS2 := Lib.hid (Below.heap HQ2.out (Nat.le_refl _) HH.out.cell)
  have HK : Hid (∀ W : World, W.heap[s]? = some (.cells #[.pointer (some ⟨a, 0, none⟩), .map (some sm)] 121 (0, 0)) → W.heap[w.heap.size]? = some (.cells #[.int .i64 4, .string p, .string tt, .int .i64 off, .int .i64 size, .slice none 0 0] 35 (0, 0)) → W.cell? ⟨s, 1, none⟩ = some (.map (some sm)) ∧ W.cell? ⟨w.heap.size, 4, none⟩ = some (.int .i64 size)) := Lib.hid (fun W h1 h2 => ⟨cellAt h1 1, cellAt h2 4⟩)
  have l1 := HLK.out w2.drew (HQ2.out.block sm hsml)
  have HBD := Lib.hid (HH.out.bodies.below HQ2.out)
  go_region_held3 (fun W => W.cell? ⟨s, 1, none⟩ = some (.map (some sm)) ∧ W.cell? ⟨w.heap.size, 4, none⟩ = some (.int .i64 size)) (first | exact HK.out _ HS2.out HX2.out | exact HK.out _ HS3.out HX3.out | exact HK.out _ HS4.out HX4.out) (first | (go_at_call 64; refine (HTR.out _ HQ2.out.drew).mono ?_; rintro e w3 ⟨v3, rfl, hbv, hq⟩; have HQ3 := Lib.hid (((Below.refl w2.heap.size w2).drew).trans hq); have HBV := Lib.hid hbv; have HS3 := Lib.hid (Below.heap HQ3.out (Nat.le_refl _) HS2.out); have HX3 := Lib.hid (Below.heap HQ3.out (Nat.le_refl _) HX2.out); have HBD3 := Lib.hid (HBD.out.below HQ3.out); obtain ⟨sv, rfl, hsl⟩ := hbv; obtain ⟨va, vc, rfl, -⟩ := parts_cells hsl; obtain ⟨w4, hrun, hm4, ht4⟩ := HBD3.out.map.store Tryz.underlying119 (by unfold maxLen; omega) (x := id) (KI_good (by omega)) (.agg #[.int .i64 (truncB bd size).size, .slice va (truncB bd size).parts.length vc]); rw [if_pos HGS.out] at hm4; (have hrun' : (Instr.mapUpdate 119 (.map (some sm)) (.int .i64 id) (.agg #[.int .i64 (truncB bd size).size, .slice va (truncB bd size).parts.length vc])).run Tryz.prog w3 = .ok () w4 := hrun); have HM4 := Lib.hid hm4; have HT4 := Lib.hid ht4; have HS4 := Lib.hid (turned_keep ht4 HS3.out hsm); have HX4 := Lib.hid (turned_keep ht4 HX3.out (fun e => by omega)); clear hq hsl hrun hm4 ht4))
  go_wp2_with fail
  go_ret
  have hqw := HQ2.out.trans (HQ3.out.mono HQ2.out.size)
  have hFr : Frame [sm] w w4 := (Frame.of_below hqw [sm]).turned HT4.out (.inl (by simp))
  refine ⟨rfl, fput g id (some (.agg #[.int .i64 (truncB bd size).size, .slice va (truncB bd size).parts.length vc])), ⟨HS4.out, HH.out.tree.frame hFr (by simpa using hasm) (by simpa using HH.out.ne) (by simpa using h1sm), ?_, HH.out.ne⟩, hFr⟩
  exact HBD3.out.put id _ (truncB bd size) HBV.out HMAY.out HFEW.out HM4.out HT4.out
end Go.Proofs.YtaonlcgneemimaaGreatDoor
