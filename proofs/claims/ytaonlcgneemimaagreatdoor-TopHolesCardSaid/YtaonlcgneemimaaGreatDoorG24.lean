/- TopHoles: the contracts of Y15, Y21, Y22, H4; no condition. -/
import Derived.Test.YtaonlcgneemimaaGreatDoorG22
import Derived.Test.YtaonlcgneemimaaGreatDoorG19
import Derived.Test.YtaonlcgneemimaaGreatDoorG23
import Derived.Test.YtaonlcgneemimaaGreatDoorG16
import Derived.Test.YtaonlcgneemimaaGreatDoorG15
import Derived.Test.YtaonlcgneemimaaGreatDoorG17
namespace Go.Proofs.YtaonlcgneemimaaGreatDoor
open Go.RowKit
set_option maxRecDepth 100000 in
set_option maxHeartbeats 8000000 in
theorem ingest_any (w : World) (r : Nat) (X : RepX) (H : RepAt w r X) (i : ItemA) (P' : List (List Int)) (da : Option Addr) (dn dc : Nat) (hi : okA X.y.x i) (hg : i.good) (hcl : CleanEv i) (h8 : i.op ≠ 8) (hd : i.op = 3 → dn ≤ 1024 ∧ i.off + dn ≤ 1099511627776) (hP : PcsOk w i da dn dc X.P P') (hlen : (recordB (X.xs.length + 1) (X.its ++ [i])).length ≤ 16384) (hfew : X.its.length ≤ 9999) :
    Calls Tryz.prog 9 #[.pointer (some ⟨r, 0, none⟩), .agg #[.int .i64 i.op, .string i.path, .string i.to, .int .i64 i.off, .int .i64 i.size, .slice da dn dc]] w fun e w' => e = .returned (.tuple #[.int .i64 ((X.xs.length : Int) + X.its.length + 1), .int .i64 0]) ∧ IngPost w r X i P' w' := by
  have HH := Lib.hid H
  have HP := Lib.hid hP
  have HI := Lib.hid hi
  have HG := Lib.hid hg
  have h8h := Lib.hid h8
  have hxs := H.hist.few
  have d8 : (i.op == 8) = false := by simpa using h8
  obtain ⟨ra, rcap, hrv, -, -, -⟩ := rows_cells H.rows
  obtain ⟨n, hn⟩ : ∃ n, Hid (n = X.its.length) := ⟨_, Lib.hid rfl⟩
  obtain ⟨N, hN⟩ : ∃ N, Hid (N = X.xs.length) := ⟨_, Lib.hid rfl⟩
  rw [← hn.out] at hrv hfew ⊢
  rw [← hN.out] at hxs ⊢
  have HRV := Lib.hid hrv
  have HC := Lib.hid H.cell
  rw [hrv] at HC
  have hlt := heap_lt H.cell
  obtain ⟨W0, hW0⟩ : ∃ W0, Hid (W0 = (w.alloc (.cells #[.int .i64 i.op, .string i.path, .string i.to, .int .i64 i.off, .int .i64 i.size, .slice da dn dc] 35))) := ⟨_, Lib.hid rfl⟩
  have hs0 : W0.heap.size = w.heap.size + 1 := by rw [hW0.out]; simp
  have B0 : Hid (Below w.heap.size w W0) := Lib.hid (by rw [hW0.out]; exact (Below.refl _ _).alloc (Nat.le_refl _) _)
  have KX : Hid (∀ W : World, Below W0.heap.size W0 W → W.cell? ⟨r, 2, none⟩ = some (.pointer (some ⟨X.c, 0, none⟩)) ∧ W.cell? ⟨r, 4, none⟩ = some (.float .f64 0) ∧ W.cell? ⟨r, 5, none⟩ = some (.slice ra n rcap) ∧ W.cell? ⟨r, 6, none⟩ = some (.pointer (some ⟨X.y.s, 0, none⟩)) ∧ W.cell? ⟨w.heap.size, 0, none⟩ = some (.int .i64 i.op) ∧ W.cell? ⟨w.heap.size, 1, none⟩ = some (.string i.path) ∧ W.cell? ⟨w.heap.size, 2, none⟩ = some (.string i.to) ∧ W.cell? ⟨w.heap.size, 3, none⟩ = some (.int .i64 i.off) ∧ W.cell? ⟨w.heap.size, 4, none⟩ = some (.int .i64 i.size) ∧ W.cell? ⟨w.heap.size, 5, none⟩ = some (.slice da dn dc)) := Lib.hid (fun W hW => by
    have h1 : W.heap[r]? = _ := Below.heap (B0.out.trans (hW.mono B0.out.size)) (Nat.le_refl _) HC.out
    have h0 : W0.heap[w.heap.size]? = some (.cells #[.int .i64 i.op, .string i.path, .string i.to, .int .i64 i.off, .int .i64 i.size, .slice da dn dc] 35 (0, 0)) := by rw [hW0.out]; exact heap_new _ _
    have h2 : W.heap[w.heap.size]? = _ := Below.heap hW (Nat.le_refl _) h0
    exact ⟨cellAt h1 2, cellAt h1 4, cellAt h1 5, cellAt h1 6, cellAt h2 0, cellAt h2 1, cellAt h2 2, cellAt h2 3, cellAt h2 4, cellAt h2 5⟩)
  have CK : Hid (∀ W, Below w.heap.size w W → Calls Tryz.prog 23 #[.pointer (some ⟨X.y.s, 0, none⟩), .agg #[.int .i64 i.op, .string i.path, .string i.to, .int .i64 i.off, .int .i64 i.size, .slice da dn dc]] W fun e w' => e = .returned (.int .i64 0) ∧ Below W.heap.size W w') := Lib.hid (fun W hW => checkS_any W X.y (HH.out.st.below hW) i hi da dn dc hd)
  have CP : Hid (∀ W, Below w.heap.size w W → Calls Tryz.prog 25 #[.pointer (some ⟨X.c, 0, none⟩)] W fun e w' => ∃ c', e = .returned (.pointer (some ⟨c', 0, none⟩)) ∧ ∃ bl' bb' fb' m', ChunksAt w' W.heap.size c' X.P bl' bb' X.vs fb' m' X.sz ∧ Below W.heap.size W w') := Lib.hid (fun W hW => copy_any3 W 0 X.c X.P X.bl X.bb X.vs X.fb X.m X.sz (HH.out.chunks.below hW))
  have CN : Hid (∀ W, Calls Tryz.prog 26 #[.agg #[.int .i64 i.op, .string i.path, .string i.to, .int .i64 i.off, .int .i64 i.size, .slice da dn dc]] W fun e w' => e = .returned (.agg #[.int .i64 i.op, .string i.path, .string i.to, .int .i64 i.off, .int .i64 i.size, .slice none 0 0]) ∧ Below W.heap.size W w') := Lib.hid (fun W => clean_any W i hcl da dn dc)
  have NX : Hid (∀ W, Below w.heap.size w W → Calls Tryz.prog 29 #[.pointer (some ⟨r, 0, none⟩)] W fun e w' => e = .returned (.int .i64 ((N : Int) + n + 1)) ∧ Below W.heap.size W w') := Lib.hid (fun W hW => by
    rw [hN.out]
    exact repNext_any W r X.h _ _ _ _ _ _ _ X.xs ra n rcap (Below.heap hW (Nat.le_refl _) HC.out) (HH.out.hist.below hW) (by omega))
  have BT : Hid (∀ W v, Below w.heap.size w W → RowsV W v (X.its ++ [i]) → Calls Tryz.prog 28 #[.pointer (some ⟨r, 0, none⟩), v] W fun e w' => ∃ v', e = .returned (.tuple #[v', .int .i64 0]) ∧ Below W.heap.size W w' ∧ v'.oneCell' = true) := Lib.hid (fun W v hW hv => by
    refine (repBatch_any W r X.h _ _ _ _ _ _ _ _ X.xs (Below.heap hW (Nat.le_refl _) HC.out) (HH.out.hist.below hW) v _ hv (fun j hj => ?_) (by simp) (by have := hn.out; simp; omega) hlen).mono ?_
    · rcases List.mem_append.1 hj with hj | hj
      · exact (HH.out.good j hj).1
      · simp only [List.mem_singleton] at hj
        subst hj
        exact hg
    · rintro e w' ⟨v', rfl, ho, hq⟩
      obtain ⟨pa, pc, rfl⟩ := own_shape ho
      exact ⟨_, rfl, hq, rfl⟩)
  have ROW : Hid (∀ W, Below w.heap.size w W → RowsV W (.slice ra n rcap) X.its) := Lib.hid (fun W hW => by
    have := HH.out.rows.below hW
    rw [HRV.out] at this
    exact this)
  have AP : Hid (∀ W lv, Below w.heap.size w W → Sl W 134 4 lv i.parts.length (partsC i.parts) → Calls Tryz.prog 30 #[.pointer (some ⟨X.y.s, 0, none⟩), .agg #[.int .i64 i.op, .string i.path, .string i.to, .int .i64 i.off, .int .i64 i.size, .slice none 0 0], lv] W fun e w' => e = .returned (.int .i64 0) ∧ ∃ nb' g', StAt w' ⟨X.y.s, X.y.a, X.y.b, X.y.sm, nb', g', stepA X.y.x i⟩ ∧ Frame [X.y.a, X.y.b, X.y.sm] W w') := Lib.hid (fun W lv hW hl => applyS_any W X.y (HH.out.st.below hW) i HI.out lv hl)
  obtain ⟨Q, hQ⟩ : ∃ Q, Hid (Q = IngPost w r X i P') := ⟨_, Lib.hid rfl⟩
  have FIN : Hid (∀ (w5 w6 : World) (B c' bl' bb' m' nb' : Nat) (vs' : List Value) (fb' g' : Int → Option Value) (sz' : Int) (rv' : Value), Below w.heap.size w w5 → ChunksAt w5 B c' P' bl' bb' vs' fb' m' sz' → VsOk w X.vs vs' → w.heap.size ≤ B → RowsV w5 rv' (X.its ++ [i]) → StAt w6 ⟨X.y.s, X.y.a, X.y.b, X.y.sm, nb', g', stepA X.y.x i⟩ → Frame [X.y.a, X.y.b, X.y.sm] w5 w6 → Q ((w6.setCell ⟨r, 2, none⟩ (.pointer (some ⟨c', 0, none⟩))).setCell ⟨r, 5, none⟩ rv')) := Lib.hid (fun w5 w6 B c' bl' bb' m' nb' vs' fb' g' sz' rv' a1 a2 a3 a4 a5 a6 a7 => by
    rw [hQ.out]
    exact ing_close H hi hg h8 a1 a2 a3 a4 a5 a6 a7)
  have hw0 := hW0.out
  have S0 := KX.out W0 (Below.refl _ _)
  rw [← hQ.out]
  clear H hP hi hg hcl h8 hd hlen hrv
  go_enter Tryz.func9, Tryz.ntmps9
  go_wp2_with fail
  rw [← hw0]
  clear hw0
  have R0 : Hid (Below W0.heap.size W0 W0.drew) := Lib.hid (Below.refl _ _).drew
  have S0d := KX.out W0.drew (Below.refl _ _).drew
  obtain ⟨s2, s4, s5, s6, x0, x1, x2, x3, x4, x5⟩ := S0d
  go_region_held3 (fun W => W.cell? ⟨r, 2, none⟩ = some (.pointer (some ⟨X.c, 0, none⟩)) ∧ W.cell? ⟨r, 4, none⟩ = some (.float .f64 0) ∧ W.cell? ⟨r, 5, none⟩ = some (.slice ra n rcap) ∧ W.cell? ⟨r, 6, none⟩ = some (.pointer (some ⟨X.y.s, 0, none⟩)) ∧ W.cell? ⟨w.heap.size, 0, none⟩ = some (.int .i64 i.op) ∧ W.cell? ⟨w.heap.size, 1, none⟩ = some (.string i.path) ∧ W.cell? ⟨w.heap.size, 2, none⟩ = some (.string i.to) ∧ W.cell? ⟨w.heap.size, 3, none⟩ = some (.int .i64 i.off) ∧ W.cell? ⟨w.heap.size, 4, none⟩ = some (.int .i64 i.size) ∧ W.cell? ⟨w.heap.size, 5, none⟩ = some (.slice da dn dc)) (first | exact ⟨s2, s4, s5, s6, x0, x1, x2, x3, x4, x5⟩ | exact KX.out _ B1.out) (first | (go_at_call 23; with_reducible refine (CK.out _ B0.out.drew).mono ?_; rintro e1 w1 ⟨rfl, hq⟩; have B1 : Hid (Below W0.heap.size W0 w1) := Lib.hid (R0.out.trans (hq.mono R0.out.size)); clear hq))
  have S1 := KX.out w1 B1.out
  clear s2 s4 s5 s6 x0 x1 x2 x3 x4 x5
  obtain ⟨s2, s4, s5, s6, x0, x1, x2, x3, x4, x5⟩ := S1
  have Bw1 : Hid (Below w.heap.size w w1) := Lib.hid (B0.out.trans (B1.out.mono B0.out.size))
  have hs1 : W0.heap.size ≤ w1.heap.size := B1.out.size
  obtain ⟨B, hB⟩ : ∃ B, Hid (B = w1.heap.size) := ⟨_, Lib.hid rfl⟩
  go_upto_region 9 with (go_at_call 25; with_reducible refine (CP.out _ Bw1.out).mono ?_; rintro e1 w2 ⟨c', rfl, bl', bb', fb', m', hch, hq⟩; rw [← hB.out] at hch hq; have C2 := Lib.hid hch; have B2 := Lib.hid hq; clear hch hq)
  have hB2 : B ≤ w2.heap.size := Nat.le_trans (Nat.le_of_eq hB.out) (by have := B2.out.size; omega)
  have hB0 : W0.heap.size ≤ B := by rw [hB.out]; exact hs1
  have B02 : Hid (Below W0.heap.size W0 w2) := Lib.hid (B1.out.trans (B2.out.mono hB0))
  have KY : Hid (∀ W : World, Below B w2 W → W.cell? ⟨r, 2, none⟩ = some (.pointer (some ⟨X.c, 0, none⟩)) ∧ W.cell? ⟨r, 4, none⟩ = some (.float .f64 0) ∧ W.cell? ⟨r, 5, none⟩ = some (.slice ra n rcap) ∧ W.cell? ⟨r, 6, none⟩ = some (.pointer (some ⟨X.y.s, 0, none⟩)) ∧ W.cell? ⟨w.heap.size, 0, none⟩ = some (.int .i64 i.op) ∧ W.cell? ⟨w.heap.size, 1, none⟩ = some (.string i.path) ∧ W.cell? ⟨w.heap.size, 2, none⟩ = some (.string i.to) ∧ W.cell? ⟨w.heap.size, 3, none⟩ = some (.int .i64 i.off) ∧ W.cell? ⟨w.heap.size, 4, none⟩ = some (.int .i64 i.size) ∧ W.cell? ⟨w.heap.size, 5, none⟩ = some (.slice da dn dc)) := Lib.hid (fun W hW => KX.out W (B02.out.trans (hW.mono hB0)))
  have PC : Hid (∀ W, Below w2.heap.size w2 W → Calls Tryz.prog 27 #[.pointer (some ⟨c', 0, none⟩), .agg #[.int .i64 i.op, .string i.path, .string i.to, .int .i64 i.off, .int .i64 i.size, .slice da dn dc]] W fun e w' => ∃ v', e = .returned v' ∧ Sl w' 134 4 v' i.parts.length (partsC i.parts) ∧ (∃ vs2 fb2 m2 sz2, ChunksAt w' B c' P' bl' bb' vs2 fb2 m2 sz2 ∧ VsOk w2 X.vs vs2) ∧ Below B w2 w' ∧ KeptC W w') := Lib.hid (fun W hW => by
    refine (HP.out W B c' bl' bb' X.vs fb' m' X.sz ((B0.out.trans (B02.out.mono B0.out.size)).trans (hW.mono (by have := B0.out.size; omega))) (C2.out.below hW) (Nat.le_trans hB2 hW.size)).mono ?_
    rintro e w' ⟨v', e1, h1, ⟨vs2, fb2, m2, sz2, h2, h5⟩, h3, h4⟩
    exact ⟨v', e1, h1, ⟨vs2, fb2, m2, sz2, h2, h5.before hW.size⟩, (hW.mono hB2).trans h3, h4⟩)
  have Rd : Hid (Below w2.heap.size w2 w2.drew) := Lib.hid (Below.refl _ _).drew
  have Rz : Hid (Below w2.heap.size w2 (w2.alloc (.cells #[.float .f64 0, .int .i64 0, .string ⟨#[]⟩, .string ⟨#[]⟩, .int .i64 0, .int .i64 0, .slice none 0 0, .slice none 0 0] 86)).drew) := Lib.hid (((Below.refl _ _).alloc (Nat.le_refl _) _).drew)
  have Hz : Hid ((w2.alloc (.cells #[.float .f64 0, .int .i64 0, .string ⟨#[]⟩, .string ⟨#[]⟩, .int .i64 0, .int .i64 0, .slice none 0 0, .slice none 0 0] 86)).drew.heap[w2.heap.size]? = some (.cells rowZ 86 (0, 0))) := Lib.hid (heap_new w2 (.cells #[.float .f64 0, .int .i64 0, .string ⟨#[]⟩, .string ⟨#[]⟩, .int .i64 0, .int .i64 0, .slice none 0 0, .slice none 0 0] 86))
  have Rdb : Hid (Below B w2 w2.drew) := Lib.hid (Rd.out.mono hB2)
  have Rzb : Hid (Below B w2 (w2.alloc (.cells #[.float .f64 0, .int .i64 0, .string ⟨#[]⟩, .string ⟨#[]⟩, .int .i64 0, .int .i64 0, .slice none 0 0, .slice none 0 0] 86)).drew) := Lib.hid (Rz.out.mono hB2)
  have BOX : Hid (∀ (W : World) (q : Nat), Below B w2 W → B ≤ q → W.heap[q]? = some (.cells rowZ 86 (0, 0)) → ∀ a0 a1 a2 a3 a4 a5 a6 a7 : Value, Below B w2 ((((((((W.setCell ⟨q, 0, none⟩ a0).setCell ⟨q, 1, none⟩ a1).setCell ⟨q, 2, none⟩ a2).setCell ⟨q, 3, none⟩ a3).setCell ⟨q, 4, none⟩ a4).setCell ⟨q, 5, none⟩ a5).setCell ⟨q, 6, none⟩ a6).setCell ⟨q, 7, none⟩ a7)) := Lib.hid (fun W q hW hq hz a0 a1 a2 a3 a4 a5 a6 a7 => (row_box hz a0 a1 a2 a3 a4 a5 a6 a7).2.belowIf hW (by simpa using hq) (Nat.le_trans hB2 hW.size))
  clear s2 s4 s5 s6 x0 x1 x2 x3 x4 x5
  have hSB : ∀ {L : Array Bool} {W : World}, Below B w2 W → TillC 99 (fun _ => True) (fun W => W.cell? ⟨r, 4, none⟩ = some (.float .f64 0) ∧ W.cell? ⟨w.heap.size, 0, none⟩ = some (.int .i64 i.op) ∧ W.cell? ⟨w.heap.size, 1, none⟩ = some (.string i.path) ∧ W.cell? ⟨w.heap.size, 2, none⟩ = some (.string i.to) ∧ W.cell? ⟨w.heap.size, 3, none⟩ = some (.int .i64 i.off) ∧ W.cell? ⟨w.heap.size, 4, none⟩ = some (.int .i64 i.size) ∧ W.cell? ⟨w.heap.size, 5, none⟩ = some (.slice da dn dc)) L W := fun {L} {W} hW => by
    obtain ⟨s2, s4, s5, s6, x0, x1, x2, x3, x4, x5⟩ := KY.out W hW
    exact ⟨fun _ => trivial, s4, x0, x1, x2, x3, x4, x5⟩
  have hS0 : ∀ L : Array Bool, TillC 99 (fun _ => True) (fun W => W.cell? ⟨r, 4, none⟩ = some (.float .f64 0) ∧ W.cell? ⟨w.heap.size, 0, none⟩ = some (.int .i64 i.op) ∧ W.cell? ⟨w.heap.size, 1, none⟩ = some (.string i.path) ∧ W.cell? ⟨w.heap.size, 2, none⟩ = some (.string i.to) ∧ W.cell? ⟨w.heap.size, 3, none⟩ = some (.int .i64 i.off) ∧ W.cell? ⟨w.heap.size, 4, none⟩ = some (.int .i64 i.size) ∧ W.cell? ⟨w.heap.size, 5, none⟩ = some (.slice da dn dc)) L w2.drew := fun L => hSB Rdb.out
  have hsf := fun (W : World) (p : Addr) => run_store Tryz.prog W p (.float .f64 0) .plain rfl
  go_cut [8] from 14 (fun s8 wc => ∃ q v', s8 = .pointer (some ⟨q, 0, none⟩) ∧ Hid (IngC w2 wc B c' bl' bb' X.vs P' i v' q))
  case first =>
    refine wp_region_T (TillC 99 (fun _ => True) (fun W => W.cell? ⟨r, 4, none⟩ = some (.float .f64 0) ∧ W.cell? ⟨w.heap.size, 0, none⟩ = some (.int .i64 i.op) ∧ W.cell? ⟨w.heap.size, 1, none⟩ = some (.string i.path) ∧ W.cell? ⟨w.heap.size, 2, none⟩ = some (.string i.to) ∧ W.cell? ⟨w.heap.size, 3, none⟩ = some (.int .i64 i.off) ∧ W.cell? ⟨w.heap.size, 4, none⟩ = some (.int .i64 i.size) ∧ W.cell? ⟨w.heap.size, 5, none⟩ = some (.slice da dn dc))) rfl ?_
    simp only [List.size_toArray, List.length_cons, List.length_nil, Nat.reduceAdd, Array.replicate_succ, Array.replicate_zero, List.push_toArray, List.nil_append, List.cons_append]
    refine anyT_take (i := 0) (p := 1) (v := ?v1) rfl rfl (by kernel_rfl) (fun L w => TillC_set (by decide) L w) (by kernel_rfl) (by kernel_rfl) (by kernel_rfl) (by kernel_rfl) (fun _ _ _ h => h) (Or.inl ⟨by rfl, fun w hw => ?y1⟩) (hS0 _) ?r1
    case y1 => obtain ⟨L, hL, hS⟩ := hw; obtain ⟨r4, x0, x1, x2, x3, x4, x5⟩ := hS.2; go_simp; (try with_reducible rfl)
    simp only [Act.put, List.setIfInBounds_toArray, List.set_cons_zero, List.set_cons_succ, List.getElem_toArray, List.getElem_cons_zero, List.getElem_cons_succ]
    refine anyT_take (i := 1) (p := 2) (v := ?v2) rfl rfl (by kernel_rfl) (fun L w => TillC_set (by decide) L w) (by kernel_rfl) (by kernel_rfl) (by kernel_rfl) (by kernel_rfl) (fun _ _ _ h => h) (Or.inl ⟨by rfl, fun w hw => ?y2⟩) (hS0 _) ?r2
    case y2 => obtain ⟨L, hL, hS⟩ := hw; obtain ⟨r4, x0, x1, x2, x3, x4, x5⟩ := hS.2; go_simp; (try with_reducible rfl)
    simp only [Act.put, List.setIfInBounds_toArray, List.set_cons_zero, List.set_cons_succ, List.getElem_toArray, List.getElem_cons_zero, List.getElem_cons_succ]
    refine anyT_take (i := 2) (p := 3) (v := ?v3) rfl rfl (by kernel_rfl) (fun L w => TillC_set (by decide) L w) (by kernel_rfl) (by kernel_rfl) (by kernel_rfl) (by kernel_rfl) (fun _ _ _ h => h) (Or.inl ⟨by rfl, fun w hw => ?y3⟩) (hS0 _) ?r3
    case y3 => obtain ⟨L, hL, hS⟩ := hw; obtain ⟨r4, x0, x1, x2, x3, x4, x5⟩ := hS.2; go_simp; (try with_reducible rfl)
    simp only [Act.put, List.setIfInBounds_toArray, List.set_cons_zero, List.set_cons_succ, List.getElem_toArray, List.getElem_cons_zero, List.getElem_cons_succ]
    refine anyT_take (i := 3) (p := 10) (v := ?v4) rfl rfl (by kernel_rfl) (fun L w => TillC_set (by decide) L w) (by kernel_rfl) (by kernel_rfl) (by kernel_rfl) (by kernel_rfl) (fun _ _ _ h => h) (Or.inl ⟨by rfl, fun w hw => ?y4⟩) (hS0 _) ?r4
    case y4 => obtain ⟨L, hL, hS⟩ := hw; obtain ⟨r4, x0, x1, x2, x3, x4, x5⟩ := hS.2; go_simp; (try with_reducible rfl)
    simp only [Act.put, List.setIfInBounds_toArray, List.set_cons_zero, List.set_cons_succ, List.getElem_toArray, List.getElem_cons_zero, List.getElem_cons_succ]
    refine anyT_take (i := 4) (p := 5) (v := ?v5) rfl rfl (by kernel_rfl) (fun L w => TillC_set (by decide) L w) (by kernel_rfl) (by kernel_rfl) (by kernel_rfl) (by kernel_rfl) (fun _ _ _ h => h) (Or.inl ⟨by rfl, fun w hw => ?y5⟩) (hS0 _) ?r5
    case y5 => obtain ⟨L, hL, hS⟩ := hw; obtain ⟨r4, x0, x1, x2, x3, x4, x5⟩ := hS.2; go_simp; (try with_reducible rfl)
    simp only [Act.put, List.setIfInBounds_toArray, List.set_cons_zero, List.set_cons_succ, List.getElem_toArray, List.getElem_cons_zero, List.getElem_cons_succ]
    refine anyT_take (i := 6) (p := 8) (v := ?v6) rfl rfl (by kernel_rfl) (fun L w => TillC_set (by decide) L w) (by kernel_rfl) (by kernel_rfl) (by kernel_rfl) (by kernel_rfl) (fun _ _ _ h => h) (Or.inl ⟨by rfl, fun w hw => ?y6⟩) (hS0 _) ?r6
    case y6 => obtain ⟨L, hL, hS⟩ := hw; obtain ⟨r4, x0, x1, x2, x3, x4, x5⟩ := hS.2; go_simp; (try with_reducible rfl)
    simp only [Act.put, List.setIfInBounds_toArray, List.set_cons_zero, List.set_cons_succ, List.getElem_toArray, List.getElem_cons_zero, List.getElem_cons_succ]
    refine anyT_take (i := 7) (p := 8) (v := ?v7) rfl rfl (by kernel_rfl) (fun L w => TillC_set (by decide) L w) (by kernel_rfl) (by kernel_rfl) (by kernel_rfl) (by kernel_rfl) (fun _ _ _ h => h) (Or.inl ⟨by rfl, fun w hw => ?y7⟩) (hS0 _) ?r7
    case y7 => obtain ⟨L, hL, hS⟩ := hw; obtain ⟨r4, x0, x1, x2, x3, x4, x5⟩ := hS.2; go_simp; (try with_reducible rfl)
    simp only [Act.put, List.setIfInBounds_toArray, List.set_cons_zero, List.set_cons_succ, List.getElem_toArray, List.getElem_cons_zero, List.getElem_cons_succ]
    refine anyT_all (rs := [5, 11]) (by kernel_rfl) (by simp) ?_
    intro jj hj
    simp only [List.mem_cons, List.not_mem_nil, or_false] at hj
    rcases hj with rfl | rfl
    · refine T_step rfl (fun K' hK => ?_)
      go_simp
      go_at_call 26
      refine (CN.out _).mono ?_
      rintro e1 w3 ⟨rfl, hq⟩
      have B3 : Hid (Below w2.heap.size w2 w3) := Lib.hid (Rd.out.trans (hq.mono Rd.out.size))
      have B3b : Hid (Below B w2 w3) := Lib.hid (B3.out.mono hB2)
      have hB3 : B ≤ w3.heap.size := Nat.le_trans hB2 B3.out.size
      refine hK.out _ _ (hSB B3b.out) ?_
      simp only [Act.put, List.setIfInBounds_toArray, List.set_cons_zero, List.set_cons_succ, List.getElem_toArray, List.getElem_cons_zero, List.getElem_cons_succ]
      refine anyT_all (rs := [8, 11]) (by kernel_rfl) (by simp) ?_
      intro jj hj
      simp only [List.mem_cons, List.not_mem_nil, or_false] at hj
      rcases hj with rfl | rfl
      · refine T_step rfl (fun K' hK => ?_)
        go_simp
        go_at_call 27
        refine (PC.out (w3) (B3.out)).mono ?_
        rintro e1 w4 ⟨v', rfl, hs4, hc4, hb4, hk4⟩
        have S4 := Lib.hid hs4
        have C4 := Lib.hid hc4
        have B4 := Lib.hid hb4
        have hB4 : B ≤ w4.heap.size := Nat.le_trans hB2 B4.out.size
        refine hK.out _ _ (hSB B4.out) ?_
        simp only [Act.put, List.setIfInBounds_toArray, List.set_cons_zero, List.set_cons_succ, List.getElem_toArray, List.getElem_cons_zero, List.getElem_cons_succ]
        obtain ⟨pa4, pc4, rfl, -, -, -⟩ := hs4.shape
        refine anyT_take (i := 9) (p := 10) (v := ?v8) rfl rfl (by kernel_rfl) (fun L w => TillC_set (by decide) L w) (by kernel_rfl) (by kernel_rfl) (by kernel_rfl) (by kernel_rfl) (fun _ _ _ h => h) (Or.inl ⟨by rfl, fun w hw => ?y8⟩) (hSB B4.out) ?r8
        case y8 => obtain ⟨L, hL, hS⟩ := hw; obtain ⟨r4, x0, x1, x2, x3, x4, x5⟩ := hS.2; go_simp; (try with_reducible rfl)
        simp only [Act.put, List.setIfInBounds_toArray, List.set_cons_zero, List.set_cons_succ, List.getElem_toArray, List.getElem_cons_zero, List.getElem_cons_succ]
        refine anyT_take (i := 10) (p := 12) (v := ?v9) rfl rfl (by kernel_rfl) (fun L w => TillC_set (by decide) L w) (by kernel_rfl) (by kernel_rfl) (by kernel_rfl) (by kernel_rfl) (fun _ _ _ h => h) (Or.inl ⟨by rfl, fun w hw => ?y9⟩) (hSB B4.out) ?r9
        case y9 => obtain ⟨L, hL, hS⟩ := hw; obtain ⟨r4, x0, x1, x2, x3, x4, x5⟩ := hS.2; go_simp; (try with_reducible rfl)
        simp only [Act.put, List.setIfInBounds_toArray, List.set_cons_zero, List.set_cons_succ, List.getElem_toArray, List.getElem_cons_zero, List.getElem_cons_succ]
        refine anyT_all (rs := [11]) (by kernel_rfl) (by simp) ?_
        intro jj hj
        simp only [List.mem_singleton] at hj
        subst hj
        refine T_step rfl (fun K' hK => ?_)
        go_simp
        refine hK.out _ _ (hSB (B4.out.alloc hB4 _)) ?_
        simp only [Act.put, List.setIfInBounds_toArray, List.set_cons_zero, List.set_cons_succ, List.getElem_toArray, List.getElem_cons_zero, List.getElem_cons_succ]
        have Q3 := rowZ_at (rowZ_new w4)
        have z0 := cellAt Q3 0
        have f0 := frozenAt Q3 0
        have z1 := cellAt Q3 1
        have f1 := frozenAt Q3 1
        have z2 := cellAt Q3 2
        have f2 := frozenAt Q3 2
        have z3 := cellAt Q3 3
        have f3 := frozenAt Q3 3
        have z4 := cellAt Q3 4
        have f4 := frozenAt Q3 4
        have z5 := cellAt Q3 5
        have f5 := frozenAt Q3 5
        have z6 := cellAt Q3 6
        have f6 := frozenAt Q3 6
        have z7 := cellAt Q3 7
        have f7 := frozenAt Q3 7
        refine anyT_all (rs := [12]) (by kernel_rfl) (by simp) ?_
        intro jj hj
        simp only [List.mem_singleton] at hj
        subst hj
        refine T_step rfl (fun K' hK => ?_)
        go_simp
        refine hK.out _ _ (hSB (B4.out.alloc hB4 _)) ?_
        simp only [Act.put, List.setIfInBounds_toArray, List.set_cons_zero, List.set_cons_succ, List.getElem_toArray, List.getElem_cons_zero, List.getElem_cons_succ]
        refine anyT_done (by kernel_rfl) ?_ _
        go_wp2_with fail
        go_meet
        case rel => exact ⟨_, _, rfl, Lib.hid (ing_alloc S4.out C4.out B4.out hB2)⟩
      · refine T_step rfl (fun K' hK => ?_)
        go_simp
        refine hK.out _ _ (hSB (B3b.out.alloc hB3 _)) ?_
        simp only [Act.put, List.setIfInBounds_toArray, List.set_cons_zero, List.set_cons_succ, List.getElem_toArray, List.getElem_cons_zero, List.getElem_cons_succ]
        refine anyT_all (rs := [8]) (by kernel_rfl) (by simp) ?_
        intro jj hj
        simp only [List.mem_singleton] at hj
        subst hj
        refine T_step rfl (fun K' hK => ?_)
        go_simp
        go_at_call 27
        refine (PC.out (w3.alloc (.cells #[.float .f64 0, .int .i64 0, .string ⟨#[]⟩, .string ⟨#[]⟩, .int .i64 0, .int .i64 0, .slice none 0 0, .slice none 0 0] 86)) (B3.out.alloc B3.out.size _)).mono ?_
        rintro e1 w4 ⟨v', rfl, hs4, hc4, hb4, hk4⟩
        have S4 := Lib.hid hs4
        have C4 := Lib.hid hc4
        have B4 := Lib.hid hb4
        have hB4 : B ≤ w4.heap.size := Nat.le_trans hB2 B4.out.size
        refine hK.out _ _ (hSB B4.out) ?_
        simp only [Act.put, List.setIfInBounds_toArray, List.set_cons_zero, List.set_cons_succ, List.getElem_toArray, List.getElem_cons_zero, List.getElem_cons_succ]
        obtain ⟨pa4, pc4, rfl, -, -, -⟩ := hs4.shape
        have Z4 : Hid (w4.heap[w3.heap.size]? = some (.cells rowZ 86 (0, 0))) := Lib.hid (keptC_row hk4 (rowZ_new w3))
        refine anyT_take (i := 9) (p := 10) (v := ?v10) rfl rfl (by kernel_rfl) (fun L w => TillC_set (by decide) L w) (by kernel_rfl) (by kernel_rfl) (by kernel_rfl) (by kernel_rfl) (fun _ _ _ h => h) (Or.inl ⟨by rfl, fun w hw => ?y10⟩) (hSB B4.out) ?r10
        case y10 => obtain ⟨L, hL, hS⟩ := hw; obtain ⟨r4, x0, x1, x2, x3, x4, x5⟩ := hS.2; go_simp; (try with_reducible rfl)
        simp only [Act.put, List.setIfInBounds_toArray, List.set_cons_zero, List.set_cons_succ, List.getElem_toArray, List.getElem_cons_zero, List.getElem_cons_succ]
        refine anyT_take (i := 10) (p := 12) (v := ?v11) rfl rfl (by kernel_rfl) (fun L w => TillC_set (by decide) L w) (by kernel_rfl) (by kernel_rfl) (by kernel_rfl) (by kernel_rfl) (fun _ _ _ h => h) (Or.inl ⟨by rfl, fun w hw => ?y11⟩) (hSB B4.out) ?r11
        case y11 => obtain ⟨L, hL, hS⟩ := hw; obtain ⟨r4, x0, x1, x2, x3, x4, x5⟩ := hS.2; go_simp; (try with_reducible rfl)
        simp only [Act.put, List.setIfInBounds_toArray, List.set_cons_zero, List.set_cons_succ, List.getElem_toArray, List.getElem_cons_zero, List.getElem_cons_succ]
        have Q3 := rowZ_at Z4.out
        have z0 := cellAt Q3 0
        have f0 := frozenAt Q3 0
        have z1 := cellAt Q3 1
        have f1 := frozenAt Q3 1
        have z2 := cellAt Q3 2
        have f2 := frozenAt Q3 2
        have z3 := cellAt Q3 3
        have f3 := frozenAt Q3 3
        have z4 := cellAt Q3 4
        have f4 := frozenAt Q3 4
        have z5 := cellAt Q3 5
        have f5 := frozenAt Q3 5
        have z6 := cellAt Q3 6
        have f6 := frozenAt Q3 6
        have z7 := cellAt Q3 7
        have f7 := frozenAt Q3 7
        refine anyT_all (rs := [12]) (by kernel_rfl) (by simp) ?_
        intro jj hj
        simp only [List.mem_singleton] at hj
        subst hj
        refine T_step rfl (fun K' hK => ?_)
        go_simp
        refine hK.out _ _ (hSB (BOX.out _ _ B4.out (by omega) Z4.out _ _ _ _ _ _ _ _)) ?_
        simp only [Act.put, List.setIfInBounds_toArray, List.set_cons_zero, List.set_cons_succ, List.getElem_toArray, List.getElem_cons_zero, List.getElem_cons_succ]
        refine anyT_done (by kernel_rfl) ?_ _
        go_wp2_with fail
        go_meet
        case rel => exact ⟨_, _, rfl, Lib.hid (ing_set S4.out C4.out B4.out (by omega) Z4.out)⟩
    · refine T_step rfl (fun K' hK => ?_)
      go_simp
      refine hK.out _ _ (hSB (Rzb.out)) ?_
      simp only [Act.put, List.setIfInBounds_toArray, List.set_cons_zero, List.set_cons_succ, List.getElem_toArray, List.getElem_cons_zero, List.getElem_cons_succ]
      refine anyT_all (rs := [5]) (by kernel_rfl) (by simp) ?_
      intro jj hj
      simp only [List.mem_singleton] at hj
      subst hj
      refine T_step rfl (fun K' hK => ?_)
      go_simp
      go_at_call 26
      refine (CN.out _).mono ?_
      rintro e1 w3 ⟨rfl, hq⟩
      have B3 : Hid (Below w2.heap.size w2 w3) := Lib.hid (Rz.out.trans (hq.mono Rz.out.size))
      have B3b : Hid (Below B w2 w3) := Lib.hid (B3.out.mono hB2)
      have hB3 : B ≤ w3.heap.size := Nat.le_trans hB2 B3.out.size
      have Z3 : Hid (w3.heap[w2.heap.size]? = some (.cells rowZ 86 (0, 0))) := Lib.hid (Below.heap hq (Nat.le_refl _) Hz.out)
      refine hK.out _ _ (hSB B3b.out) ?_
      simp only [Act.put, List.setIfInBounds_toArray, List.set_cons_zero, List.set_cons_succ, List.getElem_toArray, List.getElem_cons_zero, List.getElem_cons_succ]
      refine anyT_all (rs := [8]) (by kernel_rfl) (by simp) ?_
      intro jj hj
      simp only [List.mem_singleton] at hj
      subst hj
      refine T_step rfl (fun K' hK => ?_)
      go_simp
      go_at_call 27
      refine (PC.out (w3) (B3.out)).mono ?_
      rintro e1 w4 ⟨v', rfl, hs4, hc4, hb4, hk4⟩
      have S4 := Lib.hid hs4
      have C4 := Lib.hid hc4
      have B4 := Lib.hid hb4
      have hB4 : B ≤ w4.heap.size := Nat.le_trans hB2 B4.out.size
      refine hK.out _ _ (hSB B4.out) ?_
      simp only [Act.put, List.setIfInBounds_toArray, List.set_cons_zero, List.set_cons_succ, List.getElem_toArray, List.getElem_cons_zero, List.getElem_cons_succ]
      obtain ⟨pa4, pc4, rfl, -, -, -⟩ := hs4.shape
      have Z4 : Hid (w4.heap[w2.heap.size]? = some (.cells rowZ 86 (0, 0))) := Lib.hid (keptC_row hk4 (Z3.out))
      refine anyT_take (i := 9) (p := 10) (v := ?v12) rfl rfl (by kernel_rfl) (fun L w => TillC_set (by decide) L w) (by kernel_rfl) (by kernel_rfl) (by kernel_rfl) (by kernel_rfl) (fun _ _ _ h => h) (Or.inl ⟨by rfl, fun w hw => ?y12⟩) (hSB B4.out) ?r12
      case y12 => obtain ⟨L, hL, hS⟩ := hw; obtain ⟨r4, x0, x1, x2, x3, x4, x5⟩ := hS.2; go_simp; (try with_reducible rfl)
      simp only [Act.put, List.setIfInBounds_toArray, List.set_cons_zero, List.set_cons_succ, List.getElem_toArray, List.getElem_cons_zero, List.getElem_cons_succ]
      refine anyT_take (i := 10) (p := 12) (v := ?v13) rfl rfl (by kernel_rfl) (fun L w => TillC_set (by decide) L w) (by kernel_rfl) (by kernel_rfl) (by kernel_rfl) (by kernel_rfl) (fun _ _ _ h => h) (Or.inl ⟨by rfl, fun w hw => ?y13⟩) (hSB B4.out) ?r13
      case y13 => obtain ⟨L, hL, hS⟩ := hw; obtain ⟨r4, x0, x1, x2, x3, x4, x5⟩ := hS.2; go_simp; (try with_reducible rfl)
      simp only [Act.put, List.setIfInBounds_toArray, List.set_cons_zero, List.set_cons_succ, List.getElem_toArray, List.getElem_cons_zero, List.getElem_cons_succ]
      have Q3 := rowZ_at Z4.out
      have z0 := cellAt Q3 0
      have f0 := frozenAt Q3 0
      have z1 := cellAt Q3 1
      have f1 := frozenAt Q3 1
      have z2 := cellAt Q3 2
      have f2 := frozenAt Q3 2
      have z3 := cellAt Q3 3
      have f3 := frozenAt Q3 3
      have z4 := cellAt Q3 4
      have f4 := frozenAt Q3 4
      have z5 := cellAt Q3 5
      have f5 := frozenAt Q3 5
      have z6 := cellAt Q3 6
      have f6 := frozenAt Q3 6
      have z7 := cellAt Q3 7
      have f7 := frozenAt Q3 7
      refine anyT_all (rs := [12]) (by kernel_rfl) (by simp) ?_
      intro jj hj
      simp only [List.mem_singleton] at hj
      subst hj
      refine T_step rfl (fun K' hK => ?_)
      go_simp
      refine hK.out _ _ (hSB (BOX.out _ _ B4.out (by omega) Z4.out _ _ _ _ _ _ _ _)) ?_
      simp only [Act.put, List.setIfInBounds_toArray, List.set_cons_zero, List.set_cons_succ, List.getElem_toArray, List.getElem_cons_zero, List.getElem_cons_succ]
      refine anyT_done (by kernel_rfl) ?_ _
      go_wp2_with fail
      go_meet
      case rel => exact ⟨_, _, rfl, Lib.hid (ing_set S4.out C4.out B4.out (by omega) Z4.out)⟩
  case rest =>
  clear hSB hS0 hsf
  obtain ⟨wb, hwb⟩ : ∃ x : World, x = wc := ⟨_, rfl⟩
  subst hwb
  obtain ⟨q, v', rfl, IC⟩ := hcut
  obtain ⟨pa, pc, rfl, -, -, -⟩ := IC.out.parts.shape
  have Bc : Hid (Below w.heap.size w wb) := Lib.hid ((B0.out.trans (B02.out.mono B0.out.size)).trans (IC.out.below.mono (by have := B0.out.size; omega)))
  obtain ⟨s2, s4, s5, s6, x0, x1, x2, x3, x4, x5⟩ := KY.out wb IC.out.below
  have K10 : Hid (∀ W : World, Below wb.heap.size wb W → W.cell? ⟨r, 5, none⟩ = some (.slice ra n rcap) ∧ W.cell? ⟨q, 0, none⟩ = some ((.float .f64 0)) ∧ W.cell? ⟨q, 1, none⟩ = some ((.int .i64 i.op)) ∧ W.cell? ⟨q, 2, none⟩ = some ((.string i.path)) ∧ W.cell? ⟨q, 3, none⟩ = some ((.string i.to)) ∧ W.cell? ⟨q, 4, none⟩ = some ((.int .i64 i.off)) ∧ W.cell? ⟨q, 5, none⟩ = some ((.int .i64 i.size)) ∧ W.cell? ⟨q, 6, none⟩ = some ((.slice none 0 0)) ∧ W.cell? ⟨q, 7, none⟩ = some ((.slice pa i.parts.length pc))) := Lib.hid (fun W hW => by
    have h1 : W.heap[r]? = _ := Below.heap (Bc.out.trans (hW.mono Bc.out.size)) (Nat.le_refl _) HC.out
    have h2 : W.heap[q]? = _ := Below.heap hW (Nat.le_refl _) IC.out.box
    exact ⟨cellAt h1 5, cellAt h2 0, cellAt h2 1, cellAt h2 2, cellAt h2 3, cellAt h2 4, cellAt h2 5, cellAt h2 6, cellAt h2 7⟩)
  obtain ⟨⟨v1a, waa, v2a, wfa, ra1, ba1, ra2, fa⟩, ⟨v1b, wab, v2b, wfb, rb1, bb1, rb2, fb2⟩, ⟨v1c, wac, v2c, wfc, rc1, bc1, rc2, fc⟩⟩ := rows_orders (wB := wb) (its := X.its) (i := i) (ROW.out wb Bc.out) IC.out.parts rfl (by have := hn.out; omega)
  have FA := Lib.hid fa
  have FB := Lib.hid fb2
  have FC := Lib.hid fc
  have BA := Lib.hid ba1
  have BB := Lib.hid bb1
  have BC := Lib.hid bc1
  simp only [rowO] at ra1 ra2 rb1 rb2 rc1 rc2
  clear fa fb2 fc ba1 bb1 bc1 s2 s4 s5 s6 x0 x1 x2 x3 x4 x5
  obtain ⟨ga1, ka1, hva1⟩ : ∃ a k, v2a = .slice a (n + 1) k := by
    obtain ⟨a, k, h, -⟩ := rows_cells FA.out.1
    exact ⟨a, k, by rw [h, List.length_append, hn.out]; rfl⟩
  obtain ⟨gb1, kb1, hvb1⟩ : ∃ a k, v2b = .slice a (n + 1) k := by
    obtain ⟨a, k, h, -⟩ := rows_cells FB.out.1
    exact ⟨a, k, by rw [h, List.length_append, hn.out]; rfl⟩
  obtain ⟨gc1, kc1, hvc1⟩ : ∃ a k, v2c = .slice a (n + 1) k := by
    obtain ⟨a, k, h, -⟩ := rows_cells FC.out.1
    exact ⟨a, k, by rw [h, List.length_append, hn.out]; rfl⟩
  have G0 : Hid (Below wb.heap.size wb wb.drew) := Lib.hid (Below.refl _ _).drew
  have G1 : Hid (∀ o, Below wb.heap.size wb (wb.alloc o).drew) := Lib.hid (fun o => ((Below.refl _ _).alloc (Nat.le_refl _) o).drew)
  have G2 : Hid (∀ o o2, Below wb.heap.size wb ((wb.alloc o).alloc o2).drew) := Lib.hid (fun o o2 => (((Below.refl _ _).alloc (Nat.le_refl _) o).alloc (by simp) o2).drew)
  have GA : Hid (∀ o, Below wb.heap.size wb (waa.alloc o)) := Lib.hid (fun o => BA.out.alloc BA.out.size o)
  go_upto_region 10 with fail
  have hSC : ∀ {L : Array Bool} {W : World}, Below wb.heap.size wb W → TillC 99 (fun _ => True) (fun W => W.cell? ⟨r, 5, none⟩ = some (.slice ra n rcap) ∧ W.cell? ⟨q, 0, none⟩ = some ((.float .f64 0)) ∧ W.cell? ⟨q, 1, none⟩ = some ((.int .i64 i.op)) ∧ W.cell? ⟨q, 2, none⟩ = some ((.string i.path)) ∧ W.cell? ⟨q, 3, none⟩ = some ((.string i.to)) ∧ W.cell? ⟨q, 4, none⟩ = some ((.int .i64 i.off)) ∧ W.cell? ⟨q, 5, none⟩ = some ((.int .i64 i.size)) ∧ W.cell? ⟨q, 6, none⟩ = some ((.slice none 0 0)) ∧ W.cell? ⟨q, 7, none⟩ = some ((.slice pa i.parts.length pc))) L W := fun {L} {W} hW => ⟨fun _ => trivial, K10.out W hW⟩
  go_cut [9] from 14 (fun s9 wd => ∃ a k, s9 = .slice a (n + 1) k ∧ Hid (RowsFin wb X.its i (.slice a (n + 1) k) wd))
  case first =>
    refine wp_region_T (TillC 99 (fun _ => True) (fun W => W.cell? ⟨r, 5, none⟩ = some (.slice ra n rcap) ∧ W.cell? ⟨q, 0, none⟩ = some ((.float .f64 0)) ∧ W.cell? ⟨q, 1, none⟩ = some ((.int .i64 i.op)) ∧ W.cell? ⟨q, 2, none⟩ = some ((.string i.path)) ∧ W.cell? ⟨q, 3, none⟩ = some ((.string i.to)) ∧ W.cell? ⟨q, 4, none⟩ = some ((.int .i64 i.off)) ∧ W.cell? ⟨q, 5, none⟩ = some ((.int .i64 i.size)) ∧ W.cell? ⟨q, 6, none⟩ = some ((.slice none 0 0)) ∧ W.cell? ⟨q, 7, none⟩ = some ((.slice pa i.parts.length pc)))) rfl ?_
    simp only [List.size_toArray, List.length_cons, List.length_nil, Nat.reduceAdd, Array.replicate_succ, Array.replicate_zero, List.push_toArray, List.nil_append, List.cons_append]
    refine anyT_take (i := 1) (p := 2) (v := ?v41) rfl rfl (by kernel_rfl) (fun L w => TillC_set (by decide) L w) (by kernel_rfl) (by kernel_rfl) (by kernel_rfl) (by kernel_rfl) (fun _ _ _ h => h) (Or.inl ⟨by rfl, fun w hw => ?y41⟩) (hSC G0.out) ?r41
    case y41 => obtain ⟨L, hL, hS⟩ := hw; obtain ⟨r5, q0, q1, q2, q3, q4, q5, q6, q7⟩ := hS.2; go_simp; (try with_reducible rfl)
    simp only [Act.put, List.setIfInBounds_toArray, List.set_cons_zero, List.set_cons_succ, List.getElem_toArray, List.getElem_cons_zero, List.getElem_cons_succ]
    refine anyT_take (i := 2) (p := 3) (v := ?v42) rfl rfl (by kernel_rfl) (fun L w => TillC_set (by decide) L w) (by kernel_rfl) (by kernel_rfl) (by kernel_rfl) (by kernel_rfl) (fun _ _ _ h => h) (Or.inl ⟨by rfl, fun w hw => ?y42⟩) (hSC G0.out) ?r42
    case y42 => obtain ⟨L, hL, hS⟩ := hw; obtain ⟨r5, q0, q1, q2, q3, q4, q5, q6, q7⟩ := hS.2; go_simp; (try with_reducible rfl)
    simp only [Act.put, List.setIfInBounds_toArray, List.set_cons_zero, List.set_cons_succ, List.getElem_toArray, List.getElem_cons_zero, List.getElem_cons_succ]
    refine anyT_take (i := 3) (p := 4) (v := ?v43) rfl rfl (by kernel_rfl) (fun L w => TillC_set (by decide) L w) (by kernel_rfl) (by kernel_rfl) (by kernel_rfl) (by kernel_rfl) (fun _ _ _ h => h) (Or.inl ⟨by rfl, fun w hw => ?y43⟩) (hSC G0.out) ?r43
    case y43 => obtain ⟨L, hL, hS⟩ := hw; obtain ⟨r5, q0, q1, q2, q3, q4, q5, q6, q7⟩ := hS.2; go_simp; (try with_reducible rfl)
    simp only [Act.put, List.setIfInBounds_toArray, List.set_cons_zero, List.set_cons_succ, List.getElem_toArray, List.getElem_cons_zero, List.getElem_cons_succ]
    refine anyT_take (i := 4) (p := 5) (v := ?v44) rfl rfl (by kernel_rfl) (fun L w => TillC_set (by decide) L w) (by kernel_rfl) (by kernel_rfl) (by kernel_rfl) (by kernel_rfl) (fun _ _ _ h => h) (Or.inl ⟨by rfl, fun w hw => ?y44⟩) (hSC G0.out) ?r44
    case y44 => obtain ⟨L, hL, hS⟩ := hw; obtain ⟨r5, q0, q1, q2, q3, q4, q5, q6, q7⟩ := hS.2; go_simp; (try with_reducible rfl)
    simp only [Act.put, List.setIfInBounds_toArray, List.set_cons_zero, List.set_cons_succ, List.getElem_toArray, List.getElem_cons_zero, List.getElem_cons_succ]
    refine anyT_take (i := 6) (p := 7) (v := ?v45) rfl rfl (by kernel_rfl) (fun L w => TillC_set (by decide) L w) (by kernel_rfl) (by kernel_rfl) (by kernel_rfl) (by kernel_rfl) (fun _ _ _ h => h) (Or.inl ⟨by rfl, fun w hw => ?y45⟩) (hSC G0.out) ?r45
    case y45 => obtain ⟨L, hL, hS⟩ := hw; obtain ⟨r5, q0, q1, q2, q3, q4, q5, q6, q7⟩ := hS.2; go_simp; (try with_reducible rfl)
    simp only [Act.put, List.setIfInBounds_toArray, List.set_cons_zero, List.set_cons_succ, List.getElem_toArray, List.getElem_cons_zero, List.getElem_cons_succ]
    refine anyT_all (rs := [0, 7]) (by kernel_rfl) (by simp) ?_
    intro jj hj
    simp only [List.mem_cons, List.not_mem_nil, or_false] at hj
    rcases hj with rfl | rfl
    · refine T_step rfl (fun K' hK => ?_)
      go_simp
      refine hK.out _ _ (hSC (G1.out _)) ?_
      simp only [Act.put, List.setIfInBounds_toArray, List.set_cons_zero, List.set_cons_succ, List.getElem_toArray, List.getElem_cons_zero, List.getElem_cons_succ]
      refine anyT_all (rs := [5, 7]) (by kernel_rfl) (by simp) ?_
      intro jj hj
      simp only [List.mem_cons, List.not_mem_nil, or_false] at hj
      rcases hj with rfl | rfl
      · refine T_step rfl (fun K' hK => ?_)
        refine step_append_run rfl _ _ 75 rfl _ _ ra1 ?_
        refine hK.out _ _ (hSC (BA.out)) ?_
        simp only [Act.put, List.setIfInBounds_toArray, List.set_cons_zero, List.set_cons_succ, List.getElem_toArray, List.getElem_cons_zero, List.getElem_cons_succ]
        refine anyT_all (rs := [7]) (by kernel_rfl) (by simp) ?_
        intro jj hj
        simp only [List.mem_singleton] at hj
        subst hj
        refine T_step rfl (fun K' hK => ?_)
        go_simp
        refine hK.out _ _ (hSC (GA.out _)) ?_
        simp only [Act.put, List.setIfInBounds_toArray, List.set_cons_zero, List.set_cons_succ, List.getElem_toArray, List.getElem_cons_zero, List.getElem_cons_succ]
        refine anyT_all (rs := [8]) (by kernel_rfl) (by simp) ?_
        intro jj hj
        simp only [List.mem_singleton] at hj
        subst hj
        refine T_step rfl (fun K' hK => ?_)
        refine step_append_run rfl _ _ 75 rfl _ _ ra2 ?_
        refine hK.out _ _ (hSC (FA.out.2)) ?_
        simp only [Act.put, List.setIfInBounds_toArray, List.set_cons_zero, List.set_cons_succ, List.getElem_toArray, List.getElem_cons_zero, List.getElem_cons_succ]
        refine anyT_all (rs := [9]) (by kernel_rfl) (by simp) ?_
        intro jj hj
        simp only [List.mem_singleton] at hj
        subst hj
        refine T_step rfl (fun K' hK => ?_)
        go_simp
        refine hK.out _ _ (hSC FA.out.2) ?_
        simp only [Act.put, List.setIfInBounds_toArray, List.set_cons_zero, List.set_cons_succ, List.getElem_toArray, List.getElem_cons_zero, List.getElem_cons_succ]
        refine anyT_done (by kernel_rfl) ?_ _
        go_wp2_with fail
        go_meet
        case rel => exact ⟨ga1, ka1, rfl, Lib.hid (hva1 ▸ FA.out)⟩
      · refine T_step rfl (fun K' hK => ?_)
        go_simp
        refine hK.out _ _ (hSC (G2.out _ _)) ?_
        simp only [Act.put, List.setIfInBounds_toArray, List.set_cons_zero, List.set_cons_succ, List.getElem_toArray, List.getElem_cons_zero, List.getElem_cons_succ]
        refine anyT_all (rs := [5]) (by kernel_rfl) (by simp) ?_
        intro jj hj
        simp only [List.mem_singleton] at hj
        subst hj
        refine T_step rfl (fun K' hK => ?_)
        refine step_append_run rfl _ _ 75 rfl _ _ rb1 ?_
        refine hK.out _ _ (hSC (BB.out)) ?_
        simp only [Act.put, List.setIfInBounds_toArray, List.set_cons_zero, List.set_cons_succ, List.getElem_toArray, List.getElem_cons_zero, List.getElem_cons_succ]
        refine anyT_all (rs := [8]) (by kernel_rfl) (by simp) ?_
        intro jj hj
        simp only [List.mem_singleton] at hj
        subst hj
        refine T_step rfl (fun K' hK => ?_)
        refine step_append_run rfl _ _ 75 rfl _ _ rb2 ?_
        refine hK.out _ _ (hSC (FB.out.2)) ?_
        simp only [Act.put, List.setIfInBounds_toArray, List.set_cons_zero, List.set_cons_succ, List.getElem_toArray, List.getElem_cons_zero, List.getElem_cons_succ]
        refine anyT_all (rs := [9]) (by kernel_rfl) (by simp) ?_
        intro jj hj
        simp only [List.mem_singleton] at hj
        subst hj
        refine T_step rfl (fun K' hK => ?_)
        go_simp
        refine hK.out _ _ (hSC FB.out.2) ?_
        simp only [Act.put, List.setIfInBounds_toArray, List.set_cons_zero, List.set_cons_succ, List.getElem_toArray, List.getElem_cons_zero, List.getElem_cons_succ]
        refine anyT_done (by kernel_rfl) ?_ _
        go_wp2_with fail
        go_meet
        case rel => exact ⟨gb1, kb1, rfl, Lib.hid (hvb1 ▸ FB.out)⟩
    · refine T_step rfl (fun K' hK => ?_)
      go_simp
      refine hK.out _ _ (hSC (G1.out _)) ?_
      simp only [Act.put, List.setIfInBounds_toArray, List.set_cons_zero, List.set_cons_succ, List.getElem_toArray, List.getElem_cons_zero, List.getElem_cons_succ]
      refine anyT_all (rs := [0]) (by kernel_rfl) (by simp) ?_
      intro jj hj
      simp only [List.mem_singleton] at hj
      subst hj
      refine T_step rfl (fun K' hK => ?_)
      go_simp
      refine hK.out _ _ (hSC (G2.out _ _)) ?_
      simp only [Act.put, List.setIfInBounds_toArray, List.set_cons_zero, List.set_cons_succ, List.getElem_toArray, List.getElem_cons_zero, List.getElem_cons_succ]
      refine anyT_all (rs := [5]) (by kernel_rfl) (by simp) ?_
      intro jj hj
      simp only [List.mem_singleton] at hj
      subst hj
      refine T_step rfl (fun K' hK => ?_)
      refine step_append_run rfl _ _ 75 rfl _ _ rc1 ?_
      refine hK.out _ _ (hSC (BC.out)) ?_
      simp only [Act.put, List.setIfInBounds_toArray, List.set_cons_zero, List.set_cons_succ, List.getElem_toArray, List.getElem_cons_zero, List.getElem_cons_succ]
      refine anyT_all (rs := [8]) (by kernel_rfl) (by simp) ?_
      intro jj hj
      simp only [List.mem_singleton] at hj
      subst hj
      refine T_step rfl (fun K' hK => ?_)
      refine step_append_run rfl _ _ 75 rfl _ _ rc2 ?_
      refine hK.out _ _ (hSC (FC.out.2)) ?_
      simp only [Act.put, List.setIfInBounds_toArray, List.set_cons_zero, List.set_cons_succ, List.getElem_toArray, List.getElem_cons_zero, List.getElem_cons_succ]
      refine anyT_all (rs := [9]) (by kernel_rfl) (by simp) ?_
      intro jj hj
      simp only [List.mem_singleton] at hj
      subst hj
      refine T_step rfl (fun K' hK => ?_)
      go_simp
      refine hK.out _ _ (hSC FC.out.2) ?_
      simp only [Act.put, List.setIfInBounds_toArray, List.set_cons_zero, List.set_cons_succ, List.getElem_toArray, List.getElem_cons_zero, List.getElem_cons_succ]
      refine anyT_done (by kernel_rfl) ?_ _
      go_wp2_with fail
      go_meet
      case rel => exact ⟨gc1, kc1, rfl, Lib.hid (hvc1 ▸ FC.out)⟩
  case rest =>
  clear hSC ra1 ra2 rb1 rb2 rc1 rc2 hva1 hvb1 hvc1 FA FB FC BA BB BC GA G0 G1 G2
  obtain ⟨wd, hwd⟩ : ∃ x : World, x = wc := ⟨_, rfl⟩
  subst hwd
  obtain ⟨ga, ka, rfl, RF⟩ := hcut
  have RFr : Hid (RowsV wd (.slice ga (n + 1) ka) (X.its ++ [i])) := Lib.hid RF.out.1
  have Bd : Hid (Below w.heap.size w wd) := Lib.hid (Bc.out.trans (RF.out.2.mono Bc.out.size))
  have BW : Hid (∀ W, Below wd.heap.size wd W → Below wb.heap.size wb W ∧ Below w.heap.size w W) := Lib.hid (fun W hW => ⟨RF.out.2.trans (hW.mono RF.out.2.size), Bd.out.trans (hW.mono Bd.out.size)⟩)
  have K15 : Hid (∀ W : World, Below wd.heap.size wd W → W.cell? ⟨r, 6, none⟩ = some (.pointer (some ⟨X.y.s, 0, none⟩)) ∧ W.cell? ⟨q, 1, none⟩ = some ((.int .i64 i.op)) ∧ W.cell? ⟨q, 2, none⟩ = some ((.string i.path)) ∧ W.cell? ⟨q, 3, none⟩ = some ((.string i.to)) ∧ W.cell? ⟨q, 4, none⟩ = some ((.int .i64 i.off)) ∧ W.cell? ⟨q, 5, none⟩ = some ((.int .i64 i.size)) ∧ W.cell? ⟨q, 6, none⟩ = some ((.slice none 0 0)) ∧ W.cell? ⟨q, 7, none⟩ = some ((.slice pa i.parts.length pc))) := Lib.hid (fun W hW => by
    have h1 : W.heap[r]? = _ := Below.heap (BW.out W hW).2 (Nat.le_refl _) HC.out
    have h2 : W.heap[q]? = _ := Below.heap (BW.out W hW).1 (Nat.le_refl _) IC.out.box
    exact ⟨cellAt h1 6, cellAt h2 1, cellAt h2 2, cellAt h2 3, cellAt h2 4, cellAt h2 5, cellAt h2 6, cellAt h2 7⟩)
  go_upto_region 15 with (first | (go_at_call 28; with_reducible refine (BT.out _ _ Bd.out RFr.out).mono ?_; rintro e1 w4 ⟨v4, rfl, hq, h1c⟩; have B4 := Lib.hid hq; clear hq) | (go_at_call 29; with_reducible refine (NX.out _ (BW.out _ B4.out).2).mono ?_; rintro e1 w5 ⟨rfl, hq⟩; have B5 : Hid (Below wd.heap.size wd w5) := Lib.hid (B4.out.trans (hq.mono B4.out.size)); clear hq))
  have D5 : Hid (Below wd.heap.size wd w5.drew) := Lib.hid B5.out.drew
  have SP : Hid (Sl w5.drew 134 4 (.slice pa i.parts.length pc) i.parts.length (partsC i.parts)) := Lib.hid (IC.out.parts.below (BW.out _ D5.out).1)
  have hrn : Hid (r ∉ [X.y.a, X.y.b, X.y.sm] ∧ q ∉ [X.y.a, X.y.b, X.y.sm]) := Lib.hid (by
    have hy0 : ∀ k ∈ X.y.blocks, k ≠ r := fun k hk h => HH.out.ynot k hk (by simp [RepX.mu, h])
    have hy1 : ∀ k ∈ X.y.blocks, k ≠ q := fun k hk h => by
      have := HH.out.st.lt k hk
      have h3 := IC.out.qB
      have h4 := hs0
      omega
    refine ⟨?_, ?_⟩
    · have h1 := hy0 X.y.a (by simp [StX.blocks])
      have h2 := hy0 X.y.b (by simp [StX.blocks])
      have h3 := hy0 X.y.sm (by simp [StX.blocks])
      simp [Ne.symm h1, Ne.symm h2, Ne.symm h3]
    · have h1 := hy1 X.y.a (by simp [StX.blocks])
      have h2 := hy1 X.y.b (by simp [StX.blocks])
      have h3 := hy1 X.y.sm (by simp [StX.blocks])
      simp [Ne.symm h1, Ne.symm h2, Ne.symm h3])
  have K16 : Hid (∀ W : World, Frame [X.y.a, X.y.b, X.y.sm] w5.drew W → (W.cell? ⟨r, 6, none⟩ = some (.pointer (some ⟨X.y.s, 0, none⟩)) ∧ W.cell? ⟨q, 1, none⟩ = some ((.int .i64 i.op)) ∧ W.cell? ⟨q, 2, none⟩ = some ((.string i.path)) ∧ W.cell? ⟨q, 3, none⟩ = some ((.string i.to)) ∧ W.cell? ⟨q, 4, none⟩ = some ((.int .i64 i.off)) ∧ W.cell? ⟨q, 5, none⟩ = some ((.int .i64 i.size)) ∧ W.cell? ⟨q, 6, none⟩ = some ((.slice none 0 0)) ∧ W.cell? ⟨q, 7, none⟩ = some ((.slice pa i.parts.length pc))) ∧ W.heap[r]? = w.heap[r]?) := Lib.hid (fun W hW => by
    have h1 := hW.heap (Below.heap (BW.out _ D5.out).2 (Nat.le_refl _) HC.out) hrn.out.1
    have h2 := hW.heap (Below.heap (BW.out _ D5.out).1 (Nat.le_refl _) IC.out.box) hrn.out.2
    exact ⟨⟨cellAt h1 6, cellAt h2 1, cellAt h2 2, cellAt h2 3, cellAt h2 4, cellAt h2 5, cellAt h2 6, cellAt h2 7⟩, h1.trans HC.out.symm⟩)
  clear hs0 hs1 hB2 hB0
  go_region_held3 (fun W => W.cell? ⟨r, 6, none⟩ = some (.pointer (some ⟨X.y.s, 0, none⟩)) ∧ W.cell? ⟨q, 1, none⟩ = some ((.int .i64 i.op)) ∧ W.cell? ⟨q, 2, none⟩ = some ((.string i.path)) ∧ W.cell? ⟨q, 3, none⟩ = some ((.string i.to)) ∧ W.cell? ⟨q, 4, none⟩ = some ((.int .i64 i.off)) ∧ W.cell? ⟨q, 5, none⟩ = some ((.int .i64 i.size)) ∧ W.cell? ⟨q, 6, none⟩ = some ((.slice none 0 0)) ∧ W.cell? ⟨q, 7, none⟩ = some ((.slice pa i.parts.length pc))) (first | exact K15.out _ D5.out | exact (K16.out _ F6.out).1) (first | (go_at_call 30; with_reducible refine (AP.out _ _ (BW.out _ D5.out).2 SP.out).mono ?_; rintro e1 w6 ⟨rfl, nb', g', hst, hf6⟩; have ST6 := Lib.hid hst; have F6 := Lib.hid hf6; clear hst hf6))
  have hr6 := (K16.out _ F6.out).2.trans HC.out
  have c62 := cellAt hr6 2
  have c65 := cellAt hr6 5
  have f62 := frozenAt hr6 2
  have f65 := frozenAt hr6 5
  clear hr6
  go_wp2_with fail
  go_ret2
  refine ⟨rfl, ?_⟩
  obtain ⟨vs2, fb2, m2, sz2, hch, hvo⟩ := IC.out.chunks
  have hD5 := BW.out _ D5.out
  refine FIN.out _ _ B c' bl' bb' m2 nb' vs2 fb2 g' sz2 _ hD5.2 (hch.below hD5.1) (hvo.before (Nat.le_trans B0.out.size B02.out.size)) (by have := B0.out.size; have := hB.out; have := B1.out.size; omega) (RF.out.1.below D5.out) ST6.out F6.out
end Go.Proofs.YtaonlcgneemimaaGreatDoor
namespace Go.Proofs.YtaonlcgneemimaaGreatDoor
open Go.RowKit
theorem pcs_none (w : World) (i : ItemA) (da : Option Addr) (dn dc : Nat) (P : List (List Int)) (h3 : i.op ≠ 3) (hp : i.parts = []) : PcsOk w i da dn dc P P := by
  intro W B c bl bb vs fb m sz hW hc hB
  refine (pieces_none W (some ⟨c, 0, none⟩) i.op h3 i.path i.to i.off i.size da dn dc).mono ?_
  rintro e w' ⟨rfl, hq⟩
  rw [hp]
  exact ⟨_, rfl, Sl.nil _ _ _, ⟨vs, fb, m, sz, hc.below hq, .refl _ _⟩, hq.mono hB, .of_below hq⟩
theorem pcs_shortC (w : World) (i : ItemA) (da : Option Addr) (dn dc : Nat) (P : List (List Int)) (p : List Int) (h3 : i.op = 3) (hp : i.parts = [newPart P p]) (hd : SlC w (.slice da dn dc) p.length (u8s p)) (hb : ByteL p) (h0 : 0 < p.length) (h1 : p.length ≤ 7) (hsm : P.length + 1 ≤ 100000) : PcsOk w i da dn dc P (putP P p) := by
  intro W B c bl bb vs fb m sz hW hc hB
  have := pieces_shortC W B c P bl bb vs fb m sz hc hB (.slice da dn dc) p (hd.below hW) hb h0 h1 hsm i.path i.to i.off i.size
  rw [← h3] at this
  refine this.mono ?_
  rintro e w' ⟨v', rfl, h4, h5, h6, h7⟩
  rw [hp]
  exact ⟨_, rfl, h4, h5, h6, h7⟩
/-- A repository behind an event. -/
structure IngNice (w : World) (r : Nat) (X : RepX) (i : ItemA) (P' : List (List Int)) (w' : World) (X1 : RepX) : Prop where
  rep : RepAt w' r X1
  fr : Frame (X.m1 r) w w'
  mu : X1.mu r = X.mu r
  m1 : X1.m1 r = X.m1 r
  xs : X1.xs = X.xs
  its : X1.its = X.its ++ [i]
  P : X1.P = P'
  x : X1.x = X.x
  dn : X1.dn = X.dn
  vs : VsOk w X.vs X1.vs
theorem ingest_nice (w : World) (r : Nat) (X : RepX) (H : RepAt w r X) (i : ItemA) (P' : List (List Int)) (da : Option Addr) (dn dc : Nat) (hi : okA X.y.x i) (hg : i.good) (hcl : CleanEv i) (h8 : i.op ≠ 8) (hd : i.op = 3 → dn ≤ 1024 ∧ i.off + dn ≤ 1099511627776) (hP : PcsOk w i da dn dc X.P P') (hlen : (recordB (X.xs.length + 1) (X.its ++ [i])).length ≤ 16384) (hfew : X.its.length ≤ 9999) :
    Calls Tryz.prog 9 #[.pointer (some ⟨r, 0, none⟩), .agg #[.int .i64 i.op, .string i.path, .string i.to, .int .i64 i.off, .int .i64 i.size, .slice da dn dc]] w fun e w' => e = .returned (.tuple #[.int .i64 ((X.xs.length : Int) + X.its.length + 1), .int .i64 0]) ∧ ∃ X1, IngNice w r X i P' w' X1 := by
  refine (ingest_any w r X H i P' da dn dc hi hg hcl h8 hd hP hlen hfew).mono ?_
  rintro e w' ⟨rfl, c', bl', bb', vs', fb', m', sz', rv', nb', g', h1, h2, h3⟩
  exact ⟨rfl, _, h1, h2, rfl, rfl, rfl, rfl, rfl, rfl, rfl, h3⟩
/-- The events of a file: it is made, written, cut. -/
def crI (c : Fin 26) : ItemA := ⟨1, fp c.1, ⟨#[]⟩, 0, 0, []⟩
noncomputable def wrI (c : Fin 26) (off : Nat) (p : List Int) (P : List (List Int)) : ItemA := ⟨3, fp c.1, ⟨#[]⟩, off, 0, [newPart P p]⟩
def trI (c : Fin 26) (n : Nat) : ItemA := ⟨4, fp c.1, ⟨#[]⟩, 0, n, []⟩
theorem crI_clean (c : Fin 26) : CleanEv (crI c) := ⟨fun _ => rfl, fun _ => rfl, fun _ => rfl⟩
theorem wrI_clean (c : Fin 26) (off : Nat) (p : List Int) (P : List (List Int)) : CleanEv (wrI c off p P) := ⟨fun _ => rfl, fun h => absurd rfl h, fun _ => rfl⟩
theorem trI_clean (c : Fin 26) (n : Nat) : CleanEv (trI c n) := ⟨fun _ => rfl, fun _ => rfl, fun h => absurd rfl h⟩
theorem crI_good (c : Fin 26) : (crI c).good :=
  ⟨by simp [crI], by simp [crI], by show (fp c.1).size ≤ 64; rw [fp_size]; decide, by show (⟨#[]⟩ : ByteArray).size ≤ 64; decide, fun _ => rfl, fun _ => rfl, fun _ => rfl, by simp [crI], by simp [crI], by simp [crI], by simp [crI], by simp [crI], fun _ => rfl, by simp [crI]⟩
theorem wrI_good (c : Fin 26) (off : Nat) (p : List Int) (P : List (List Int)) (hoff : off ≤ 1099511627776) (hf : (newPart P p).fits) : (wrI c off p P).good :=
  ⟨by simp [wrI], by simp [wrI], by show (fp c.1).size ≤ 64; rw [fp_size]; decide, by show (⟨#[]⟩ : ByteArray).size ≤ 64; decide, fun _ => rfl, fun h => absurd rfl h, fun _ => rfl, by simp [wrI], by simp [wrI]; omega, by simp [wrI], by simp [wrI], fun q hq => by simp only [wrI, List.mem_singleton] at hq; subst hq; exact ⟨rfl, hf⟩, fun h => absurd rfl h, by simp [wrI]⟩
theorem trI_good (c : Fin 26) (n : Nat) (hn : n ≤ 1099511627776) : (trI c n).good :=
  ⟨by simp [trI], by simp [trI], by show (fp c.1).size ≤ 64; rw [fp_size]; decide, by show (⟨#[]⟩ : ByteArray).size ≤ 64; decide, fun _ => rfl, fun _ => rfl, fun h => absurd rfl h, by simp [trI], by simp [trI], by simp [trI], by simp [trI]; omega, by simp [trI], fun _ => rfl, by simp [trI]⟩
theorem putId_nil (p : List Int) : putId [] p = 1 := by
  unfold putId
  rw [pieceId_none (by simp)]
  rfl
theorem putId_one (p : List Int) : putId [p] p = 1 := by
  obtain ⟨j, hj, he⟩ := pieceId_mem (P := [p]) (b := p) (by simp) (by simp)
  unfold putId
  rw [he]
  have : j = 0 := by
    have := (List.getElem?_eq_some_iff.1 hj).1
    simpa using this
  subst this
  rfl
theorem putP_nil (p : List Int) : putP [] p = [p] := by
  unfold putP
  rw [if_neg (by simp)]
  rfl
theorem putP_one (p : List Int) : putP [p] p = [p] := by
  unfold putP
  rw [if_pos (by simp)]
theorem newPart_fits (P : List (List Int)) (p : List Int) (hP : P = [] ∨ P = [p]) (h0 : 0 < p.length) (h1 : p.length ≤ 64) : newPart P p = ⟨0, p.length, 1, 0⟩ ∧ (newPart P p).fits := by
  have e : newPart P p = ⟨0, p.length, 1, 0⟩ := by
    unfold newPart
    rcases hP with rfl | rfl
    · rw [putId_nil]
    · rw [putId_one]
  rw [e]
  exact ⟨rfl, by simp; omega, by simp; omega, by simp, by simp, by simp, by simp; omega⟩
/-- One file, of number 1. -/
structure OneFile (c : Fin 26) (x : Abs) (bd : BodyA) : Prop where
  T : x.T (fp c.1) = some 1
  S : x.S 1 = some bd
theorem OneFile.body {c : Fin 26} {x : Abs} {bd : BodyA} (h : OneFile c x bd) : x.body (fp c.1) = some bd := by
  unfold Abs.body
  rw [h.T]
  exact h.S
theorem one_cr (c : Fin 26) : okA Abs.new (crI c) ∧ OneFile c (stepA Abs.new (crI c)) ⟨0, []⟩ := by
  refine ⟨⟨c, rfl, .inl ⟨rfl, rfl, by decide, by decide, rfl, rfl, rfl⟩⟩, ?_⟩
  have e : stepA Abs.new (crI c) = ⟨tset Abs.new.T (fp c.1) (some 1), 2, bset Abs.new.S 1 (some ⟨0, []⟩), 1⟩ := by
    unfold stepA
    rw [if_pos (show (crI c).op = 1 from rfl)]
    rfl
  rw [e]
  exact ⟨by simp [tset], by simp [bset]⟩
theorem one_wr {c : Fin 26} {x : Abs} {bd : BodyA} (h : OneFile c x bd) (off : Nat) (p : List Int) (P : List (List Int)) (hf : (newPart P p).fits) (hl : bd.parts.length + 2 ≤ 1000) (ho : (off : Int) + p.length ≤ 1099511627776) :
    okA x (wrI c off p P) ∧ OneFile c (stepA x (wrI c off p P)) (writeB bd off [newPart P p]) := by
  refine ⟨⟨c, rfl, .inr (.inl ⟨rfl, ⟨bd, h.body, by simp [wrI]; omega⟩, fun q hq => by simp only [wrI, List.mem_singleton] at hq; subst hq; exact hf, by simp [wrI], by simp [wrI, sumLen, newPart]; omega, rfl⟩)⟩, ?_⟩
  have e : stepA x (wrI c off p P) = { x with S := bset x.S 1 (some (writeB bd off [newPart P p])) } := by
    unfold stepA
    have h1 : x.T (wrI c off p P).path = some 1 := h.T
    have h2 : x.body (wrI c off p P).path = some bd := h.body
    rw [if_neg (by simp [wrI]), h1, h2]
    rfl
  rw [e]
  exact ⟨h.T, by simp [bset]⟩
theorem one_tr {c : Fin 26} {x : Abs} {bd : BodyA} (h : OneFile c x bd) (n : Nat) (hn : (n : Int) ≤ 1099511627776) :
    okA x (trI c n) ∧ OneFile c (stepA x (trI c n)) (truncB bd n) := by
  refine ⟨⟨c, rfl, .inr (.inr ⟨rfl, ⟨bd, h.body⟩, by simp [trI], by simp [trI]; omega, rfl, rfl⟩)⟩, ?_⟩
  have e : stepA x (trI c n) = { x with S := bset x.S 1 (some (truncB bd n)) } := by
    unfold stepA
    have h1 : x.T (trI c n).path = some 1 := h.T
    have h2 : x.body (trI c n).path = some bd := h.body
    rw [if_neg (by simp [trI]), h1, h2]
    rfl
  rw [e]
  exact ⟨h.T, by simp [bset]⟩
/-- A record of few events is short. -/
theorem record_short (seq : Nat) (its : List ItemA) (hs : seq ≤ 9223372036854775807) (hg : ∀ i ∈ its, i.good ∧ i.parts.length ≤ 1) (hl : its.length ≤ 60) : (recordB seq its).length ≤ 16384 := by
  have h1 := numB_9 hs
  have h2 := numB_9 (k := its.length) (by omega)
  have h3 : ∀ (l : List ItemA), (∀ i ∈ l, i.good ∧ i.parts.length ≤ 1) → (l.flatMap rowB).length ≤ 235 * l.length := by
    intro l
    induction l with
    | nil => intro _; simp
    | cons a t ih =>
      intro h
      have h4 := itemB_len a (h a (by simp)).1
      have h5 := (h a (by simp)).2
      have h6 := ih (fun i hi => h i (by simp [hi]))
      have h7 : (rowB a).length = 8 + (itemB a).length := by simp [rowB, leB_length]
      simp only [List.flatMap_cons, List.length_append, List.length_cons]
      omega
  have h4 := h3 its hg
  unfold recordB
  simp only [List.length_append, List.length_cons, List.length_nil]
  omega
end Go.Proofs.YtaonlcgneemimaaGreatDoor
namespace Go.Proofs.YtaonlcgneemimaaGreatDoor
open Go.RowKit
/-- A file's script so far: it was made, and each event behind left it with these bytes. -/
structure Scr (c : Fin 26) (p : List Int) (X : RepX) (ms : List (List Int)) : Prop where
  xs : X.xs = []
  len : X.its.length = ms.length + 1
  good : ∀ i ∈ X.its, i.good ∧ i.parts.length ≤ 1
  st : ∀ j m, ([] :: ms)[j]? = some m → ∃ bd, OneFile c (stepAll Abs.new (X.its.take (j + 1))) bd ∧ HoldsB p bd m (2 * j) ∧ (bd.parts = [] ∨ X.P = [p])
  P : X.P = [] ∨ X.P = [p]
def lastM (ms : List (List Int)) : List Int := ms.getLastD []
theorem lastM_at (ms : List (List Int)) : ([] :: ms)[ms.length]? = some (lastM ms) := by
  unfold lastM
  rcases List.eq_nil_or_concat ms with rfl | ⟨l, z, h⟩
  · rfl
  · rw [List.concat_eq_append] at h
    subst h
    simp
theorem lastX_nil : lastX [] = Abs.new := rfl
theorem Scr.cur {w : World} {r : Nat} {c : Fin 26} {p : List Int} {X : RepX} {ms : List (List Int)} (S : Scr c p X ms) (H : RepAt w r X) : ∃ bd, OneFile c X.y.x bd ∧ HoldsB p bd (lastM ms) (2 * ms.length) ∧ (bd.parts = [] ∨ X.P = [p]) := by
  have := S.st ms.length (lastM ms) (lastM_at ms)
  rw [← S.len, List.take_length] at this
  rw [H.yx, S.xs, lastX_nil]
  exact this
theorem Scr.more {w w' : World} {r : Nat} {c : Fin 26} {p : List Int} {X X1 : RepX} {ms : List (List Int)} {i : ItemA} {P' : List (List Int)} {m : List Int} {bd : BodyA} (S : Scr c p X ms) (H : RepAt w r X) (N : IngNice w r X i P' w' X1) (hi : i.good ∧ i.parts.length ≤ 1) (hP : P' = X.P ∨ P' = [p]) (h1 : OneFile c (stepA X.y.x i) bd) (h2 : HoldsB p bd m (2 * (ms.length + 1))) (h3 : bd.parts = [] ∨ P' = [p]) : Scr c p X1 (ms ++ [m]) := by
  refine ⟨N.xs.trans S.xs, by rw [N.its]; simp [S.len], fun j hj => ?_, fun j m' hm => ?_, ?_⟩
  · rw [N.its] at hj
    rcases List.mem_append.1 hj with hj | hj
    · exact S.good j hj
    · simp only [List.mem_singleton] at hj
      subst hj
      exact hi
  · rw [N.its, N.P]
    by_cases hj : j ≤ ms.length
    · rw [← List.cons_append, List.getElem?_append_left (by simp; omega)] at hm
      obtain ⟨b, a1, a2, a3⟩ := S.st j m' hm
      rw [List.take_append_of_le_length (by rw [S.len]; omega)]
      refine ⟨b, a1, a2, ?_⟩
      rcases a3 with a3 | a3
      · exact .inl a3
      · rcases hP with h | h
        · exact .inr (h.trans a3)
        · exact .inr h
    · have hj0 : j = ms.length + 1 := by
        have := (List.getElem?_eq_some_iff.1 hm).1
        simp at this
        omega
      subst hj0
      rw [← List.cons_append, List.getElem?_append_right (by simp)] at hm
      simp at hm
      subst hm
      refine ⟨bd, ?_, h2, h3⟩
      rw [List.take_of_length_le (by simp [S.len]), stepAll_snoc]
      have := H.yx
      rw [S.xs, lastX_nil] at this
      rw [← this]
      exact h1
  · rw [N.P]
    rcases hP with h | h
    · rw [h]; exact S.P
    · exact .inr h
theorem scr_create (w : World) (r : Nat) (X : RepX) (H : RepAt w r X) (c : Fin 26) (p : List Int) (hx : X.xs = []) (hi : X.its = []) (hP : X.P = []) :
    Calls Tryz.prog 9 #[.pointer (some ⟨r, 0, none⟩), .agg #[.int .i64 1, .string (fp c.1), .string ⟨#[]⟩, .int .i64 0, .int .i64 0, .slice none 0 0]] w fun e w' => e = .returned (.tuple #[.int .i64 1, .int .i64 0]) ∧ ∃ X1, IngNice w r X (crI c) [] w' X1 ∧ Scr c p X1 [] := by
  have hy : X.y.x = Abs.new := by rw [H.yx, hx, hi]; rfl
  obtain ⟨h1, h2⟩ := one_cr c
  have hpc : PcsOk w (crI c) none 0 0 X.P [] := by rw [hP]; exact pcs_none w (crI c) none 0 0 [] (by simp [crI]) rfl
  refine (ingest_nice w r X H (crI c) [] none 0 0 (by rw [hy]; exact h1) (crI_good c) (crI_clean c) (by simp [crI]) (fun h => by simp [crI] at h) hpc (by rw [hi]; exact record_short _ _ (by rw [hx]; decide) (fun i hi => by simp at hi; subst hi; exact ⟨crI_good c, by simp [crI]⟩) (by simp)) (by rw [hi]; simp)).mono ?_
  rintro e w' ⟨rfl, X1, N⟩
  rw [hx, hi]
  refine ⟨rfl, X1, N, ⟨N.xs.trans hx, by rw [N.its, hi]; rfl, fun i hi2 => ?_, fun j m hm => ?_, .inl N.P⟩⟩
  · rw [N.its, hi] at hi2
    simp at hi2
    subst hi2
    exact ⟨crI_good c, by simp [crI]⟩
  · cases j with
    | zero =>
      simp at hm
      subst hm
      refine ⟨⟨0, []⟩, ?_, HoldsB.empty p _, .inl rfl⟩
      rw [N.its, hi]
      exact h2
    | succ j => simp at hm
theorem scr_writeC (w : World) (r : Nat) (X : RepX) (H : RepAt w r X) (c : Fin 26) (p : List Int) (ms : List (List Int)) (S : Scr c p X ms) (hms : ms.length ≤ 45) (da : Option Addr) (dc : Nat) (hd : SlC w (.slice da p.length dc) p.length (u8s p)) (hb : ByteL p) (h0 : 0 < p.length) (h7 : p.length ≤ 7) (off : Nat) (ho : off ≤ 100000) :
    Calls Tryz.prog 9 #[.pointer (some ⟨r, 0, none⟩), .agg #[.int .i64 3, .string (fp c.1), .string ⟨#[]⟩, .int .i64 off, .int .i64 0, .slice da p.length dc]] w fun e w' => e = .returned (.tuple #[.int .i64 ((ms.length : Int) + 2), .int .i64 0]) ∧ ∃ X1, IngNice w r X (wrI c off p X.P) [p] w' X1 ∧ Scr c p X1 (ms ++ [putBytes (lastM ms) p off]) := by
  obtain ⟨bd, h1, h2, h3⟩ := S.cur H
  obtain ⟨e1, hf⟩ := newPart_fits X.P p S.P h0 (by omega)
  have hfew := h2.few
  obtain ⟨h4, h5⟩ := one_wr h1 off p X.P hf (by omega) (by omega)
  have hpp : putP X.P p = [p] := by
    rcases S.P with h | h
    · rw [h, putP_nil]
    · rw [h, putP_one]
  have hpl : X.P.length ≤ 1 := by rcases S.P with h | h <;> simp [h]
  have hpc : PcsOk w (wrI c off p X.P) da p.length dc X.P [p] := by
    rw [← hpp]
    exact pcs_shortC w _ da p.length dc X.P p rfl rfl hd hb h0 h7 (by omega)
  have hgood := wrI_good c off p X.P (by omega) hf
  refine (ingest_nice w r X H (wrI c off p X.P) [p] da p.length dc h4 hgood (wrI_clean c off p X.P) (by simp [wrI]) (fun _ => ⟨by omega, by simp [wrI]; omega⟩) hpc (record_short _ _ (by rw [S.xs]; decide) (fun i hi => ?_) (by rw [List.length_append, S.len]; simp; omega)) (by rw [S.len]; omega)).mono ?_
  · rcases List.mem_append.1 hi with hi | hi
    · exact S.good i hi
    · simp only [List.mem_singleton] at hi
      subst hi
      exact ⟨hgood, by simp [wrI]⟩
  · rintro e w' ⟨rfl, X1, N⟩
    refine ⟨by rw [S.xs, S.len]; simp; omega, X1, N, S.more H N ⟨hgood, by simp [wrI]⟩ (.inr rfl) h5 ?_ (.inr rfl)⟩
    rw [e1]
    exact h2.write h0 (by omega) off (by omega)
theorem scr_trunc (w : World) (r : Nat) (X : RepX) (H : RepAt w r X) (c : Fin 26) (p : List Int) (ms : List (List Int)) (S : Scr c p X ms) (hms : ms.length ≤ 45) (n : Nat) (hn : n ≤ 100000) :
    Calls Tryz.prog 9 #[.pointer (some ⟨r, 0, none⟩), .agg #[.int .i64 4, .string (fp c.1), .string ⟨#[]⟩, .int .i64 0, .int .i64 n, .slice none 0 0]] w fun e w' => e = .returned (.tuple #[.int .i64 ((ms.length : Int) + 2), .int .i64 0]) ∧ ∃ X1, IngNice w r X (trI c n) X.P w' X1 ∧ Scr c p X1 (ms ++ [cutBytes (lastM ms) n]) := by
  obtain ⟨bd, h1, h2, h3⟩ := S.cur H
  obtain ⟨h4, h5⟩ := one_tr h1 n (by omega)
  have hgood := trI_good c n (by omega)
  refine (ingest_nice w r X H (trI c n) X.P none 0 0 h4 hgood (trI_clean c n) (by simp [trI]) (fun h => by simp [trI] at h) (pcs_none w _ none 0 0 _ (by simp [trI]) rfl) (record_short _ _ (by rw [S.xs]; decide) (fun i hi => ?_) (by rw [List.length_append, S.len]; simp; omega)) (by rw [S.len]; omega)).mono ?_
  · rcases List.mem_append.1 hi with hi | hi
    · exact S.good i hi
    · simp only [List.mem_singleton] at hi
      subst hi
      exact ⟨hgood, by simp [trI]⟩
  · rintro e w' ⟨rfl, X1, N⟩
    refine ⟨by rw [S.xs, S.len]; simp; omega, X1, N, S.more H N ⟨hgood, by simp [trI]⟩ (.inl rfl) h5 (h2.trunc n (by omega)) ?_⟩
    rcases h3 with h3 | h3
    · exact .inl (by show bd.parts.filterMap _ = []; rw [h3]; rfl)
    · exact .inr h3
/-- An engine as it was made. -/
structure NewEng (X : RepX) : Prop where
  dn : X.dn = 0
  number : X.x.number = 2
  k : X.x.k = 0
  ssJ : X.x.ssJ = []
  ssC : X.x.ssC = []
  nJ : X.x.nJ = 0
  nC : X.x.nC = 0
theorem NewEng.of {w w' : World} {r : Nat} {X X1 : RepX} {i : ItemA} {P' : List (List Int)} (h : NewEng X) (N : IngNice w r X i P' w' X1) : NewEng X1 :=
  ⟨N.dn.trans h.dn, by rw [N.x]; exact h.number, by rw [N.x]; exact h.k, by rw [N.x]; exact h.ssJ, by rw [N.x]; exact h.ssC, by rw [N.x]; exact h.nJ, by rw [N.x]; exact h.nC⟩
/-- A script that is committed. -/
structure ScrDone (c : Fin 26) (p : List Int) (X : RepX) (ms : List (List Int)) : Prop where
  len : X.xs.length = ms.length + 1
  st : ∀ j m, ([] :: ms)[j]? = some m → ∃ y bd, X.xs[j]? = some y ∧ OneFile c y.x bd ∧ HoldsB p bd m (2 * j) ∧ (bd.parts = [] ∨ X.P = [p])
theorem scr_commit (w : World) (r : Nat) (X : RepX) (H : RepAt w r X) (c : Fin 26) (p : List Int) (ms : List (List Int)) (S : Scr c p X ms) (E : NewEng X) (hms : ms.length ≤ 46) :
    Calls Tryz.prog 10 #[.pointer (some ⟨r, 0, none⟩)] w fun e w' => e = .returned (.int .i64 0) ∧ ∃ X2, RepAt w' r X2 ∧ Frame (X.mu r) w w' ∧ ScrDone c p X2 ms := by
  have hpl : X.P.length ≤ 1 := by rcases S.P with h | h <;> simp [h]
  have hrec : (recordB (X.xs.length + 1) X.its).length ≤ 16384 := record_short _ _ (by rw [S.xs]; decide) S.good (by rw [S.len]; omega)
  have hfr := H.eng.frees
  rw [E.ssJ, E.ssC] at hfr
  refine (commit_any w r X H (fun h => by have := S.len; rw [h] at this; simp at this) hrec (by rw [S.xs, S.len]; simp; omega) (by omega) (by rw [E.dn]; decide) (by rw [E.k]; decide) (by rw [E.number]; decide) (fun T hT => ?_)).mono ?_
  · rw [E.ssJ, E.ssC, E.nJ, E.nC]
    unfold needN manyN
    simp at hfr ⊢
    omega
  · rintro e w' ⟨rfl, x', pv, sv, zs, dn, df, T, h1, h2, h3, h4, -⟩
    refine ⟨rfl, _, h1, h2, ?_, fun j m hm => ?_⟩
    · show (X.xs ++ zs).length = _
      rw [S.xs, List.nil_append, h3, S.len]
    · obtain ⟨bd, a1, a2, a3⟩ := S.st j m hm
      have hj : j < zs.length := by
        have := (List.getElem?_eq_some_iff.1 hm).1
        rw [h3, S.len]
        simpa using this
      refine ⟨zs[j], bd, ?_, ?_, a2, a3⟩
      · show (X.xs ++ zs)[j]? = _
        rw [S.xs, List.nil_append, List.getElem?_eq_getElem hj]
      · rw [h4 j _ (List.getElem?_eq_getElem hj), S.xs, lastX_nil]
        exact a1
theorem scr_read (w : World) (r : Nat) (X : RepX) (H : RepAt w r X) (c : Fin 26) (p : List Int) (ms : List (List Int)) (S : ScrDone c p X ms) (j : Nat) (m : List Int) (hj : ([] :: ms)[j]? = some m) (off n : Nat) (h0 : off ≤ m.length) (h1 : m.length ≤ off + n) (h2 : off ≤ 100000) (h3 : n ≤ 4096) :
    Calls Tryz.prog 11 #[.pointer (some ⟨r, 0, none⟩), .int .i64 ((j : Int) + 1), .string (fp c.1), .int .i64 off, .int .i64 n] w fun e w' => ∃ v', e = .returned (.tuple #[v', .int .i64 0]) ∧ Sl w' 5 1 v' (m.drop off).length (u8s (m.drop off)) ∧ Below w.heap.size w w' := by
  obtain ⟨y, bd, a1, a2, a3, a4⟩ := S.st j m hj
  have := repRead_any w r X H j y a1 c 1 a2.T bd a2.S (fun q hq => ?_) off n (by omega) (by omega) (by omega) (by omega)
  · rw [a3.read X.P a4 off n h0 h1] at this
    exact this
  · obtain ⟨h5, h6⟩ := a3.one q hq
    rcases a4 with a4 | a4
    · rw [a4] at hq
      simp at hq
    · rw [h5, a4]
      exact ⟨by decide, p, rfl, h6⟩
end Go.Proofs.YtaonlcgneemimaaGreatDoor
namespace Go.Proofs.YtaonlcgneemimaaGreatDoor
open Go.RowKit
/-- Blocks of bytes or of texts. -/
def ByteB (w : World) (M : List Nat) : Prop := ∀ k ∈ M, ∃ arr t, w.heap[k]? = some (.cells arr t (0, 0)) ∧ (t = 5 ∨ t = 9)
theorem ByteB.out {w : World} {M : List Nat} (h : ByteB w M) {k : Nat} {arr : Array Value} {t : TypeId} (hk : w.heap[k]? = some (.cells arr t (0, 0))) (h5 : t ≠ 5) (h9 : t ≠ 9) : k ∉ M := fun hm => by
  obtain ⟨a, u, h1, h2⟩ := h k hm
  rw [hk] at h1
  injection h1 with h1
  injection h1 with _ h3
  subst h3
  rcases h2 with h2 | h2
  · exact h5 h2
  · exact h9 h2
theorem ByteB.map {w : World} {M : List Nat} (h : ByteB w M) {k : Nat} (hk : ∃ es cl, w.heap[k]? = some (.map es cl)) : k ∉ M := fun hm => by
  obtain ⟨a, u, h1, -⟩ := h k hm
  obtain ⟨es, cl, h2⟩ := hk
  rw [h2] at h1
  simp at h1
theorem ByteB.no {w : World} {M : List Nat} (h : ByteB w M) {t : TypeId} (h5 : t ≠ 5) (h9 : t ≠ 9) : ∀ k ∈ M, ∀ arr, w.heap[k]? ≠ some (.cells arr t (0, 0)) := fun k hk arr he => h.out he h5 h9 hk
theorem StAt.notB {w : World} {M : List Nat} {y : StX} (hy : StAt w y) (h : ByteB w M) : ∀ k ∈ y.blocks, k ∉ M := by
  intro k hk
  simp only [StX.blocks, List.mem_cons, List.not_mem_nil, or_false] at hk
  rcases hk with rfl | rfl | rfl | rfl
  · exact h.out hy.at'.cell (by decide) (by decide)
  · exact h.out hy.at'.tree.cell (by decide) (by decide)
  · exact h.map hy.at'.tree.map.obj
  · exact h.map hy.at'.bodies.map.obj
/-- What is written into bytes and texts of one's own is no matter of a repository. -/
theorem RepAt.frameO {w w' : World} {r : Nat} {X : RepX} {M : List Nat} (H : RepAt w r X) (hf : Frame M w w') (hT : ByteB w M) (hv : ∀ v ∈ X.vs, ∀ g, v.ownBlock = some g → g ∉ M) (h1 : 1 ∉ M) : RepAt w' r X := by
  have tm : ∀ {S : List Nat}, Typed w M S → True := fun _ => trivial
  have he : ∀ k ∈ X.x.mut X.e, k ∉ M := fun k hk => by
    rcases H.eng.typed k hk with ⟨a, t, h2, h3⟩ | h2
    · refine hT.out h2 ?_ ?_ <;> (simp only [List.mem_cons, List.not_mem_nil, or_false] at h3; rcases h3 with rfl | rfl | rfl | rfl | rfl | rfl <;> decide)
    · exact hT.map h2
  have hh : ∀ k ∈ histM X.h X.pv X.sv, k ∉ M := fun k hk => by
    obtain ⟨a, t, h2, h3⟩ := histM_ty H.hist k hk
    refine hT.out h2 ?_ ?_ <;> rcases h3 with rfl | rfl | rfl <;> decide
  have hb : X.x.b ∉ M := by
    obtain ⟨ba, hba⟩ := H.eng.space.blk
    exact hT.out hba (by decide) (by decide)
  have hch : ChunksAt w' 0 X.c X.P X.bl X.bb X.vs X.fb X.m X.sz := by
    have h := H.chunks
    refine ⟨hf.heap h.cell (hT.out h.cell (by decide) (by decide)), h.lo, h.ne, ⟨h.pieces.1, fun i v p hvi hp => ?_⟩, h.nodup, h.ml.same (hf.block _ h.ml.lt (hT.map h.ml.obj)), h.mb.same (hf.block _ h.mb.lt (hT.map h.mb.obj)), fun k v hk => ?_, h.empty, h.apart, h.small⟩
    · obtain ⟨h2, h3⟩ := h.pieces.2 i v p hvi hp
      refine ⟨h2.same (fun g off cap hg => ?_), h3⟩
      have hgn : g ∉ M := hv v (List.mem_of_getElem? hvi) g (by rw [hg]; rfl)
      rcases h2.2.2 with ⟨h4, -⟩ | ⟨g', off', cap', arr, h4, -, -, -, h5, -⟩
      · rw [hg] at h4; simp at h4
      · rw [hg] at h4
        simp only [Value.slice.injEq, Option.some.injEq, Addr.mk.injEq, and_true] at h4
        obtain ⟨⟨rfl, -⟩, -⟩ := h4
        exact hf.block g (heap_lt h5) hgn
    · obtain ⟨h2, h3⟩ := h.rows k v hk
      exact ⟨own_frame h2 hf (fun g hg => by
        obtain ⟨arr, ha⟩ := own_heap h2 hg
        exact hT.out ha (by decide) (by decide)), h3⟩
  exact ⟨hf.heap H.cell (hT.out H.cell (by decide) (by decide)), H.eng.frame hf he hb, H.hist.frame hf hh (fun z hz => (H.hist.each z hz).notB hT) h1 (hT.no (by decide) (by decide)), hch, H.dmap.same (hf.block _ H.dmap.lt (hT.map H.dmap.obj)), H.dval, H.rows.frame hf (hT.no (by decide) (by decide)) (hT.no (by decide) (by decide)), H.st.frame hf (H.st.notB hT) h1 (hT.no (by decide) (by decide)), H.yx, H.ok, H.good, H.one, H.ynot, H.znot, H.cnot, H.fnot, H.dne⟩
theorem RepAt.vs_lt {w : World} {r : Nat} {X : RepX} (H : RepAt w r X) : ∀ v ∈ X.vs, ∀ g, v.ownBlock = some g → g < w.heap.size := by
  intro v hv g hg
  obtain ⟨i, hi, rfl⟩ := List.getElem_of_mem hv
  have hl := H.chunks.pieces.1
  obtain ⟨h2, -⟩ := H.chunks.pieces.2 i X.vs[i] (X.P[i]'(by omega)) (List.getElem?_eq_getElem hi) (List.getElem?_eq_getElem (by omega))
  rcases h2.2.2 with ⟨h4, -⟩ | ⟨g', off', cap', arr, h4, -, -, -, h5, -⟩
  · rw [h4] at hg; simp [Value.ownBlock] at hg
  · rw [h4] at hg
    simp only [Value.ownBlock, Option.some.injEq] at hg
    subst hg
    exact heap_lt h5
def strsV (al : List (List Int)) : List Value := al.map fun m => .string (strOfNums m)
/-- The law's loop: the repository, the bytes, the texts that are noted. -/
structure HolI (w wr : World) (r : Nat) (p : List Int) (ms : List (List Int)) (mv : Value) (l : List Int) (av : Value) (al : List (List Int)) : Prop where
  rep : ∃ X, RepAt wr r X ∧ Scr 5 p X ms ∧ NewEng X ∧ (∀ k ∈ X.mu r, w.heap.size ≤ k) ∧ (∀ k ∈ X.m1 r, w.heap.size ≤ k) ∧ (∀ v ∈ X.vs, ∀ g, v.ownBlock = some g → mv.ownBlock ≠ some g)
  m : wr.ownsRow w.heap.size 5 1 mv l.length (u8s l)
  all : wr.ownsRow w.heap.size 9 1 av al.length (strsV al)
  below : Below w.heap.size w wr
  one : 1 < w.heap.size
  lens : ∀ m ∈ ms, m.length ≤ 500
theorem HolI.ing {w W w' : World} {r : Nat} {p : List Int} {ms ms' : List (List Int)} {mv : Value} {l : List Int} {av : Value} {al : List (List Int)} {X X1 : RepX} {i : ItemA} {P' : List (List Int)} (h : HolI w W r p ms mv l av al) (hX : RepAt W r X ∧ Scr 5 p X ms ∧ NewEng X ∧ (∀ k ∈ X.mu r, w.heap.size ≤ k) ∧ (∀ k ∈ X.m1 r, w.heap.size ≤ k) ∧ (∀ v ∈ X.vs, ∀ g, v.ownBlock = some g → mv.ownBlock ≠ some g)) (N : IngNice W r X i P' w' X1) (S : Scr 5 p X1 ms') (hl : ∀ m ∈ ms', m.length ≤ 500) : HolI w w' r p ms' mv l av al := by
  obtain ⟨h1, -, h3, h4, h5, h6⟩ := hX
  have hfr : ∀ {e : TypeId} {v : Value} {n : Nat} {xs : List Value}, W.ownsRow w.heap.size e 1 v n xs → e ≠ 77 → e ≠ 170 → w'.ownsRow w.heap.size e 1 v n xs := fun ho ne1 ne2 => own_frame ho N.fr (fun g hg => by
    obtain ⟨arr, ha⟩ := own_heap ho hg
    exact h1.ty1.out ha (by simp [ne1, ne2]))
  refine ⟨⟨X1, N.rep, S, h3.of N, by rw [N.mu]; exact h4, by rw [N.m1]; exact h5, fun v hv g hg he => ?_⟩, hfr h.m (by decide) (by decide), hfr h.all (by decide) (by decide), N.fr.belowIf h.below h5 h.below.size, h.one, hl⟩
  rcases N.vs v hv with hv | hv
  · exact h6 v hv g hg he
  · have := hv g hg
    have := (h.m.lt g he).2
    omega
/-- Bytes that are turned. -/
theorem HolI.turn {w W w' : World} {r : Nat} {p : List Int} {ms : List (List Int)} {mv mv' : Value} {l l' : List Int} {av : Value} {al : List (List Int)} (h : HolI w W r p ms mv l av al) (hf : Frame mv.ownBlock.toList W w') (ho : w'.ownsRow w.heap.size 5 1 mv' l'.length (u8s l')) (hb : mv'.ownBlock = mv.ownBlock ∨ mv'.ownBlock = none ∨ ∃ g, mv'.ownBlock = some g ∧ W.heap.size ≤ g) : HolI w w' r p ms mv' l' av al := by
  obtain ⟨X, h1, h2, h3, h4, h5, h6⟩ := h.rep
  have hB : ByteB W mv.ownBlock.toList := fun k hk => by
    obtain ⟨arr, ha⟩ := own_heap h.m (by simpa using hk)
    exact ⟨arr, 5, ha, .inl rfl⟩
  have hlo : ∀ k ∈ mv.ownBlock.toList, w.heap.size ≤ k := fun k hk => (h.m.lt k (by simpa using hk)).1
  have hR := h1.frameO hf hB (fun v hv g hg hm => h6 v hv g hg (by simpa using hm)) (fun hm => by have := hlo 1 hm; have := h.one; omega)
  refine ⟨⟨X, hR, h2, h3, h4, h5, fun v hv g hg he => ?_⟩, ho, own_frame h.all hf (fun g hg hm => ?_), hf.belowIf h.below hlo h.below.size, h.one, h.lens⟩
  · rcases hb with hb | hb | ⟨g', hb, hg'⟩
    · exact h6 v hv g hg (hb ▸ he)
    · rw [hb] at he; simp at he
    · rw [hb] at he
      simp only [Option.some.injEq] at he
      have := h1.vs_lt v hv g hg
      omega
  · obtain ⟨a, ha⟩ := own_heap h.all hg
    obtain ⟨b, hb2⟩ := own_heap h.m (by simpa using hm)
    exact cells_ty ha hb2 (by decide) rfl
/-- A text that is noted. -/
theorem HolI.note {w W w' : World} {r : Nat} {p : List Int} {ms : List (List Int)} {mv : Value} {l : List Int} {av av' : Value} {al al' : List (List Int)} (h : HolI w W r p ms mv l av al) (hf : Frame av.ownBlock.toList W w') (ho : w'.ownsRow w.heap.size 9 1 av' al'.length (strsV al')) : HolI w w' r p ms mv l av' al' := by
  obtain ⟨X, h1, h2, h3, h4, h5, h6⟩ := h.rep
  have hB : ByteB W av.ownBlock.toList := fun k hk => by
    obtain ⟨arr, ha⟩ := own_heap h.all (by simpa using hk)
    exact ⟨arr, 9, ha, .inr rfl⟩
  have hlo : ∀ k ∈ av.ownBlock.toList, w.heap.size ≤ k := fun k hk => (h.all.lt k (by simpa using hk)).1
  have hne : ∀ v ∈ X.vs, ∀ g, v.ownBlock = some g → g ∉ av.ownBlock.toList := fun v hv g hg hm => by
    obtain ⟨i, hi, rfl⟩ := List.getElem_of_mem hv
    have hl := h1.chunks.pieces.1
    obtain ⟨h7, -⟩ := h1.chunks.pieces.2 i X.vs[i] (X.P[i]'(by omega)) (List.getElem?_eq_getElem hi) (List.getElem?_eq_getElem (by omega))
    obtain ⟨a, ha⟩ := own_heap h.all (by simpa using hm)
    rcases h7.2.2 with ⟨h8, -⟩ | ⟨g', off', cap', arr, h8, -, -, -, h9, -⟩
    · rw [h8] at hg; simp [Value.ownBlock] at hg
    · rw [h8] at hg
      simp only [Value.ownBlock, Option.some.injEq] at hg
      subst hg
      exact cells_ty h9 ha (by decide) rfl
  have hR := h1.frameO hf hB hne (fun hm => by have := hlo 1 hm; have := h.one; omega)
  refine ⟨⟨X, hR, h2, h3, h4, h5, h6⟩, own_frame h.m hf (fun g hg hm => ?_), ho, hf.belowIf h.below hlo h.below.size, h.one, h.lens⟩
  obtain ⟨a, ha⟩ := own_heap h.m hg
  obtain ⟨b, hb2⟩ := own_heap h.all (by simpa using hm)
  exact cells_ty ha hb2 (by decide) rfl
theorem lastM_len {ms : List (List Int)} (h : ∀ m ∈ ms, m.length ≤ 500) : (lastM ms).length ≤ 500 := by
  unfold lastM
  rcases List.eq_nil_or_concat ms with rfl | ⟨l, z, hz⟩
  · simp
  · rw [List.concat_eq_append] at hz
    subst hz
    simpa using h z (by simp)
theorem hol_write (w W : World) (r : Nat) (p : List Int) (ms : List (List Int)) (mv : Value) (l : List Int) (av : Value) (al : List (List Int)) (h : HolI w W r p ms mv l av al) (hms : ms.length ≤ 45) (b b' : Int) (hp : p = [b, b']) (hb : ByteL p) (g : Nat) (hg : W.heap[g]? = some (.cells #[.int .u8 b, .int .u8 b'] 5 (0, 0))) (k : Nat) (hk : k ≤ 498) :
    Calls Tryz.prog 9 #[.pointer (some ⟨r, 0, none⟩), .agg #[.int .i64 3, .string (fp 5), .string ⟨#[]⟩, .int .i64 k, .int .i64 0, .slice (some ⟨g, 0, none⟩) 2 2]] W fun e w' => e = .returned (.tuple #[.int .i64 ((ms.length : Int) + 2), .int .i64 0]) ∧ HolI w w' r p (ms ++ [putBytes (lastM ms) p k]) mv l av al := by
  obtain ⟨X, hX⟩ := h.rep
  have hpl : p.length = 2 := by rw [hp]; rfl
  have hd : SlC W (.slice (some ⟨g, 0, none⟩) p.length 2) p.length (u8s p) := by
    rw [hpl, hp]
    exact SlC.two hg rfl rfl
  have := scr_writeC W r X hX.1 5 p ms hX.2.1 hms (some ⟨g, 0, none⟩) 2 hd hb (by omega) (by omega) k (by omega)
  rw [hpl] at this
  refine this.mono ?_
  rintro e w' ⟨rfl, X1, N, S⟩
  refine ⟨rfl, h.ing hX N S (fun m hm => ?_)⟩
  rcases List.mem_append.1 hm with hm | hm
  · exact h.lens m hm
  · simp only [List.mem_singleton] at hm
    subst hm
    have := lastM_len h.lens
    rw [putBytes_len, hpl]
    omega
theorem hol_trunc (w W : World) (r : Nat) (p : List Int) (ms : List (List Int)) (mv : Value) (l : List Int) (av : Value) (al : List (List Int)) (h : HolI w W r p ms mv l av al) (hms : ms.length ≤ 45) (k : Nat) (hk : k ≤ 500) :
    Calls Tryz.prog 9 #[.pointer (some ⟨r, 0, none⟩), .agg #[.int .i64 4, .string (fp 5), .string ⟨#[]⟩, .int .i64 0, .int .i64 k, .slice none 0 0]] W fun e w' => e = .returned (.tuple #[.int .i64 ((ms.length : Int) + 2), .int .i64 0]) ∧ HolI w w' r p (ms ++ [cutBytes (lastM ms) k]) mv l av al := by
  obtain ⟨X, hX⟩ := h.rep
  refine (scr_trunc W r X hX.1 5 p ms hX.2.1 hms k (by omega)).mono ?_
  rintro e w' ⟨rfl, X1, N, S⟩
  refine ⟨rfl, h.ing hX N S (fun m hm => ?_)⟩
  rcases List.mem_append.1 hm with hm | hm
  · exact h.lens m hm
  · simp only [List.mem_singleton] at hm
    subst hm
    rw [cutBytes_len]
    omega
/-- Behind the commit. -/
structure HolD (w wr : World) (r : Nat) (p : List Int) (ms : List (List Int)) (av : Value) : Prop where
  rep : ∃ X, RepAt wr r X ∧ ScrDone 5 p X ms
  all : wr.ownsRow w.heap.size 9 1 av ms.length (strsV ms)
  below : Below w.heap.size w wr
  lens : ∀ m ∈ ms, m.length ≤ 500
theorem HolD.more {w W w' : World} {r : Nat} {p : List Int} {ms : List (List Int)} {av : Value} (h : HolD w W r p ms av) (hb : Below W.heap.size W w') : HolD w w' r p ms av := by
  obtain ⟨X, h1, h2⟩ := h.rep
  exact ⟨⟨X, h1.below hb, h2⟩, own_below h.all hb, h.below.trans (hb.mono h.below.size), h.lens⟩
theorem hol_commit (w W : World) (r : Nat) (p : List Int) (ms : List (List Int)) (mv : Value) (l : List Int) (av : Value) (h : HolI w W r p ms mv l av ms) (hms : ms.length ≤ 46) :
    Calls Tryz.prog 10 #[.pointer (some ⟨r, 0, none⟩)] W fun e w' => e = .returned (.int .i64 0) ∧ HolD w w' r p ms av := by
  obtain ⟨X, h1, h2, h3, h4, h5, h6⟩ := h.rep
  refine (scr_commit W r X h1 5 p ms h2 h3 hms).mono ?_
  rintro e w' ⟨rfl, X2, a1, a2, a3⟩
  refine ⟨rfl, ⟨X2, a1, a3⟩, own_frame h.all a2 (fun g hg => ?_), a2.belowIf h.below h4 h.below.size, h.lens⟩
  obtain ⟨arr, ha⟩ := own_heap h.all hg
  exact h1.ty2.out ha (by decide)
theorem hol_read (w W : World) (r : Nat) (p : List Int) (ms : List (List Int)) (av : Value) (h : HolD w W r p ms av) (j : Nat) (m : List Int) (hj : ms[j]? = some m) :
    Calls Tryz.prog 11 #[.pointer (some ⟨r, 0, none⟩), .int .i64 ((j : Int) + 2), .string (fp 5), .int .i64 0, .int .i64 600] W fun e w' => ∃ v', e = .returned (.tuple #[v', .int .i64 0]) ∧ Sl w' 5 1 v' m.length (u8s m) ∧ HolD w w' r p ms av := by
  obtain ⟨X, h1, h2⟩ := h.rep
  have hl := h.lens m (List.mem_of_getElem? hj)
  have := scr_read W r X h1 5 p ms h2 (j + 1) m (by simpa using hj) 0 600 (by omega) (by omega) (by omega) (by omega)
  rw [show ((j + 1 : Nat) : Int) + 1 = (j : Int) + 2 by omega] at this
  refine this.mono ?_
  rintro e w' ⟨v', rfl, h3, h4⟩
  exact ⟨v', rfl, by simpa using h3, h.more h4⟩
theorem hol_create (w W : World) (r : Nat) (p : List Int) (X : RepX) (hb : Below w.heap.size w W) (h1 : 1 < w.heap.size) (h : RepAt W r X ∧ X.xs = [] ∧ X.its = [] ∧ X.P = [] ∧ NewEng X ∧ (∀ k ∈ X.mu r, w.heap.size ≤ k) ∧ (∀ k ∈ X.m1 r, w.heap.size ≤ k)) :
    Calls Tryz.prog 9 #[.pointer (some ⟨r, 0, none⟩), .agg #[.int .i64 1, .string (fp 5), .string ⟨#[]⟩, .int .i64 0, .int .i64 0, .slice none 0 0]] W fun e w' => e = .returned (.tuple #[.int .i64 1, .int .i64 0]) ∧ HolI w w' r p [] (.slice none 0 0) [] (.slice none 0 0) [] := by
  obtain ⟨a1, a2, a3, a4, a5, a6, a7⟩ := h
  refine (scr_create W r X a1 5 p a2 a3 a4).mono ?_
  rintro e w' ⟨rfl, X1, N, S⟩
  exact ⟨rfl, ⟨X1, N.rep, S, a5.of N, by rw [N.mu]; exact a6, by rw [N.m1]; exact a7, fun v hv g hg => by simp [Value.ownBlock]⟩, World.ownsRow_nil _ _ _ _, World.ownsRow_nil _ _ _ _, N.fr.belowIf hb a7 hb.size, h1, by simp⟩
end Go.Proofs.YtaonlcgneemimaaGreatDoor
