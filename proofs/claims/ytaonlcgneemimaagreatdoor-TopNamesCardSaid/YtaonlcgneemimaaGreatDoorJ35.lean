/- TopNames: the contracts of Y19, W8, Y20, Y15; no condition. -/
import Derived.Test.YtaonlcgneemimaaGreatDoorJ34
import Derived.Test.YtaonlcgneemimaaGreatDoorJ25
import Derived.Test.YtaonlcgneemimaaGreatDoorJ33
import Derived.Test.YtaonlcgneemimaaGreatDoorJ29
namespace Go.Proofs.YtaonlcgneemimaaGreatDoor
open Go.RowKit
set_option maxRecDepth 100000 in
set_option maxHeartbeats 2000000 in
theorem repPoints_any (w : World) (r : Nat) (X : RepX) (H : RepAt w r X) :
    Calls Tryz.prog 14 #[.pointer (some ⟨r, 0, none⟩)] w fun e w' => ∃ v, e = .returned v ∧ PtsV w' v X.xs.length ∧ Below w.heap.size w w' := by
  have HP := Lib.hid (histPoints_any w X.h X.pv X.sv X.xs H.hist)
  have c1 := cellAt H.cell 1
  simp only [List.getElem?_toArray, List.getElem?_cons_zero, List.getElem?_cons_succ] at c1
  clear H
  go_enter Tryz.func14, Tryz.ntmps14
  go_wp2_with (go_at_call 40; with_reducible refine HP.out.mono ?_; rintro e1 w1 ⟨v, rfl, hv, hq⟩; have HV := Lib.hid hv; have HQ := Lib.hid hq; obtain ⟨a, cap, rfl, hcap, -, -⟩ := pts_cells hv; clear hv hq)
  go_ret
  exact ⟨_, rfl, HV.out, HQ.out⟩
set_option maxRecDepth 100000 in
set_option maxHeartbeats 2000000 in
theorem repState_any (w : World) (r : Nat) (X : RepX) (H : RepAt w r X) (j : Nat) (y : StX) (hj : X.xs[j]? = some y) :
    Calls Tryz.prog 36 #[.pointer (some ⟨r, 0, none⟩), .int .i64 ((j : Int) + 1)] w fun e w' => ∃ y' : StX, e = .returned (.tuple #[.pointer (some ⟨y'.s, 0, none⟩), .int .i64 0]) ∧ StAt w' y' ∧ y'.x = y.x ∧ (∀ k ∈ y'.blocks, w.heap.size ≤ k) ∧ Below w.heap.size w w' := by
  have HP := Lib.hid (histState_any w X.h X.pv X.sv X.xs H.hist j y hj)
  have c1 := cellAt H.cell 1
  simp only [List.getElem?_toArray, List.getElem?_cons_zero, List.getElem?_cons_succ] at c1
  clear H
  go_enter Tryz.func36, Tryz.ntmps36
  go_wp2_with (go_at_call 77; with_reducible refine HP.out.mono ?_; rintro e1 w1 ⟨y', rfl, hs, hx, hb, hq⟩; have HS := Lib.hid hs; have HX := Lib.hid hx; have HB := Lib.hid hb; have HQ := Lib.hid hq; clear hs hx hb hq)
  refine bodyPost_ret (v := .tuple #[.pointer (some ⟨y'.s, 0, none⟩), .int .i64 0]) (by simp [results, Tryz.results36, go_sem]) rfl ?_
  exact ⟨_, rfl, HS.out, HX.out, HB.out, HQ.out⟩
set_option maxRecDepth 100000 in
set_option maxHeartbeats 2000000 in
theorem repStat_any (w : World) (r : Nat) (X : RepX) (H : RepAt w r X) (j : Nat) (y : StX) (hj : X.xs[j]? = some y) (c : Fin 26) (id : Int) (hT : y.x.T (fp c.1) = some id) (bd : BodyA) (hS : y.x.S id = some bd) :
    Calls Tryz.prog 17 #[.pointer (some ⟨r, 0, none⟩), .int .i64 ((j : Int) + 1), .string (fp c.1)] w fun e w' => e = .returned (.tuple #[.agg #[.int .i64 id, .bool false, .int .i64 bd.size], .int .i64 0]) ∧ Below w.heap.size w w' := by
  have HB0 : Hid (Below w.heap.size w (w.alloc (.cells #[.int .i64 0, .bool false, .int .i64 0] 54))) := Lib.hid (crc_below _ _)
  have HN0 := Lib.hid (heap_new w (.cells #[.int .i64 0, .bool false, .int .i64 0] 54))
  have SP := Lib.hid (repState_any _ r X (H.below HB0.out) j y hj)
  have ST : Hid (∀ (W : World) (y' : StX), StAt W y' → y'.x = y.x → Calls Tryz.prog 44 #[.pointer (some ⟨y'.s, 0, none⟩), .string (fp c.1)] W fun e w' => e = .returned (.tuple #[.agg #[.int .i64 id, .bool false, .int .i64 bd.size], .int .i64 0]) ∧ Below W.heap.size W w') := Lib.hid (fun W y' hW hx => statS_any W y' hW c id (hx ▸ hT) bd (hx ▸ hS))
  obtain ⟨p, hp⟩ : ∃ p, Hid (p = fp c.1) := ⟨_, rfl⟩
  rw [← hp.out] at ST ⊢
  obtain ⟨bz, hbz⟩ : ∃ b, Hid (b = bd.size) := ⟨_, rfl⟩
  rw [← hbz.out] at ST ⊢
  clear H hT hS hj
  go_enter Tryz.func17, Tryz.ntmps17
  go_wp2_with (first | (go_at_call 36; with_reducible refine SP.out.mono ?_; rintro e1 w1 ⟨y', rfl, hs, hx, hb, hq⟩; have HS := Lib.hid hs; have HX := Lib.hid hx; have HQ1 := Lib.hid hq; clear hs hx hb hq) | (go_at_call 44; with_reducible refine (ST.out w1 y' HS.out HX.out).mono ?_; rintro e1 w2 ⟨rfl, hq⟩; have HQ2 := Lib.hid (HQ1.out.trans (hq.mono HQ1.out.size)); have x := Below.heap (HQ1.out.trans (hq.mono HQ1.out.size)) (Nat.le_refl _) HN0.out; have x0 := cellAt x 0; have x1 := cellAt x 1; have x2 := cellAt x 2; have f0 := frozenAt x 0; have f1 := frozenAt x 1; have f2 := frozenAt x 2; have HX2 := Lib.hid x; clear x hq))
  have yy := setAt (setAt (setAt HX2.out 0 (.int .i64 id)) 1 (.bool false)) 2 (.int .i64 bz)
  have j0 := cellAt yy 0
  have j1 := cellAt yy 1
  have j2 := cellAt yy 2
  simp at j0 j1 j2
  refine bodyPost_ret (v := .tuple #[.agg #[.int .i64 id, .bool false, .int .i64 bz], .int .i64 0]) (by simp [results, Tryz.results17, go_sem, j0, j1, j2]) rfl ?_
  exact ⟨rfl, (((HB0.out.trans (HQ2.out.mono HB0.out.size)).setCell (p := ⟨w.heap.size, 0, none⟩) (Nat.le_refl _) _).setCell (p := ⟨w.heap.size, 1, none⟩) (Nat.le_refl _) _).setCell (p := ⟨w.heap.size, 2, none⟩) (Nat.le_refl _) _⟩
end Go.Proofs.YtaonlcgneemimaaGreatDoor
namespace Go.Proofs.YtaonlcgneemimaaGreatDoor
open Go.RowKit
set_option maxRecDepth 100000 in
set_option maxHeartbeats 2000000 in
theorem versions_any (w : World) (r : Nat) (X : RepX) (H : RepAt w r X) (id : Int) (hid : 0 ≤ id ∧ id ≤ 4611686018427387904) (os : List Seen) (hlen : os.length = X.xs.length) (hos : ∀ (j : Nat) y o, X.xs[j]? = some y → os[j]? = some o → seenOk y.x id o) (hn : versNice none os) :
    Calls Tryz.prog 18 #[.pointer (some ⟨r, 0, none⟩), .int .i64 id] w fun e w' => ∃ a cap, e = .returned (.slice a (versN none os) cap) ∧ Below w.heap.size w w' := by
  have HP := Lib.hid (of_any w X.h X.pv X.sv X.xs H.hist id hid os hlen hos hn)
  have c1 := cellAt H.cell 1
  simp only [List.getElem?_toArray, List.getElem?_cons_zero, List.getElem?_cons_succ] at c1
  obtain ⟨N, hN⟩ : ∃ N, Hid (N = versN none os) := ⟨_, Lib.hid rfl⟩
  rw [← hN.out] at HP ⊢
  clear H hid hlen hos hn
  go_enter Tryz.func18, Tryz.ntmps18
  go_wp2_with (go_at_call 45; with_reducible refine HP.out.mono ?_; rintro e1 w1 ⟨a, cap, rfl, hq⟩; have HQ := Lib.hid hq; clear hq)
  go_ret
  exact ⟨_, _, rfl, HQ.out⟩
end Go.Proofs.YtaonlcgneemimaaGreatDoor
namespace Go.Proofs.YtaonlcgneemimaaGreatDoor
open Go.RowKit
set_option maxRecDepth 100000 in
set_option maxHeartbeats 4000000 in
theorem repRead_any (w : World) (r : Nat) (X : RepX) (H : RepAt w r X) (j : Nat) (y : StX) (hj : X.xs[j]? = some y) (c : Fin 26) (id : Int) (hT : y.x.T (fp c.1) = some id) (bd : BodyA) (hS : y.x.S id = some bd) (hw : wholeB X.P bd) (off n : Int) (h0 : 0 ≤ off) (h1 : off ≤ 1099511627776) (h2 : 0 ≤ n) (h3 : n ≤ 4096) :
    Calls Tryz.prog 11 #[.pointer (some ⟨r, 0, none⟩), .int .i64 ((j : Int) + 1), .string (fp c.1), .int .i64 off, .int .i64 n] w fun e w' => ∃ v', e = .returned (.tuple #[v', .int .i64 0]) ∧ Sl w' 5 1 v' (readB X.P bd off n).length (u8s (readB X.P bd off n)) ∧ Below w.heap.size w w' := by
  have HH := Lib.hid H
  have hok := (H.hist.each y (List.mem_of_getElem? hj)).ok
  obtain ⟨-, -, -, hmay, hfew⟩ := (H.hist.each y (List.mem_of_getElem? hj)).at'.bodies.held id bd hS
  have hidr := hok.ids _ _ hT
  have hn2 := hok.n2
  have SA := Lib.hid (repStat_any w r X H j y hj c id hT bd hS)
  have SP : Hid (∀ W, Below w.heap.size w W → Calls Tryz.prog 36 #[.pointer (some ⟨r, 0, none⟩), .int .i64 ((j : Int) + 1)] W fun e w' => ∃ y' : StX, e = .returned (.tuple #[.pointer (some ⟨y'.s, 0, none⟩), .int .i64 0]) ∧ Hid (StAt w' y') ∧ Hid (y'.x = y.x) ∧ Below W.heap.size W w') := Lib.hid (fun W hW => by
    refine (repState_any W r X (HH.out.below hW) j y hj).mono ?_
    rintro e w' ⟨y', a1, a2, a3, -, a4⟩
    exact ⟨y', a1, Lib.hid a2, Lib.hid a3, a4⟩)
  obtain ⟨bz, hbz⟩ : ∃ b, Hid (b = bd.size) := ⟨_, rfl⟩
  obtain ⟨np, hnp⟩ : ∃ b, Hid (b = bd.parts.length) := ⟨_, rfl⟩
  have BP : Hid (∀ (W : World) (y' : StX), Hid (StAt W y') → Hid (y'.x = y.x) → Calls Tryz.prog 37 #[.pointer (some ⟨y'.s, 0, none⟩), .int .i64 id] W fun e w' => ∃ ba bc, e = .returned (.tuple #[.agg #[.int .i64 bz, .slice ba np bc], .bool true]) ∧ Hid (BodyV w' (.agg #[.int .i64 bz, .slice ba np bc]) bd) ∧ Below W.heap.size W w') := Lib.hid (fun W y' hW hx => by
    refine (bodyS_any W y' hW.out id bd (hx.out ▸ hS) (by omega)).mono ?_
    rintro e w' ⟨v, a1, a2, a3⟩
    have a22 := a2
    obtain ⟨bs, hbv, hbs⟩ := a2
    obtain ⟨ba, bc, rfl, -, -, -⟩ := hbs.shape
    subst hbv
    rw [← hbz.out, ← hnp.out] at *
    exact ⟨ba, bc, a1, Lib.hid a22, a3⟩)
  obtain ⟨L, hL⟩ : ∃ L, Hid (L = readB X.P bd off n) := ⟨_, rfl⟩
  have RD : Hid (∀ (W : World) (v : Value), Below w.heap.size w W → Hid (BodyV W v bd) → Calls Tryz.prog 38 #[v, .pointer (some ⟨X.c, 0, none⟩), .int .i64 off, .int .i64 n] W fun e w' => ∃ v', e = .returned (.tuple #[v', .int .i64 0]) ∧ Sl w' 5 1 v' L.length (u8s L) ∧ Below W.heap.size W w') := Lib.hid (fun W v hW hv => by
    rw [hL.out]
    exact bodyRead_any W v bd hv.out hmay hfew 0 X.c X.P X.bl X.bb X.vs X.fb X.m X.sz (HH.out.chunks.below hW) hw off n h0 h1 h2 h3)
  rw [← hL.out]
  obtain ⟨p, hp⟩ : ∃ p, Hid (p = fp c.1) := ⟨_, rfl⟩
  rw [← hp.out] at SA ⊢
  rw [← hbz.out] at SA
  have KC : Hid (∀ W : World, Below w.heap.size w W → W.cell? ⟨r, 2, none⟩ = some (.pointer (some ⟨X.c, 0, none⟩))) := Lib.hid (fun W hW => cellAt (Below.heap hW (Nat.le_refl _) HH.out.cell) 2)
  clear H hT hS hw hj hmay hfew hok h0 h1 h2 h3 hidr hn2
  go_enter Tryz.func11, Tryz.ntmps11
  go_upto_region 8 with (first | (go_at_call 17; with_reducible refine SA.out.mono ?_; rintro e1 w1 ⟨rfl, hq⟩; have Q1 := Lib.hid hq; have BX1 := Lib.hid (fun o => Q1.out.alloc Q1.out.size o); clear hq) | (go_at_call 36; with_reducible refine (SP.out _ (BX1.out _)).mono ?_; rintro e1 w2 ⟨y', rfl, S2, X2, hq⟩; have Q2 := Lib.hid ((BX1.out _).trans (hq.mono (BX1.out _).size)); have x := Below.heap hq (Nat.le_refl _) (heap_new w1 (.cells #[.int .i64 id, .bool false, .int .i64 bz] 54)); have x0 := cellAt x 0; have x1 := cellAt x 1; clear x hq) | (go_at_call 37; with_reducible refine (BP.out _ y' S2 X2).mono ?_; rintro e1 w3 ⟨ba, bc, rfl, V3, hq⟩; have Q3 : Hid (Below w.heap.size w w3) := Lib.hid (Q2.out.trans (hq.mono Q2.out.size)); clear hq))
  obtain ⟨W4, hW4⟩ : ∃ W4, Hid (W4 = w3.alloc (.cells #[.int .i64 bz, .slice ba np bc] 100)) := ⟨_, Lib.hid rfl⟩
  have B34 : Hid (Below w3.heap.size w3 W4) := Lib.hid (by rw [hW4.out]; exact crc_below _ _)
  have Q4 : Hid (Below w.heap.size w W4.drew) := Lib.hid (Q3.out.trans (B34.out.mono Q3.out.size)).drew
  have V4 : Hid (BodyV W4.drew (.agg #[.int .i64 bz, .slice ba np bc]) bd) := Lib.hid (V3.out.kept (fun k arr hk => Below.heap B34.out.drew (Nat.le_refl _) hk))
  have xb : W4.heap[w3.heap.size]? = some (.cells #[.int .i64 bz, .slice ba np bc] 100 (0, 0)) := by rw [hW4.out]; exact heap_new _ _
  have K8 : Hid (∀ W : World, Below W4.heap.size W4 W → W.cell? ⟨r, 2, none⟩ = some (.pointer (some ⟨X.c, 0, none⟩)) ∧ W.cell? ⟨w3.heap.size, 0, none⟩ = some (.int .i64 bz) ∧ W.cell? ⟨w3.heap.size, 1, none⟩ = some (.slice ba np bc)) := Lib.hid (fun W hW => by
    have h := Below.heap hW (Nat.le_refl _) xb
    have hb := (Q3.out.trans (B34.out.mono Q3.out.size))
    exact ⟨KC.out W (hb.trans (hW.mono hb.size)), cellAt h 0, cellAt h 1⟩)
  have R4 : Hid (Below W4.heap.size W4 W4.drew) := Lib.hid (Below.refl _ _).drew
  have hw4 := hW4.out
  clear xb x0 x1
  rw [← hw4]
  clear hw4
  go_region_held3 (fun W => W.cell? ⟨r, 2, none⟩ = some (.pointer (some ⟨X.c, 0, none⟩)) ∧ W.cell? ⟨w3.heap.size, 0, none⟩ = some (.int .i64 bz) ∧ W.cell? ⟨w3.heap.size, 1, none⟩ = some (.slice ba np bc)) (first | exact K8.out _ R4.out | exact K8.out _ R5.out) (first | (go_at_call 38; with_reducible refine (RD.out _ _ Q4.out V4).mono ?_; rintro e1 w5 ⟨v', rfl, hsl, hq⟩; have S5 := Lib.hid hsl; have Q5 := Lib.hid (Q4.out.trans (hq.mono Q4.out.size)); have R5 := Lib.hid (R4.out.trans (hq.mono R4.out.size)); obtain ⟨va, vc, rfl, -, -, -⟩ := hsl.shape; clear hsl hq))
  go_wp2_with fail
  go_ret2
  exact ⟨_, rfl, S5.out, Q5.out⟩
end Go.Proofs.YtaonlcgneemimaaGreatDoor
namespace Go.Proofs.YtaonlcgneemimaaGreatDoor
open Go.RowKit
set_option maxRecDepth 100000 in
set_option maxHeartbeats 8000000 in
theorem ingest_any (w : World) (r : Nat) (X : RepX) (H : RepAt w r X) (i : ItemA) (P' : List (List Int)) (da : Option Addr) (dn dc : Nat) (hi : okA X.y.x i) (hg : i.good) (hcl : CleanEv i) (h8 : i.op ≠ 8) (hd : i.op = 3 → dn ≤ 1024 ∧ i.off + dn ≤ 1099511627776) (hP : PcsOk w i da dn dc X.P P') (hlen : (recordB (X.xs.length + 1) (X.its ++ [i])).length ≤ 16384) (hfew : X.its.length ≤ 9999) :
    Calls Tryz.prog 9 #[.pointer (some ⟨r, 0, none⟩), .agg #[.int .i64 i.op, .string i.path, .string i.to, .int .i64 i.off, .int .i64 i.size, .slice da dn dc]] w fun e w' => e = .returned (.tuple #[.int .i64 ((X.xs.length : Int) + X.its.length + 1), .int .i64 0]) ∧ IngPost w r X i P' w' := by
  have HH := Lib.hid H
  have HP := Lib.hid hP
  have HI := Lib.hid hi
  have HG := Lib.hid hg
  have h8h := Lib.hid h8
  have hxs := H.hist.few
  have d8 : (i.op == 8) = false := by simpa using h8
  obtain ⟨ra, rcap, hrv, -, -, -⟩ := rows_cells H.rows
  obtain ⟨n, hn⟩ : ∃ n, Hid (n = X.its.length) := ⟨_, Lib.hid rfl⟩
  obtain ⟨N, hN⟩ : ∃ N, Hid (N = X.xs.length) := ⟨_, Lib.hid rfl⟩
  rw [← hn.out] at hrv hfew ⊢
  rw [← hN.out] at hxs ⊢
  have HRV := Lib.hid hrv
  have HC := Lib.hid H.cell
  rw [hrv] at HC
  have hlt := heap_lt H.cell
  obtain ⟨W0, hW0⟩ : ∃ W0, Hid (W0 = (w.alloc (.cells #[.int .i64 i.op, .string i.path, .string i.to, .int .i64 i.off, .int .i64 i.size, .slice da dn dc] 35))) := ⟨_, Lib.hid rfl⟩
  have hs0 : W0.heap.size = w.heap.size + 1 := by rw [hW0.out]; simp
  have B0 : Hid (Below w.heap.size w W0) := Lib.hid (by rw [hW0.out]; exact (Below.refl _ _).alloc (Nat.le_refl _) _)
  have KX : Hid (∀ W : World, Below W0.heap.size W0 W → W.cell? ⟨r, 2, none⟩ = some (.pointer (some ⟨X.c, 0, none⟩)) ∧ W.cell? ⟨r, 4, none⟩ = some (.float .f64 0) ∧ W.cell? ⟨r, 5, none⟩ = some (.slice ra n rcap) ∧ W.cell? ⟨r, 6, none⟩ = some (.pointer (some ⟨X.y.s, 0, none⟩)) ∧ W.cell? ⟨w.heap.size, 0, none⟩ = some (.int .i64 i.op) ∧ W.cell? ⟨w.heap.size, 1, none⟩ = some (.string i.path) ∧ W.cell? ⟨w.heap.size, 2, none⟩ = some (.string i.to) ∧ W.cell? ⟨w.heap.size, 3, none⟩ = some (.int .i64 i.off) ∧ W.cell? ⟨w.heap.size, 4, none⟩ = some (.int .i64 i.size) ∧ W.cell? ⟨w.heap.size, 5, none⟩ = some (.slice da dn dc)) := Lib.hid (fun W hW => by
    have h1 : W.heap[r]? = _ := Below.heap (B0.out.trans (hW.mono B0.out.size)) (Nat.le_refl _) HC.out
    have h0 : W0.heap[w.heap.size]? = some (.cells #[.int .i64 i.op, .string i.path, .string i.to, .int .i64 i.off, .int .i64 i.size, .slice da dn dc] 35 (0, 0)) := by rw [hW0.out]; exact heap_new _ _
    have h2 : W.heap[w.heap.size]? = _ := Below.heap hW (Nat.le_refl _) h0
    exact ⟨cellAt h1 2, cellAt h1 4, cellAt h1 5, cellAt h1 6, cellAt h2 0, cellAt h2 1, cellAt h2 2, cellAt h2 3, cellAt h2 4, cellAt h2 5⟩)
  have CK : Hid (∀ W, Below w.heap.size w W → Calls Tryz.prog 23 #[.pointer (some ⟨X.y.s, 0, none⟩), .agg #[.int .i64 i.op, .string i.path, .string i.to, .int .i64 i.off, .int .i64 i.size, .slice da dn dc]] W fun e w' => e = .returned (.int .i64 0) ∧ Below W.heap.size W w') := Lib.hid (fun W hW => checkS_any W X.y (HH.out.st.below hW) i hi da dn dc hd)
  have CP : Hid (∀ W, Below w.heap.size w W → Calls Tryz.prog 25 #[.pointer (some ⟨X.c, 0, none⟩)] W fun e w' => ∃ c', e = .returned (.pointer (some ⟨c', 0, none⟩)) ∧ ∃ bl' bb' fb' m', ChunksAt w' W.heap.size c' X.P bl' bb' X.vs fb' m' X.sz ∧ Below W.heap.size W w') := Lib.hid (fun W hW => copy_any3 W 0 X.c X.P X.bl X.bb X.vs X.fb X.m X.sz (HH.out.chunks.below hW))
  have CN : Hid (∀ W, Calls Tryz.prog 26 #[.agg #[.int .i64 i.op, .string i.path, .string i.to, .int .i64 i.off, .int .i64 i.size, .slice da dn dc]] W fun e w' => e = .returned (.agg #[.int .i64 i.op, .string i.path, .string i.to, .int .i64 i.off, .int .i64 i.size, .slice none 0 0]) ∧ Below W.heap.size W w') := Lib.hid (fun W => clean_any W i hcl da dn dc)
  have NX : Hid (∀ W, Below w.heap.size w W → Calls Tryz.prog 29 #[.pointer (some ⟨r, 0, none⟩)] W fun e w' => e = .returned (.int .i64 ((N : Int) + n + 1)) ∧ Below W.heap.size W w') := Lib.hid (fun W hW => by
    rw [hN.out]
    exact repNext_any W r X.h _ _ _ _ _ _ _ X.xs ra n rcap (Below.heap hW (Nat.le_refl _) HC.out) (HH.out.hist.below hW) (by omega))
  have BT : Hid (∀ W v, Below w.heap.size w W → RowsV W v (X.its ++ [i]) → Calls Tryz.prog 28 #[.pointer (some ⟨r, 0, none⟩), v] W fun e w' => ∃ v', e = .returned (.tuple #[v', .int .i64 0]) ∧ Below W.heap.size W w' ∧ v'.oneCell' = true) := Lib.hid (fun W v hW hv => by
    refine (repBatch_any W r X.h _ _ _ _ _ _ _ _ X.xs (Below.heap hW (Nat.le_refl _) HC.out) (HH.out.hist.below hW) v _ hv (fun j hj => ?_) (by simp) (by have := hn.out; simp; omega) hlen).mono ?_
    · rcases List.mem_append.1 hj with hj | hj
      · exact (HH.out.good j hj).1
      · simp only [List.mem_singleton] at hj
        subst hj
        exact hg
    · rintro e w' ⟨v', rfl, ho, hq⟩
      obtain ⟨pa, pc, rfl⟩ := own_shape ho
      exact ⟨_, rfl, hq, rfl⟩)
  have ROW : Hid (∀ W, Below w.heap.size w W → RowsV W (.slice ra n rcap) X.its) := Lib.hid (fun W hW => by
    have := HH.out.rows.below hW
    rw [HRV.out] at this
    exact this)
  have AP : Hid (∀ W lv, Below w.heap.size w W → Sl W 134 4 lv i.parts.length (partsC i.parts) → Calls Tryz.prog 30 #[.pointer (some ⟨X.y.s, 0, none⟩), .agg #[.int .i64 i.op, .string i.path, .string i.to, .int .i64 i.off, .int .i64 i.size, .slice none 0 0], lv] W fun e w' => e = .returned (.int .i64 0) ∧ ∃ nb' g', StAt w' ⟨X.y.s, X.y.a, X.y.b, X.y.sm, nb', g', stepA X.y.x i⟩ ∧ Frame [X.y.a, X.y.b, X.y.sm] W w') := Lib.hid (fun W lv hW hl => applyS_any W X.y (HH.out.st.below hW) i HI.out lv hl)
  obtain ⟨Q, hQ⟩ : ∃ Q, Hid (Q = IngPost w r X i P') := ⟨_, Lib.hid rfl⟩
  have FIN : Hid (∀ (w5 w6 : World) (B c' bl' bb' m' nb' : Nat) (vs' : List Value) (fb' g' : Int → Option Value) (sz' : Int) (rv' : Value), Below w.heap.size w w5 → ChunksAt w5 B c' P' bl' bb' vs' fb' m' sz' → VsOk w X.vs vs' → w.heap.size ≤ B → RowsV w5 rv' (X.its ++ [i]) → StAt w6 ⟨X.y.s, X.y.a, X.y.b, X.y.sm, nb', g', stepA X.y.x i⟩ → Frame [X.y.a, X.y.b, X.y.sm] w5 w6 → Q ((w6.setCell ⟨r, 2, none⟩ (.pointer (some ⟨c', 0, none⟩))).setCell ⟨r, 5, none⟩ rv')) := Lib.hid (fun w5 w6 B c' bl' bb' m' nb' vs' fb' g' sz' rv' a1 a2 a3 a4 a5 a6 a7 => by
    rw [hQ.out]
    exact ing_close H hi hg h8 a1 a2 a3 a4 a5 a6 a7)
  have hw0 := hW0.out
  have S0 := KX.out W0 (Below.refl _ _)
  rw [← hQ.out]
  clear H hP hi hg hcl h8 hd hlen hrv
  go_enter Tryz.func9, Tryz.ntmps9
  go_wp2_with fail
  rw [← hw0]
  clear hw0
  have R0 : Hid (Below W0.heap.size W0 W0.drew) := Lib.hid (Below.refl _ _).drew
  have S0d := KX.out W0.drew (Below.refl _ _).drew
  obtain ⟨s2, s4, s5, s6, x0, x1, x2, x3, x4, x5⟩ := S0d
  go_region_held3 (fun W => W.cell? ⟨r, 2, none⟩ = some (.pointer (some ⟨X.c, 0, none⟩)) ∧ W.cell? ⟨r, 4, none⟩ = some (.float .f64 0) ∧ W.cell? ⟨r, 5, none⟩ = some (.slice ra n rcap) ∧ W.cell? ⟨r, 6, none⟩ = some (.pointer (some ⟨X.y.s, 0, none⟩)) ∧ W.cell? ⟨w.heap.size, 0, none⟩ = some (.int .i64 i.op) ∧ W.cell? ⟨w.heap.size, 1, none⟩ = some (.string i.path) ∧ W.cell? ⟨w.heap.size, 2, none⟩ = some (.string i.to) ∧ W.cell? ⟨w.heap.size, 3, none⟩ = some (.int .i64 i.off) ∧ W.cell? ⟨w.heap.size, 4, none⟩ = some (.int .i64 i.size) ∧ W.cell? ⟨w.heap.size, 5, none⟩ = some (.slice da dn dc)) (first | exact ⟨s2, s4, s5, s6, x0, x1, x2, x3, x4, x5⟩ | exact KX.out _ B1.out) (first | (go_at_call 23; with_reducible refine (CK.out _ B0.out.drew).mono ?_; rintro e1 w1 ⟨rfl, hq⟩; have B1 : Hid (Below W0.heap.size W0 w1) := Lib.hid (R0.out.trans (hq.mono R0.out.size)); clear hq))
  have S1 := KX.out w1 B1.out
  clear s2 s4 s5 s6 x0 x1 x2 x3 x4 x5
  obtain ⟨s2, s4, s5, s6, x0, x1, x2, x3, x4, x5⟩ := S1
  have Bw1 : Hid (Below w.heap.size w w1) := Lib.hid (B0.out.trans (B1.out.mono B0.out.size))
  have hs1 : W0.heap.size ≤ w1.heap.size := B1.out.size
  obtain ⟨B, hB⟩ : ∃ B, Hid (B = w1.heap.size) := ⟨_, Lib.hid rfl⟩
  go_upto_region 9 with (go_at_call 25; with_reducible refine (CP.out _ Bw1.out).mono ?_; rintro e1 w2 ⟨c', rfl, bl', bb', fb', m', hch, hq⟩; rw [← hB.out] at hch hq; have C2 := Lib.hid hch; have B2 := Lib.hid hq; clear hch hq)
  have hB2 : B ≤ w2.heap.size := Nat.le_trans (Nat.le_of_eq hB.out) (by have := B2.out.size; omega)
  have hB0 : W0.heap.size ≤ B := by rw [hB.out]; exact hs1
  have B02 : Hid (Below W0.heap.size W0 w2) := Lib.hid (B1.out.trans (B2.out.mono hB0))
  have KY : Hid (∀ W : World, Below B w2 W → W.cell? ⟨r, 2, none⟩ = some (.pointer (some ⟨X.c, 0, none⟩)) ∧ W.cell? ⟨r, 4, none⟩ = some (.float .f64 0) ∧ W.cell? ⟨r, 5, none⟩ = some (.slice ra n rcap) ∧ W.cell? ⟨r, 6, none⟩ = some (.pointer (some ⟨X.y.s, 0, none⟩)) ∧ W.cell? ⟨w.heap.size, 0, none⟩ = some (.int .i64 i.op) ∧ W.cell? ⟨w.heap.size, 1, none⟩ = some (.string i.path) ∧ W.cell? ⟨w.heap.size, 2, none⟩ = some (.string i.to) ∧ W.cell? ⟨w.heap.size, 3, none⟩ = some (.int .i64 i.off) ∧ W.cell? ⟨w.heap.size, 4, none⟩ = some (.int .i64 i.size) ∧ W.cell? ⟨w.heap.size, 5, none⟩ = some (.slice da dn dc)) := Lib.hid (fun W hW => KX.out W (B02.out.trans (hW.mono hB0)))
  have PC : Hid (∀ W, Below w2.heap.size w2 W → Calls Tryz.prog 27 #[.pointer (some ⟨c', 0, none⟩), .agg #[.int .i64 i.op, .string i.path, .string i.to, .int .i64 i.off, .int .i64 i.size, .slice da dn dc]] W fun e w' => ∃ v', e = .returned v' ∧ Sl w' 134 4 v' i.parts.length (partsC i.parts) ∧ (∃ vs2 fb2 m2 sz2, ChunksAt w' B c' P' bl' bb' vs2 fb2 m2 sz2 ∧ VsOk w2 X.vs vs2) ∧ Below B w2 w' ∧ KeptC W w') := Lib.hid (fun W hW => by
    refine (HP.out W B c' bl' bb' X.vs fb' m' X.sz ((B0.out.trans (B02.out.mono B0.out.size)).trans (hW.mono (by have := B0.out.size; omega))) (C2.out.below hW) (Nat.le_trans hB2 hW.size)).mono ?_
    rintro e w' ⟨v', e1, h1, ⟨vs2, fb2, m2, sz2, h2, h5⟩, h3, h4⟩
    exact ⟨v', e1, h1, ⟨vs2, fb2, m2, sz2, h2, h5.before hW.size⟩, (hW.mono hB2).trans h3, h4⟩)
  have Rd : Hid (Below w2.heap.size w2 w2.drew) := Lib.hid (Below.refl _ _).drew
  have Rz : Hid (Below w2.heap.size w2 (w2.alloc (.cells #[.float .f64 0, .int .i64 0, .string ⟨#[]⟩, .string ⟨#[]⟩, .int .i64 0, .int .i64 0, .slice none 0 0, .slice none 0 0] 86)).drew) := Lib.hid (((Below.refl _ _).alloc (Nat.le_refl _) _).drew)
  have Hz : Hid ((w2.alloc (.cells #[.float .f64 0, .int .i64 0, .string ⟨#[]⟩, .string ⟨#[]⟩, .int .i64 0, .int .i64 0, .slice none 0 0, .slice none 0 0] 86)).drew.heap[w2.heap.size]? = some (.cells rowZ 86 (0, 0))) := Lib.hid (heap_new w2 (.cells #[.float .f64 0, .int .i64 0, .string ⟨#[]⟩, .string ⟨#[]⟩, .int .i64 0, .int .i64 0, .slice none 0 0, .slice none 0 0] 86))
  have Rdb : Hid (Below B w2 w2.drew) := Lib.hid (Rd.out.mono hB2)
  have Rzb : Hid (Below B w2 (w2.alloc (.cells #[.float .f64 0, .int .i64 0, .string ⟨#[]⟩, .string ⟨#[]⟩, .int .i64 0, .int .i64 0, .slice none 0 0, .slice none 0 0] 86)).drew) := Lib.hid (Rz.out.mono hB2)
  have BOX : Hid (∀ (W : World) (q : Nat), Below B w2 W → B ≤ q → W.heap[q]? = some (.cells rowZ 86 (0, 0)) → ∀ a0 a1 a2 a3 a4 a5 a6 a7 : Value, Below B w2 ((((((((W.setCell ⟨q, 0, none⟩ a0).setCell ⟨q, 1, none⟩ a1).setCell ⟨q, 2, none⟩ a2).setCell ⟨q, 3, none⟩ a3).setCell ⟨q, 4, none⟩ a4).setCell ⟨q, 5, none⟩ a5).setCell ⟨q, 6, none⟩ a6).setCell ⟨q, 7, none⟩ a7)) := Lib.hid (fun W q hW hq hz a0 a1 a2 a3 a4 a5 a6 a7 => (row_box hz a0 a1 a2 a3 a4 a5 a6 a7).2.belowIf hW (by simpa using hq) (Nat.le_trans hB2 hW.size))
  clear s2 s4 s5 s6 x0 x1 x2 x3 x4 x5
  have hSB : ∀ {L : Array Bool} {W : World}, Below B w2 W → TillC 99 (fun _ => True) (fun W => W.cell? ⟨r, 4, none⟩ = some (.float .f64 0) ∧ W.cell? ⟨w.heap.size, 0, none⟩ = some (.int .i64 i.op) ∧ W.cell? ⟨w.heap.size, 1, none⟩ = some (.string i.path) ∧ W.cell? ⟨w.heap.size, 2, none⟩ = some (.string i.to) ∧ W.cell? ⟨w.heap.size, 3, none⟩ = some (.int .i64 i.off) ∧ W.cell? ⟨w.heap.size, 4, none⟩ = some (.int .i64 i.size) ∧ W.cell? ⟨w.heap.size, 5, none⟩ = some (.slice da dn dc)) L W := fun {L} {W} hW => by
    obtain ⟨s2, s4, s5, s6, x0, x1, x2, x3, x4, x5⟩ := KY.out W hW
    exact ⟨fun _ => trivial, s4, x0, x1, x2, x3, x4, x5⟩
  have hS0 : ∀ L : Array Bool, TillC 99 (fun _ => True) (fun W => W.cell? ⟨r, 4, none⟩ = some (.float .f64 0) ∧ W.cell? ⟨w.heap.size, 0, none⟩ = some (.int .i64 i.op) ∧ W.cell? ⟨w.heap.size, 1, none⟩ = some (.string i.path) ∧ W.cell? ⟨w.heap.size, 2, none⟩ = some (.string i.to) ∧ W.cell? ⟨w.heap.size, 3, none⟩ = some (.int .i64 i.off) ∧ W.cell? ⟨w.heap.size, 4, none⟩ = some (.int .i64 i.size) ∧ W.cell? ⟨w.heap.size, 5, none⟩ = some (.slice da dn dc)) L w2.drew := fun L => hSB Rdb.out
  have hsf := fun (W : World) (p : Addr) => run_store Tryz.prog W p (.float .f64 0) .plain rfl
  go_cut [8] from 14 (fun s8 wc => ∃ q v', s8 = .pointer (some ⟨q, 0, none⟩) ∧ Hid (IngC w2 wc B c' bl' bb' X.vs P' i v' q))
  case first =>
    refine wp_region_T (TillC 99 (fun _ => True) (fun W => W.cell? ⟨r, 4, none⟩ = some (.float .f64 0) ∧ W.cell? ⟨w.heap.size, 0, none⟩ = some (.int .i64 i.op) ∧ W.cell? ⟨w.heap.size, 1, none⟩ = some (.string i.path) ∧ W.cell? ⟨w.heap.size, 2, none⟩ = some (.string i.to) ∧ W.cell? ⟨w.heap.size, 3, none⟩ = some (.int .i64 i.off) ∧ W.cell? ⟨w.heap.size, 4, none⟩ = some (.int .i64 i.size) ∧ W.cell? ⟨w.heap.size, 5, none⟩ = some (.slice da dn dc))) rfl ?_
    simp only [List.size_toArray, List.length_cons, List.length_nil, Nat.reduceAdd, Array.replicate_succ, Array.replicate_zero, List.push_toArray, List.nil_append, List.cons_append]
    refine anyT_take (i := 0) (p := 1) (v := ?v1) rfl rfl (by kernel_rfl) (fun L w => TillC_set (by decide) L w) (by kernel_rfl) (by kernel_rfl) (by kernel_rfl) (by kernel_rfl) (fun _ _ _ h => h) (Or.inl ⟨by rfl, fun w hw => ?y1⟩) (hS0 _) ?r1
    case y1 => obtain ⟨L, hL, hS⟩ := hw; obtain ⟨r4, x0, x1, x2, x3, x4, x5⟩ := hS.2; go_simp; (try with_reducible rfl)
    simp only [Act.put, List.setIfInBounds_toArray, List.set_cons_zero, List.set_cons_succ, List.getElem_toArray, List.getElem_cons_zero, List.getElem_cons_succ]
    refine anyT_take (i := 1) (p := 2) (v := ?v2) rfl rfl (by kernel_rfl) (fun L w => TillC_set (by decide) L w) (by kernel_rfl) (by kernel_rfl) (by kernel_rfl) (by kernel_rfl) (fun _ _ _ h => h) (Or.inl ⟨by rfl, fun w hw => ?y2⟩) (hS0 _) ?r2
    case y2 => obtain ⟨L, hL, hS⟩ := hw; obtain ⟨r4, x0, x1, x2, x3, x4, x5⟩ := hS.2; go_simp; (try with_reducible rfl)
    simp only [Act.put, List.setIfInBounds_toArray, List.set_cons_zero, List.set_cons_succ, List.getElem_toArray, List.getElem_cons_zero, List.getElem_cons_succ]
    refine anyT_take (i := 2) (p := 3) (v := ?v3) rfl rfl (by kernel_rfl) (fun L w => TillC_set (by decide) L w) (by kernel_rfl) (by kernel_rfl) (by kernel_rfl) (by kernel_rfl) (fun _ _ _ h => h) (Or.inl ⟨by rfl, fun w hw => ?y3⟩) (hS0 _) ?r3
    case y3 => obtain ⟨L, hL, hS⟩ := hw; obtain ⟨r4, x0, x1, x2, x3, x4, x5⟩ := hS.2; go_simp; (try with_reducible rfl)
    simp only [Act.put, List.setIfInBounds_toArray, List.set_cons_zero, List.set_cons_succ, List.getElem_toArray, List.getElem_cons_zero, List.getElem_cons_succ]
    refine anyT_take (i := 3) (p := 10) (v := ?v4) rfl rfl (by kernel_rfl) (fun L w => TillC_set (by decide) L w) (by kernel_rfl) (by kernel_rfl) (by kernel_rfl) (by kernel_rfl) (fun _ _ _ h => h) (Or.inl ⟨by rfl, fun w hw => ?y4⟩) (hS0 _) ?r4
    case y4 => obtain ⟨L, hL, hS⟩ := hw; obtain ⟨r4, x0, x1, x2, x3, x4, x5⟩ := hS.2; go_simp; (try with_reducible rfl)
    simp only [Act.put, List.setIfInBounds_toArray, List.set_cons_zero, List.set_cons_succ, List.getElem_toArray, List.getElem_cons_zero, List.getElem_cons_succ]
    refine anyT_take (i := 4) (p := 5) (v := ?v5) rfl rfl (by kernel_rfl) (fun L w => TillC_set (by decide) L w) (by kernel_rfl) (by kernel_rfl) (by kernel_rfl) (by kernel_rfl) (fun _ _ _ h => h) (Or.inl ⟨by rfl, fun w hw => ?y5⟩) (hS0 _) ?r5
    case y5 => obtain ⟨L, hL, hS⟩ := hw; obtain ⟨r4, x0, x1, x2, x3, x4, x5⟩ := hS.2; go_simp; (try with_reducible rfl)
    simp only [Act.put, List.setIfInBounds_toArray, List.set_cons_zero, List.set_cons_succ, List.getElem_toArray, List.getElem_cons_zero, List.getElem_cons_succ]
    refine anyT_take (i := 6) (p := 8) (v := ?v6) rfl rfl (by kernel_rfl) (fun L w => TillC_set (by decide) L w) (by kernel_rfl) (by kernel_rfl) (by kernel_rfl) (by kernel_rfl) (fun _ _ _ h => h) (Or.inl ⟨by rfl, fun w hw => ?y6⟩) (hS0 _) ?r6
    case y6 => obtain ⟨L, hL, hS⟩ := hw; obtain ⟨r4, x0, x1, x2, x3, x4, x5⟩ := hS.2; go_simp; (try with_reducible rfl)
    simp only [Act.put, List.setIfInBounds_toArray, List.set_cons_zero, List.set_cons_succ, List.getElem_toArray, List.getElem_cons_zero, List.getElem_cons_succ]
    refine anyT_take (i := 7) (p := 8) (v := ?v7) rfl rfl (by kernel_rfl) (fun L w => TillC_set (by decide) L w) (by kernel_rfl) (by kernel_rfl) (by kernel_rfl) (by kernel_rfl) (fun _ _ _ h => h) (Or.inl ⟨by rfl, fun w hw => ?y7⟩) (hS0 _) ?r7
    case y7 => obtain ⟨L, hL, hS⟩ := hw; obtain ⟨r4, x0, x1, x2, x3, x4, x5⟩ := hS.2; go_simp; (try with_reducible rfl)
    simp only [Act.put, List.setIfInBounds_toArray, List.set_cons_zero, List.set_cons_succ, List.getElem_toArray, List.getElem_cons_zero, List.getElem_cons_succ]
    refine anyT_all (rs := [5, 11]) (by kernel_rfl) (by simp) ?_
    intro jj hj
    simp only [List.mem_cons, List.not_mem_nil, or_false] at hj
    rcases hj with rfl | rfl
    · refine T_step rfl (fun K' hK => ?_)
      go_simp
      go_at_call 26
      refine (CN.out _).mono ?_
      rintro e1 w3 ⟨rfl, hq⟩
      have B3 : Hid (Below w2.heap.size w2 w3) := Lib.hid (Rd.out.trans (hq.mono Rd.out.size))
      have B3b : Hid (Below B w2 w3) := Lib.hid (B3.out.mono hB2)
      have hB3 : B ≤ w3.heap.size := Nat.le_trans hB2 B3.out.size
      refine hK.out _ _ (hSB B3b.out) ?_
      simp only [Act.put, List.setIfInBounds_toArray, List.set_cons_zero, List.set_cons_succ, List.getElem_toArray, List.getElem_cons_zero, List.getElem_cons_succ]
      refine anyT_all (rs := [8, 11]) (by kernel_rfl) (by simp) ?_
      intro jj hj
      simp only [List.mem_cons, List.not_mem_nil, or_false] at hj
      rcases hj with rfl | rfl
      · refine T_step rfl (fun K' hK => ?_)
        go_simp
        go_at_call 27
        refine (PC.out (w3) (B3.out)).mono ?_
        rintro e1 w4 ⟨v', rfl, hs4, hc4, hb4, hk4⟩
        have S4 := Lib.hid hs4
        have C4 := Lib.hid hc4
        have B4 := Lib.hid hb4
        have hB4 : B ≤ w4.heap.size := Nat.le_trans hB2 B4.out.size
        refine hK.out _ _ (hSB B4.out) ?_
        simp only [Act.put, List.setIfInBounds_toArray, List.set_cons_zero, List.set_cons_succ, List.getElem_toArray, List.getElem_cons_zero, List.getElem_cons_succ]
        obtain ⟨pa4, pc4, rfl, -, -, -⟩ := hs4.shape
        refine anyT_take (i := 9) (p := 10) (v := ?v8) rfl rfl (by kernel_rfl) (fun L w => TillC_set (by decide) L w) (by kernel_rfl) (by kernel_rfl) (by kernel_rfl) (by kernel_rfl) (fun _ _ _ h => h) (Or.inl ⟨by rfl, fun w hw => ?y8⟩) (hSB B4.out) ?r8
        case y8 => obtain ⟨L, hL, hS⟩ := hw; obtain ⟨r4, x0, x1, x2, x3, x4, x5⟩ := hS.2; go_simp; (try with_reducible rfl)
        simp only [Act.put, List.setIfInBounds_toArray, List.set_cons_zero, List.set_cons_succ, List.getElem_toArray, List.getElem_cons_zero, List.getElem_cons_succ]
        refine anyT_take (i := 10) (p := 12) (v := ?v9) rfl rfl (by kernel_rfl) (fun L w => TillC_set (by decide) L w) (by kernel_rfl) (by kernel_rfl) (by kernel_rfl) (by kernel_rfl) (fun _ _ _ h => h) (Or.inl ⟨by rfl, fun w hw => ?y9⟩) (hSB B4.out) ?r9
        case y9 => obtain ⟨L, hL, hS⟩ := hw; obtain ⟨r4, x0, x1, x2, x3, x4, x5⟩ := hS.2; go_simp; (try with_reducible rfl)
        simp only [Act.put, List.setIfInBounds_toArray, List.set_cons_zero, List.set_cons_succ, List.getElem_toArray, List.getElem_cons_zero, List.getElem_cons_succ]
        refine anyT_all (rs := [11]) (by kernel_rfl) (by simp) ?_
        intro jj hj
        simp only [List.mem_singleton] at hj
        subst hj
        refine T_step rfl (fun K' hK => ?_)
        go_simp
        refine hK.out _ _ (hSB (B4.out.alloc hB4 _)) ?_
        simp only [Act.put, List.setIfInBounds_toArray, List.set_cons_zero, List.set_cons_succ, List.getElem_toArray, List.getElem_cons_zero, List.getElem_cons_succ]
        have Q3 := rowZ_at (rowZ_new w4)
        have z0 := cellAt Q3 0
        have f0 := frozenAt Q3 0
        have z1 := cellAt Q3 1
        have f1 := frozenAt Q3 1
        have z2 := cellAt Q3 2
        have f2 := frozenAt Q3 2
        have z3 := cellAt Q3 3
        have f3 := frozenAt Q3 3
        have z4 := cellAt Q3 4
        have f4 := frozenAt Q3 4
        have z5 := cellAt Q3 5
        have f5 := frozenAt Q3 5
        have z6 := cellAt Q3 6
        have f6 := frozenAt Q3 6
        have z7 := cellAt Q3 7
        have f7 := frozenAt Q3 7
        refine anyT_all (rs := [12]) (by kernel_rfl) (by simp) ?_
        intro jj hj
        simp only [List.mem_singleton] at hj
        subst hj
        refine T_step rfl (fun K' hK => ?_)
        go_simp
        refine hK.out _ _ (hSB (B4.out.alloc hB4 _)) ?_
        simp only [Act.put, List.setIfInBounds_toArray, List.set_cons_zero, List.set_cons_succ, List.getElem_toArray, List.getElem_cons_zero, List.getElem_cons_succ]
        refine anyT_done (by kernel_rfl) ?_ _
        go_wp2_with fail
        go_meet
        case rel => exact ⟨_, _, rfl, Lib.hid (ing_alloc S4.out C4.out B4.out hB2)⟩
      · refine T_step rfl (fun K' hK => ?_)
        go_simp
        refine hK.out _ _ (hSB (B3b.out.alloc hB3 _)) ?_
        simp only [Act.put, List.setIfInBounds_toArray, List.set_cons_zero, List.set_cons_succ, List.getElem_toArray, List.getElem_cons_zero, List.getElem_cons_succ]
        refine anyT_all (rs := [8]) (by kernel_rfl) (by simp) ?_
        intro jj hj
        simp only [List.mem_singleton] at hj
        subst hj
        refine T_step rfl (fun K' hK => ?_)
        go_simp
        go_at_call 27
        refine (PC.out (w3.alloc (.cells #[.float .f64 0, .int .i64 0, .string ⟨#[]⟩, .string ⟨#[]⟩, .int .i64 0, .int .i64 0, .slice none 0 0, .slice none 0 0] 86)) (B3.out.alloc B3.out.size _)).mono ?_
        rintro e1 w4 ⟨v', rfl, hs4, hc4, hb4, hk4⟩
        have S4 := Lib.hid hs4
        have C4 := Lib.hid hc4
        have B4 := Lib.hid hb4
        have hB4 : B ≤ w4.heap.size := Nat.le_trans hB2 B4.out.size
        refine hK.out _ _ (hSB B4.out) ?_
        simp only [Act.put, List.setIfInBounds_toArray, List.set_cons_zero, List.set_cons_succ, List.getElem_toArray, List.getElem_cons_zero, List.getElem_cons_succ]
        obtain ⟨pa4, pc4, rfl, -, -, -⟩ := hs4.shape
        have Z4 : Hid (w4.heap[w3.heap.size]? = some (.cells rowZ 86 (0, 0))) := Lib.hid (keptC_row hk4 (rowZ_new w3))
        refine anyT_take (i := 9) (p := 10) (v := ?v10) rfl rfl (by kernel_rfl) (fun L w => TillC_set (by decide) L w) (by kernel_rfl) (by kernel_rfl) (by kernel_rfl) (by kernel_rfl) (fun _ _ _ h => h) (Or.inl ⟨by rfl, fun w hw => ?y10⟩) (hSB B4.out) ?r10
        case y10 => obtain ⟨L, hL, hS⟩ := hw; obtain ⟨r4, x0, x1, x2, x3, x4, x5⟩ := hS.2; go_simp; (try with_reducible rfl)
        simp only [Act.put, List.setIfInBounds_toArray, List.set_cons_zero, List.set_cons_succ, List.getElem_toArray, List.getElem_cons_zero, List.getElem_cons_succ]
        refine anyT_take (i := 10) (p := 12) (v := ?v11) rfl rfl (by kernel_rfl) (fun L w => TillC_set (by decide) L w) (by kernel_rfl) (by kernel_rfl) (by kernel_rfl) (by kernel_rfl) (fun _ _ _ h => h) (Or.inl ⟨by rfl, fun w hw => ?y11⟩) (hSB B4.out) ?r11
        case y11 => obtain ⟨L, hL, hS⟩ := hw; obtain ⟨r4, x0, x1, x2, x3, x4, x5⟩ := hS.2; go_simp; (try with_reducible rfl)
        simp only [Act.put, List.setIfInBounds_toArray, List.set_cons_zero, List.set_cons_succ, List.getElem_toArray, List.getElem_cons_zero, List.getElem_cons_succ]
        have Q3 := rowZ_at Z4.out
        have z0 := cellAt Q3 0
        have f0 := frozenAt Q3 0
        have z1 := cellAt Q3 1
        have f1 := frozenAt Q3 1
        have z2 := cellAt Q3 2
        have f2 := frozenAt Q3 2
        have z3 := cellAt Q3 3
        have f3 := frozenAt Q3 3
        have z4 := cellAt Q3 4
        have f4 := frozenAt Q3 4
        have z5 := cellAt Q3 5
        have f5 := frozenAt Q3 5
        have z6 := cellAt Q3 6
        have f6 := frozenAt Q3 6
        have z7 := cellAt Q3 7
        have f7 := frozenAt Q3 7
        refine anyT_all (rs := [12]) (by kernel_rfl) (by simp) ?_
        intro jj hj
        simp only [List.mem_singleton] at hj
        subst hj
        refine T_step rfl (fun K' hK => ?_)
        go_simp
        refine hK.out _ _ (hSB (BOX.out _ _ B4.out (by omega) Z4.out _ _ _ _ _ _ _ _)) ?_
        simp only [Act.put, List.setIfInBounds_toArray, List.set_cons_zero, List.set_cons_succ, List.getElem_toArray, List.getElem_cons_zero, List.getElem_cons_succ]
        refine anyT_done (by kernel_rfl) ?_ _
        go_wp2_with fail
        go_meet
        case rel => exact ⟨_, _, rfl, Lib.hid (ing_set S4.out C4.out B4.out (by omega) Z4.out)⟩
    · refine T_step rfl (fun K' hK => ?_)
      go_simp
      refine hK.out _ _ (hSB (Rzb.out)) ?_
      simp only [Act.put, List.setIfInBounds_toArray, List.set_cons_zero, List.set_cons_succ, List.getElem_toArray, List.getElem_cons_zero, List.getElem_cons_succ]
      refine anyT_all (rs := [5]) (by kernel_rfl) (by simp) ?_
      intro jj hj
      simp only [List.mem_singleton] at hj
      subst hj
      refine T_step rfl (fun K' hK => ?_)
      go_simp
      go_at_call 26
      refine (CN.out _).mono ?_
      rintro e1 w3 ⟨rfl, hq⟩
      have B3 : Hid (Below w2.heap.size w2 w3) := Lib.hid (Rz.out.trans (hq.mono Rz.out.size))
      have B3b : Hid (Below B w2 w3) := Lib.hid (B3.out.mono hB2)
      have hB3 : B ≤ w3.heap.size := Nat.le_trans hB2 B3.out.size
      have Z3 : Hid (w3.heap[w2.heap.size]? = some (.cells rowZ 86 (0, 0))) := Lib.hid (Below.heap hq (Nat.le_refl _) Hz.out)
      refine hK.out _ _ (hSB B3b.out) ?_
      simp only [Act.put, List.setIfInBounds_toArray, List.set_cons_zero, List.set_cons_succ, List.getElem_toArray, List.getElem_cons_zero, List.getElem_cons_succ]
      refine anyT_all (rs := [8]) (by kernel_rfl) (by simp) ?_
      intro jj hj
      simp only [List.mem_singleton] at hj
      subst hj
      refine T_step rfl (fun K' hK => ?_)
      go_simp
      go_at_call 27
      refine (PC.out (w3) (B3.out)).mono ?_
      rintro e1 w4 ⟨v', rfl, hs4, hc4, hb4, hk4⟩
      have S4 := Lib.hid hs4
      have C4 := Lib.hid hc4
      have B4 := Lib.hid hb4
      have hB4 : B ≤ w4.heap.size := Nat.le_trans hB2 B4.out.size
      refine hK.out _ _ (hSB B4.out) ?_
      simp only [Act.put, List.setIfInBounds_toArray, List.set_cons_zero, List.set_cons_succ, List.getElem_toArray, List.getElem_cons_zero, List.getElem_cons_succ]
      obtain ⟨pa4, pc4, rfl, -, -, -⟩ := hs4.shape
      have Z4 : Hid (w4.heap[w2.heap.size]? = some (.cells rowZ 86 (0, 0))) := Lib.hid (keptC_row hk4 (Z3.out))
      refine anyT_take (i := 9) (p := 10) (v := ?v12) rfl rfl (by kernel_rfl) (fun L w => TillC_set (by decide) L w) (by kernel_rfl) (by kernel_rfl) (by kernel_rfl) (by kernel_rfl) (fun _ _ _ h => h) (Or.inl ⟨by rfl, fun w hw => ?y12⟩) (hSB B4.out) ?r12
      case y12 => obtain ⟨L, hL, hS⟩ := hw; obtain ⟨r4, x0, x1, x2, x3, x4, x5⟩ := hS.2; go_simp; (try with_reducible rfl)
      simp only [Act.put, List.setIfInBounds_toArray, List.set_cons_zero, List.set_cons_succ, List.getElem_toArray, List.getElem_cons_zero, List.getElem_cons_succ]
      refine anyT_take (i := 10) (p := 12) (v := ?v13) rfl rfl (by kernel_rfl) (fun L w => TillC_set (by decide) L w) (by kernel_rfl) (by kernel_rfl) (by kernel_rfl) (by kernel_rfl) (fun _ _ _ h => h) (Or.inl ⟨by rfl, fun w hw => ?y13⟩) (hSB B4.out) ?r13
      case y13 => obtain ⟨L, hL, hS⟩ := hw; obtain ⟨r4, x0, x1, x2, x3, x4, x5⟩ := hS.2; go_simp; (try with_reducible rfl)
      simp only [Act.put, List.setIfInBounds_toArray, List.set_cons_zero, List.set_cons_succ, List.getElem_toArray, List.getElem_cons_zero, List.getElem_cons_succ]
      have Q3 := rowZ_at Z4.out
      have z0 := cellAt Q3 0
      have f0 := frozenAt Q3 0
      have z1 := cellAt Q3 1
      have f1 := frozenAt Q3 1
      have z2 := cellAt Q3 2
      have f2 := frozenAt Q3 2
      have z3 := cellAt Q3 3
      have f3 := frozenAt Q3 3
      have z4 := cellAt Q3 4
      have f4 := frozenAt Q3 4
      have z5 := cellAt Q3 5
      have f5 := frozenAt Q3 5
      have z6 := cellAt Q3 6
      have f6 := frozenAt Q3 6
      have z7 := cellAt Q3 7
      have f7 := frozenAt Q3 7
      refine anyT_all (rs := [12]) (by kernel_rfl) (by simp) ?_
      intro jj hj
      simp only [List.mem_singleton] at hj
      subst hj
      refine T_step rfl (fun K' hK => ?_)
      go_simp
      refine hK.out _ _ (hSB (BOX.out _ _ B4.out (by omega) Z4.out _ _ _ _ _ _ _ _)) ?_
      simp only [Act.put, List.setIfInBounds_toArray, List.set_cons_zero, List.set_cons_succ, List.getElem_toArray, List.getElem_cons_zero, List.getElem_cons_succ]
      refine anyT_done (by kernel_rfl) ?_ _
      go_wp2_with fail
      go_meet
      case rel => exact ⟨_, _, rfl, Lib.hid (ing_set S4.out C4.out B4.out (by omega) Z4.out)⟩
  case rest =>
  clear hSB hS0 hsf
  obtain ⟨wb, hwb⟩ : ∃ x : World, x = wc := ⟨_, rfl⟩
  subst hwb
  obtain ⟨q, v', rfl, IC⟩ := hcut
  obtain ⟨pa, pc, rfl, -, -, -⟩ := IC.out.parts.shape
  have Bc : Hid (Below w.heap.size w wb) := Lib.hid ((B0.out.trans (B02.out.mono B0.out.size)).trans (IC.out.below.mono (by have := B0.out.size; omega)))
  obtain ⟨s2, s4, s5, s6, x0, x1, x2, x3, x4, x5⟩ := KY.out wb IC.out.below
  have K10 : Hid (∀ W : World, Below wb.heap.size wb W → W.cell? ⟨r, 5, none⟩ = some (.slice ra n rcap) ∧ W.cell? ⟨q, 0, none⟩ = some ((.float .f64 0)) ∧ W.cell? ⟨q, 1, none⟩ = some ((.int .i64 i.op)) ∧ W.cell? ⟨q, 2, none⟩ = some ((.string i.path)) ∧ W.cell? ⟨q, 3, none⟩ = some ((.string i.to)) ∧ W.cell? ⟨q, 4, none⟩ = some ((.int .i64 i.off)) ∧ W.cell? ⟨q, 5, none⟩ = some ((.int .i64 i.size)) ∧ W.cell? ⟨q, 6, none⟩ = some ((.slice none 0 0)) ∧ W.cell? ⟨q, 7, none⟩ = some ((.slice pa i.parts.length pc))) := Lib.hid (fun W hW => by
    have h1 : W.heap[r]? = _ := Below.heap (Bc.out.trans (hW.mono Bc.out.size)) (Nat.le_refl _) HC.out
    have h2 : W.heap[q]? = _ := Below.heap hW (Nat.le_refl _) IC.out.box
    exact ⟨cellAt h1 5, cellAt h2 0, cellAt h2 1, cellAt h2 2, cellAt h2 3, cellAt h2 4, cellAt h2 5, cellAt h2 6, cellAt h2 7⟩)
  obtain ⟨⟨v1a, waa, v2a, wfa, ra1, ba1, ra2, fa⟩, ⟨v1b, wab, v2b, wfb, rb1, bb1, rb2, fb2⟩, ⟨v1c, wac, v2c, wfc, rc1, bc1, rc2, fc⟩⟩ := rows_orders (wB := wb) (its := X.its) (i := i) (ROW.out wb Bc.out) IC.out.parts rfl (by have := hn.out; omega)
  have FA := Lib.hid fa
  have FB := Lib.hid fb2
  have FC := Lib.hid fc
  have BA := Lib.hid ba1
  have BB := Lib.hid bb1
  have BC := Lib.hid bc1
  simp only [rowO] at ra1 ra2 rb1 rb2 rc1 rc2
  clear fa fb2 fc ba1 bb1 bc1 s2 s4 s5 s6 x0 x1 x2 x3 x4 x5
  obtain ⟨ga1, ka1, hva1⟩ : ∃ a k, v2a = .slice a (n + 1) k := by
    obtain ⟨a, k, h, -⟩ := rows_cells FA.out.1
    exact ⟨a, k, by rw [h, List.length_append, hn.out]; rfl⟩
  obtain ⟨gb1, kb1, hvb1⟩ : ∃ a k, v2b = .slice a (n + 1) k := by
    obtain ⟨a, k, h, -⟩ := rows_cells FB.out.1
    exact ⟨a, k, by rw [h, List.length_append, hn.out]; rfl⟩
  obtain ⟨gc1, kc1, hvc1⟩ : ∃ a k, v2c = .slice a (n + 1) k := by
    obtain ⟨a, k, h, -⟩ := rows_cells FC.out.1
    exact ⟨a, k, by rw [h, List.length_append, hn.out]; rfl⟩
  have G0 : Hid (Below wb.heap.size wb wb.drew) := Lib.hid (Below.refl _ _).drew
  have G1 : Hid (∀ o, Below wb.heap.size wb (wb.alloc o).drew) := Lib.hid (fun o => ((Below.refl _ _).alloc (Nat.le_refl _) o).drew)
  have G2 : Hid (∀ o o2, Below wb.heap.size wb ((wb.alloc o).alloc o2).drew) := Lib.hid (fun o o2 => (((Below.refl _ _).alloc (Nat.le_refl _) o).alloc (by simp) o2).drew)
  have GA : Hid (∀ o, Below wb.heap.size wb (waa.alloc o)) := Lib.hid (fun o => BA.out.alloc BA.out.size o)
  go_upto_region 10 with fail
  have hSC : ∀ {L : Array Bool} {W : World}, Below wb.heap.size wb W → TillC 99 (fun _ => True) (fun W => W.cell? ⟨r, 5, none⟩ = some (.slice ra n rcap) ∧ W.cell? ⟨q, 0, none⟩ = some ((.float .f64 0)) ∧ W.cell? ⟨q, 1, none⟩ = some ((.int .i64 i.op)) ∧ W.cell? ⟨q, 2, none⟩ = some ((.string i.path)) ∧ W.cell? ⟨q, 3, none⟩ = some ((.string i.to)) ∧ W.cell? ⟨q, 4, none⟩ = some ((.int .i64 i.off)) ∧ W.cell? ⟨q, 5, none⟩ = some ((.int .i64 i.size)) ∧ W.cell? ⟨q, 6, none⟩ = some ((.slice none 0 0)) ∧ W.cell? ⟨q, 7, none⟩ = some ((.slice pa i.parts.length pc))) L W := fun {L} {W} hW => ⟨fun _ => trivial, K10.out W hW⟩
  go_cut [9] from 14 (fun s9 wd => ∃ a k, s9 = .slice a (n + 1) k ∧ Hid (RowsFin wb X.its i (.slice a (n + 1) k) wd))
  case first =>
    refine wp_region_T (TillC 99 (fun _ => True) (fun W => W.cell? ⟨r, 5, none⟩ = some (.slice ra n rcap) ∧ W.cell? ⟨q, 0, none⟩ = some ((.float .f64 0)) ∧ W.cell? ⟨q, 1, none⟩ = some ((.int .i64 i.op)) ∧ W.cell? ⟨q, 2, none⟩ = some ((.string i.path)) ∧ W.cell? ⟨q, 3, none⟩ = some ((.string i.to)) ∧ W.cell? ⟨q, 4, none⟩ = some ((.int .i64 i.off)) ∧ W.cell? ⟨q, 5, none⟩ = some ((.int .i64 i.size)) ∧ W.cell? ⟨q, 6, none⟩ = some ((.slice none 0 0)) ∧ W.cell? ⟨q, 7, none⟩ = some ((.slice pa i.parts.length pc)))) rfl ?_
    simp only [List.size_toArray, List.length_cons, List.length_nil, Nat.reduceAdd, Array.replicate_succ, Array.replicate_zero, List.push_toArray, List.nil_append, List.cons_append]
    refine anyT_take (i := 1) (p := 2) (v := ?v41) rfl rfl (by kernel_rfl) (fun L w => TillC_set (by decide) L w) (by kernel_rfl) (by kernel_rfl) (by kernel_rfl) (by kernel_rfl) (fun _ _ _ h => h) (Or.inl ⟨by rfl, fun w hw => ?y41⟩) (hSC G0.out) ?r41
    case y41 => obtain ⟨L, hL, hS⟩ := hw; obtain ⟨r5, q0, q1, q2, q3, q4, q5, q6, q7⟩ := hS.2; go_simp; (try with_reducible rfl)
    simp only [Act.put, List.setIfInBounds_toArray, List.set_cons_zero, List.set_cons_succ, List.getElem_toArray, List.getElem_cons_zero, List.getElem_cons_succ]
    refine anyT_take (i := 2) (p := 3) (v := ?v42) rfl rfl (by kernel_rfl) (fun L w => TillC_set (by decide) L w) (by kernel_rfl) (by kernel_rfl) (by kernel_rfl) (by kernel_rfl) (fun _ _ _ h => h) (Or.inl ⟨by rfl, fun w hw => ?y42⟩) (hSC G0.out) ?r42
    case y42 => obtain ⟨L, hL, hS⟩ := hw; obtain ⟨r5, q0, q1, q2, q3, q4, q5, q6, q7⟩ := hS.2; go_simp; (try with_reducible rfl)
    simp only [Act.put, List.setIfInBounds_toArray, List.set_cons_zero, List.set_cons_succ, List.getElem_toArray, List.getElem_cons_zero, List.getElem_cons_succ]
    refine anyT_take (i := 3) (p := 4) (v := ?v43) rfl rfl (by kernel_rfl) (fun L w => TillC_set (by decide) L w) (by kernel_rfl) (by kernel_rfl) (by kernel_rfl) (by kernel_rfl) (fun _ _ _ h => h) (Or.inl ⟨by rfl, fun w hw => ?y43⟩) (hSC G0.out) ?r43
    case y43 => obtain ⟨L, hL, hS⟩ := hw; obtain ⟨r5, q0, q1, q2, q3, q4, q5, q6, q7⟩ := hS.2; go_simp; (try with_reducible rfl)
    simp only [Act.put, List.setIfInBounds_toArray, List.set_cons_zero, List.set_cons_succ, List.getElem_toArray, List.getElem_cons_zero, List.getElem_cons_succ]
    refine anyT_take (i := 4) (p := 5) (v := ?v44) rfl rfl (by kernel_rfl) (fun L w => TillC_set (by decide) L w) (by kernel_rfl) (by kernel_rfl) (by kernel_rfl) (by kernel_rfl) (fun _ _ _ h => h) (Or.inl ⟨by rfl, fun w hw => ?y44⟩) (hSC G0.out) ?r44
    case y44 => obtain ⟨L, hL, hS⟩ := hw; obtain ⟨r5, q0, q1, q2, q3, q4, q5, q6, q7⟩ := hS.2; go_simp; (try with_reducible rfl)
    simp only [Act.put, List.setIfInBounds_toArray, List.set_cons_zero, List.set_cons_succ, List.getElem_toArray, List.getElem_cons_zero, List.getElem_cons_succ]
    refine anyT_take (i := 6) (p := 7) (v := ?v45) rfl rfl (by kernel_rfl) (fun L w => TillC_set (by decide) L w) (by kernel_rfl) (by kernel_rfl) (by kernel_rfl) (by kernel_rfl) (fun _ _ _ h => h) (Or.inl ⟨by rfl, fun w hw => ?y45⟩) (hSC G0.out) ?r45
    case y45 => obtain ⟨L, hL, hS⟩ := hw; obtain ⟨r5, q0, q1, q2, q3, q4, q5, q6, q7⟩ := hS.2; go_simp; (try with_reducible rfl)
    simp only [Act.put, List.setIfInBounds_toArray, List.set_cons_zero, List.set_cons_succ, List.getElem_toArray, List.getElem_cons_zero, List.getElem_cons_succ]
    refine anyT_all (rs := [0, 7]) (by kernel_rfl) (by simp) ?_
    intro jj hj
    simp only [List.mem_cons, List.not_mem_nil, or_false] at hj
    rcases hj with rfl | rfl
    · refine T_step rfl (fun K' hK => ?_)
      go_simp
      refine hK.out _ _ (hSC (G1.out _)) ?_
      simp only [Act.put, List.setIfInBounds_toArray, List.set_cons_zero, List.set_cons_succ, List.getElem_toArray, List.getElem_cons_zero, List.getElem_cons_succ]
      refine anyT_all (rs := [5, 7]) (by kernel_rfl) (by simp) ?_
      intro jj hj
      simp only [List.mem_cons, List.not_mem_nil, or_false] at hj
      rcases hj with rfl | rfl
      · refine T_step rfl (fun K' hK => ?_)
        refine step_append_run rfl _ _ 75 rfl _ _ ra1 ?_
        refine hK.out _ _ (hSC (BA.out)) ?_
        simp only [Act.put, List.setIfInBounds_toArray, List.set_cons_zero, List.set_cons_succ, List.getElem_toArray, List.getElem_cons_zero, List.getElem_cons_succ]
        refine anyT_all (rs := [7]) (by kernel_rfl) (by simp) ?_
        intro jj hj
        simp only [List.mem_singleton] at hj
        subst hj
        refine T_step rfl (fun K' hK => ?_)
        go_simp
        refine hK.out _ _ (hSC (GA.out _)) ?_
        simp only [Act.put, List.setIfInBounds_toArray, List.set_cons_zero, List.set_cons_succ, List.getElem_toArray, List.getElem_cons_zero, List.getElem_cons_succ]
        refine anyT_all (rs := [8]) (by kernel_rfl) (by simp) ?_
        intro jj hj
        simp only [List.mem_singleton] at hj
        subst hj
        refine T_step rfl (fun K' hK => ?_)
        refine step_append_run rfl _ _ 75 rfl _ _ ra2 ?_
        refine hK.out _ _ (hSC (FA.out.2)) ?_
        simp only [Act.put, List.setIfInBounds_toArray, List.set_cons_zero, List.set_cons_succ, List.getElem_toArray, List.getElem_cons_zero, List.getElem_cons_succ]
        refine anyT_all (rs := [9]) (by kernel_rfl) (by simp) ?_
        intro jj hj
        simp only [List.mem_singleton] at hj
        subst hj
        refine T_step rfl (fun K' hK => ?_)
        go_simp
        refine hK.out _ _ (hSC FA.out.2) ?_
        simp only [Act.put, List.setIfInBounds_toArray, List.set_cons_zero, List.set_cons_succ, List.getElem_toArray, List.getElem_cons_zero, List.getElem_cons_succ]
        refine anyT_done (by kernel_rfl) ?_ _
        go_wp2_with fail
        go_meet
        case rel => exact ⟨ga1, ka1, rfl, Lib.hid (hva1 ▸ FA.out)⟩
      · refine T_step rfl (fun K' hK => ?_)
        go_simp
        refine hK.out _ _ (hSC (G2.out _ _)) ?_
        simp only [Act.put, List.setIfInBounds_toArray, List.set_cons_zero, List.set_cons_succ, List.getElem_toArray, List.getElem_cons_zero, List.getElem_cons_succ]
        refine anyT_all (rs := [5]) (by kernel_rfl) (by simp) ?_
        intro jj hj
        simp only [List.mem_singleton] at hj
        subst hj
        refine T_step rfl (fun K' hK => ?_)
        refine step_append_run rfl _ _ 75 rfl _ _ rb1 ?_
        refine hK.out _ _ (hSC (BB.out)) ?_
        simp only [Act.put, List.setIfInBounds_toArray, List.set_cons_zero, List.set_cons_succ, List.getElem_toArray, List.getElem_cons_zero, List.getElem_cons_succ]
        refine anyT_all (rs := [8]) (by kernel_rfl) (by simp) ?_
        intro jj hj
        simp only [List.mem_singleton] at hj
        subst hj
        refine T_step rfl (fun K' hK => ?_)
        refine step_append_run rfl _ _ 75 rfl _ _ rb2 ?_
        refine hK.out _ _ (hSC (FB.out.2)) ?_
        simp only [Act.put, List.setIfInBounds_toArray, List.set_cons_zero, List.set_cons_succ, List.getElem_toArray, List.getElem_cons_zero, List.getElem_cons_succ]
        refine anyT_all (rs := [9]) (by kernel_rfl) (by simp) ?_
        intro jj hj
        simp only [List.mem_singleton] at hj
        subst hj
        refine T_step rfl (fun K' hK => ?_)
        go_simp
        refine hK.out _ _ (hSC FB.out.2) ?_
        simp only [Act.put, List.setIfInBounds_toArray, List.set_cons_zero, List.set_cons_succ, List.getElem_toArray, List.getElem_cons_zero, List.getElem_cons_succ]
        refine anyT_done (by kernel_rfl) ?_ _
        go_wp2_with fail
        go_meet
        case rel => exact ⟨gb1, kb1, rfl, Lib.hid (hvb1 ▸ FB.out)⟩
    · refine T_step rfl (fun K' hK => ?_)
      go_simp
      refine hK.out _ _ (hSC (G1.out _)) ?_
      simp only [Act.put, List.setIfInBounds_toArray, List.set_cons_zero, List.set_cons_succ, List.getElem_toArray, List.getElem_cons_zero, List.getElem_cons_succ]
      refine anyT_all (rs := [0]) (by kernel_rfl) (by simp) ?_
      intro jj hj
      simp only [List.mem_singleton] at hj
      subst hj
      refine T_step rfl (fun K' hK => ?_)
      go_simp
      refine hK.out _ _ (hSC (G2.out _ _)) ?_
      simp only [Act.put, List.setIfInBounds_toArray, List.set_cons_zero, List.set_cons_succ, List.getElem_toArray, List.getElem_cons_zero, List.getElem_cons_succ]
      refine anyT_all (rs := [5]) (by kernel_rfl) (by simp) ?_
      intro jj hj
      simp only [List.mem_singleton] at hj
      subst hj
      refine T_step rfl (fun K' hK => ?_)
      refine step_append_run rfl _ _ 75 rfl _ _ rc1 ?_
      refine hK.out _ _ (hSC (BC.out)) ?_
      simp only [Act.put, List.setIfInBounds_toArray, List.set_cons_zero, List.set_cons_succ, List.getElem_toArray, List.getElem_cons_zero, List.getElem_cons_succ]
      refine anyT_all (rs := [8]) (by kernel_rfl) (by simp) ?_
      intro jj hj
      simp only [List.mem_singleton] at hj
      subst hj
      refine T_step rfl (fun K' hK => ?_)
      refine step_append_run rfl _ _ 75 rfl _ _ rc2 ?_
      refine hK.out _ _ (hSC (FC.out.2)) ?_
      simp only [Act.put, List.setIfInBounds_toArray, List.set_cons_zero, List.set_cons_succ, List.getElem_toArray, List.getElem_cons_zero, List.getElem_cons_succ]
      refine anyT_all (rs := [9]) (by kernel_rfl) (by simp) ?_
      intro jj hj
      simp only [List.mem_singleton] at hj
      subst hj
      refine T_step rfl (fun K' hK => ?_)
      go_simp
      refine hK.out _ _ (hSC FC.out.2) ?_
      simp only [Act.put, List.setIfInBounds_toArray, List.set_cons_zero, List.set_cons_succ, List.getElem_toArray, List.getElem_cons_zero, List.getElem_cons_succ]
      refine anyT_done (by kernel_rfl) ?_ _
      go_wp2_with fail
      go_meet
      case rel => exact ⟨gc1, kc1, rfl, Lib.hid (hvc1 ▸ FC.out)⟩
  case rest =>
  clear hSC ra1 ra2 rb1 rb2 rc1 rc2 hva1 hvb1 hvc1 FA FB FC BA BB BC GA G0 G1 G2
  obtain ⟨wd, hwd⟩ : ∃ x : World, x = wc := ⟨_, rfl⟩
  subst hwd
  obtain ⟨ga, ka, rfl, RF⟩ := hcut
  have RFr : Hid (RowsV wd (.slice ga (n + 1) ka) (X.its ++ [i])) := Lib.hid RF.out.1
  have Bd : Hid (Below w.heap.size w wd) := Lib.hid (Bc.out.trans (RF.out.2.mono Bc.out.size))
  have BW : Hid (∀ W, Below wd.heap.size wd W → Below wb.heap.size wb W ∧ Below w.heap.size w W) := Lib.hid (fun W hW => ⟨RF.out.2.trans (hW.mono RF.out.2.size), Bd.out.trans (hW.mono Bd.out.size)⟩)
  have K15 : Hid (∀ W : World, Below wd.heap.size wd W → W.cell? ⟨r, 6, none⟩ = some (.pointer (some ⟨X.y.s, 0, none⟩)) ∧ W.cell? ⟨q, 1, none⟩ = some ((.int .i64 i.op)) ∧ W.cell? ⟨q, 2, none⟩ = some ((.string i.path)) ∧ W.cell? ⟨q, 3, none⟩ = some ((.string i.to)) ∧ W.cell? ⟨q, 4, none⟩ = some ((.int .i64 i.off)) ∧ W.cell? ⟨q, 5, none⟩ = some ((.int .i64 i.size)) ∧ W.cell? ⟨q, 6, none⟩ = some ((.slice none 0 0)) ∧ W.cell? ⟨q, 7, none⟩ = some ((.slice pa i.parts.length pc))) := Lib.hid (fun W hW => by
    have h1 : W.heap[r]? = _ := Below.heap (BW.out W hW).2 (Nat.le_refl _) HC.out
    have h2 : W.heap[q]? = _ := Below.heap (BW.out W hW).1 (Nat.le_refl _) IC.out.box
    exact ⟨cellAt h1 6, cellAt h2 1, cellAt h2 2, cellAt h2 3, cellAt h2 4, cellAt h2 5, cellAt h2 6, cellAt h2 7⟩)
  go_upto_region 15 with (first | (go_at_call 28; with_reducible refine (BT.out _ _ Bd.out RFr.out).mono ?_; rintro e1 w4 ⟨v4, rfl, hq, h1c⟩; have B4 := Lib.hid hq; clear hq) | (go_at_call 29; with_reducible refine (NX.out _ (BW.out _ B4.out).2).mono ?_; rintro e1 w5 ⟨rfl, hq⟩; have B5 : Hid (Below wd.heap.size wd w5) := Lib.hid (B4.out.trans (hq.mono B4.out.size)); clear hq))
  have D5 : Hid (Below wd.heap.size wd w5.drew) := Lib.hid B5.out.drew
  have SP : Hid (Sl w5.drew 134 4 (.slice pa i.parts.length pc) i.parts.length (partsC i.parts)) := Lib.hid (IC.out.parts.below (BW.out _ D5.out).1)
  have hrn : Hid (r ∉ [X.y.a, X.y.b, X.y.sm] ∧ q ∉ [X.y.a, X.y.b, X.y.sm]) := Lib.hid (by
    have hy0 : ∀ k ∈ X.y.blocks, k ≠ r := fun k hk h => HH.out.ynot k hk (by simp [RepX.mu, h])
    have hy1 : ∀ k ∈ X.y.blocks, k ≠ q := fun k hk h => by
      have := HH.out.st.lt k hk
      have h3 := IC.out.qB
      have h4 := hs0
      omega
    refine ⟨?_, ?_⟩
    · have h1 := hy0 X.y.a (by simp [StX.blocks])
      have h2 := hy0 X.y.b (by simp [StX.blocks])
      have h3 := hy0 X.y.sm (by simp [StX.blocks])
      simp [Ne.symm h1, Ne.symm h2, Ne.symm h3]
    · have h1 := hy1 X.y.a (by simp [StX.blocks])
      have h2 := hy1 X.y.b (by simp [StX.blocks])
      have h3 := hy1 X.y.sm (by simp [StX.blocks])
      simp [Ne.symm h1, Ne.symm h2, Ne.symm h3])
  have K16 : Hid (∀ W : World, Frame [X.y.a, X.y.b, X.y.sm] w5.drew W → (W.cell? ⟨r, 6, none⟩ = some (.pointer (some ⟨X.y.s, 0, none⟩)) ∧ W.cell? ⟨q, 1, none⟩ = some ((.int .i64 i.op)) ∧ W.cell? ⟨q, 2, none⟩ = some ((.string i.path)) ∧ W.cell? ⟨q, 3, none⟩ = some ((.string i.to)) ∧ W.cell? ⟨q, 4, none⟩ = some ((.int .i64 i.off)) ∧ W.cell? ⟨q, 5, none⟩ = some ((.int .i64 i.size)) ∧ W.cell? ⟨q, 6, none⟩ = some ((.slice none 0 0)) ∧ W.cell? ⟨q, 7, none⟩ = some ((.slice pa i.parts.length pc))) ∧ W.heap[r]? = w.heap[r]?) := Lib.hid (fun W hW => by
    have h1 := hW.heap (Below.heap (BW.out _ D5.out).2 (Nat.le_refl _) HC.out) hrn.out.1
    have h2 := hW.heap (Below.heap (BW.out _ D5.out).1 (Nat.le_refl _) IC.out.box) hrn.out.2
    exact ⟨⟨cellAt h1 6, cellAt h2 1, cellAt h2 2, cellAt h2 3, cellAt h2 4, cellAt h2 5, cellAt h2 6, cellAt h2 7⟩, h1.trans HC.out.symm⟩)
  clear hs0 hs1 hB2 hB0
  go_region_held3 (fun W => W.cell? ⟨r, 6, none⟩ = some (.pointer (some ⟨X.y.s, 0, none⟩)) ∧ W.cell? ⟨q, 1, none⟩ = some ((.int .i64 i.op)) ∧ W.cell? ⟨q, 2, none⟩ = some ((.string i.path)) ∧ W.cell? ⟨q, 3, none⟩ = some ((.string i.to)) ∧ W.cell? ⟨q, 4, none⟩ = some ((.int .i64 i.off)) ∧ W.cell? ⟨q, 5, none⟩ = some ((.int .i64 i.size)) ∧ W.cell? ⟨q, 6, none⟩ = some ((.slice none 0 0)) ∧ W.cell? ⟨q, 7, none⟩ = some ((.slice pa i.parts.length pc))) (first | exact K15.out _ D5.out | exact (K16.out _ F6.out).1) (first | (go_at_call 30; with_reducible refine (AP.out _ _ (BW.out _ D5.out).2 SP.out).mono ?_; rintro e1 w6 ⟨rfl, nb', g', hst, hf6⟩; have ST6 := Lib.hid hst; have F6 := Lib.hid hf6; clear hst hf6))
  have hr6 := (K16.out _ F6.out).2.trans HC.out
  have c62 := cellAt hr6 2
  have c65 := cellAt hr6 5
  have f62 := frozenAt hr6 2
  have f65 := frozenAt hr6 5
  clear hr6
  go_wp2_with fail
  go_ret2
  refine ⟨rfl, ?_⟩
  obtain ⟨vs2, fb2, m2, sz2, hch, hvo⟩ := IC.out.chunks
  have hD5 := BW.out _ D5.out
  refine FIN.out _ _ B c' bl' bb' m2 nb' vs2 fb2 g' sz2 _ hD5.2 (hch.below hD5.1) (hvo.before (Nat.le_trans B0.out.size B02.out.size)) (by have := B0.out.size; have := hB.out; have := B1.out.size; omega) (RF.out.1.below D5.out) ST6.out F6.out
end Go.Proofs.YtaonlcgneemimaaGreatDoor
