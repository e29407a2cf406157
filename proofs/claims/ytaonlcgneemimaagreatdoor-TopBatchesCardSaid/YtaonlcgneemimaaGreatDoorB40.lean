/- TopBatches: the contracts of AY8, AY9; no condition. -/
import Derived.Test.YtaonlcgneemimaaGreatDoorB39
import Derived.Test.YtaonlcgneemimaaGreatDoorB31
import Derived.Test.YtaonlcgneemimaaGreatDoorB38
namespace Go.Proofs.YtaonlcgneemimaaGreatDoor
open Go.RowKit
set_option maxRecDepth 100000 in
set_option maxHeartbeats 8000000 in
theorem ingestFull_g (w:World) (r:Nat) (X:RepXG) (H:RepG w r X) (ev:ItemA) (i:ItemA) (hcl:i = cleanI ev.op ev.path ev.to ev.off ev.size i.parts) (P':List (List Int)) (da:Option Addr) (dn dc:Nat) (hck:checkG X.y.x.T X.y.x.n ev.op ev.path ev.to ev.off ev.size dn = 0) (hep:ev.path.size ≤ 1000000 ∧ ev.to.size ≤ 1000000) (hi:OkG X.y.x X.Ky i) (hg:i.good) (h8:ev.op = 8 → ev.path ≠ ⟨#[]⟩ ∧ markedB (allPts X.xs X.its) ev.path = false) (hpt:PtsOk (allPts X.xs (X.its ++ [(X.now,i)]))) (hdn:dn ≤ 9223372036854775807) (hP:PcsOkG w ev i.parts da dn dc X.P P') (hlen:(recordG (X.xs.length + 1) (X.its ++ [(X.now,i)])).length ≤ 700000) (hbig:16384 < (recordG (X.xs.length + 1) (X.its ++ [(X.now,i)])).length) (hfew:X.its.length ≤ 9999) :
  Calls Tryz.prog 9 #[.pointer (some ⟨r,0,none⟩),.agg #[.int .i64 ev.op,.string ev.path,.string ev.to,.int .i64 ev.off,.int .i64 ev.size,.slice da dn dc]] w fun e w' => e = .returned (.tuple #[.int .i64 0,.int .i64 12]) ∧ Below w.heap.size w w':=by
 have HH:=Lib.hid H
 have HP:=Lib.hid hP
 have HI:=Lib.hid hi
 have HG:=Lib.hid hg
 have hst:StOk (X.its ++ [(X.now,i)]):=stOk_of hpt
 have hxs:=H.hist.few
 have MK:Hid (ev.op = 8 → ∀ W,Below w.heap.size w W → Calls Tryz.prog 24 #[.pointer (some ⟨r,0,none⟩),.string ev.path] W fun e w' => e = .returned (.bool false) ∧ Below W.heap.size W w'):=Lib.hid (fun h W hW => by rw [← (h8 h).2];exact marked_g W r X (HH.out.below hW) ev.path (h8 h).1 (by omega))
 obtain ⟨ra,rcap,hrv,-,-,-⟩:=rowsG_cells H.rows
 obtain ⟨n,hn⟩:∃ n,Hid (n = X.its.length):=⟨_,Lib.hid rfl⟩
 obtain ⟨N,hN⟩:∃ N,Hid (N = X.xs.length):=⟨_,Lib.hid rfl⟩
 rw [← hn.out] at hrv hfew
 rw [← hN.out] at hxs
 have HRV:=Lib.hid hrv
 have HC:=Lib.hid H.cell
 rw [hrv] at HC
 have hlt:=heap_lt H.cell
 obtain ⟨W0,hW0⟩:∃ W0,Hid (W0 = (w.alloc (.cells #[.int .i64 ev.op,.string ev.path,.string ev.to,.int .i64 ev.off,.int .i64 ev.size,.slice da dn dc] 35))):=⟨_,Lib.hid rfl⟩
 have hs0:W0.heap.size = w.heap.size + 1:=by rw [hW0.out];simp
 have B0:Hid (Below w.heap.size w W0):=Lib.hid (by rw [hW0.out];exact (Below.refl _ _).alloc (Nat.le_refl _) _)
 have KX:Hid (∀ W:World,Below W0.heap.size W0 W → W.cell? ⟨r,2,none⟩ = some (.pointer (some ⟨X.c,0,none⟩)) ∧ W.cell? ⟨r,4,none⟩ = some (.float .f64 (stF X.now)) ∧ W.cell? ⟨r,5,none⟩ = some (.slice ra n rcap) ∧ W.cell? ⟨r,6,none⟩ = some (.pointer (some ⟨X.y.s,0,none⟩)) ∧ W.cell? ⟨w.heap.size,0,none⟩ = some (.int .i64 ev.op) ∧ W.cell? ⟨w.heap.size,1,none⟩ = some (.string ev.path) ∧ W.cell? ⟨w.heap.size,2,none⟩ = some (.string ev.to) ∧ W.cell? ⟨w.heap.size,3,none⟩ = some (.int .i64 ev.off) ∧ W.cell? ⟨w.heap.size,4,none⟩ = some (.int .i64 ev.size) ∧ W.cell? ⟨w.heap.size,5,none⟩ = some (.slice da dn dc)):=Lib.hid (fun W hW => by
  have h1:W.heap[r]? = _:=Below.heap (B0.out.trans (hW.mono B0.out.size)) (Nat.le_refl _) HC.out
  have h0:W0.heap[w.heap.size]? = some (.cells #[.int .i64 ev.op,.string ev.path,.string ev.to,.int .i64 ev.off,.int .i64 ev.size,.slice da dn dc] 35 (0,0)):=by rw [hW0.out];exact heap_new _ _
  have h2:W.heap[w.heap.size]? = _:=Below.heap hW (Nat.le_refl _) h0
  exact ⟨cellAt h1 2,cellAt h1 4,cellAt h1 5,cellAt h1 6,cellAt h2 0,cellAt h2 1,cellAt h2 2,cellAt h2 3,cellAt h2 4,cellAt h2 5⟩)
 have CK:Hid (∀ W,Below w.heap.size w W → Calls Tryz.prog 23 #[.pointer (some ⟨X.y.s,0,none⟩),.agg #[.int .i64 ev.op,.string ev.path,.string ev.to,.int .i64 ev.off,.int .i64 ev.size,.slice da dn dc]] W fun e w' => e = .returned (.int .i64 0) ∧ Below W.heap.size W w'):=Lib.hid (fun W hW => by rw [← hck];exact checkS_g W X.Ky X.y (HH.out.st.below hW) ev.op ev.path ev.to hep.1 hep.2 ev.off ev.size da dn dc hdn)
 have CP:Hid (∀ W,Below w.heap.size w W → Calls Tryz.prog 25 #[.pointer (some ⟨X.c,0,none⟩)] W fun e w' => ∃ c',e = .returned (.pointer (some ⟨c',0,none⟩)) ∧ ∃ bl' bb' fb' m',ChunksAt w' W.heap.size c' X.P bl' bb' X.vs fb' m' X.sz ∧ Below W.heap.size W w'):=Lib.hid (fun W hW => copy_any3 W 0 X.c X.P X.bl X.bb X.vs X.fb X.m X.sz (HH.out.chunks.below hW))
 have CN:Hid (∀ W,Calls Tryz.prog 26 #[.agg #[.int .i64 ev.op,.string ev.path,.string ev.to,.int .i64 ev.off,.int .i64 ev.size,.slice da dn dc]] W fun e w' => e = .returned (.agg #[.int .i64 i.op,.string i.path,.string i.to,.int .i64 i.off,.int .i64 i.size,.slice none 0 0]) ∧ Below W.heap.size W w'):=Lib.hid (fun W => by have h:=clean_g W ev.op ev.path ev.to ev.off ev.size da dn dc i.parts;rw [← hcl] at h;exact h)
 have BT:Hid (∀ W v,Below w.heap.size w W → RowsGV W v (X.its ++ [(X.now,i)]) → Calls Tryz.prog 28 #[.pointer (some ⟨r,0,none⟩),v] W fun e w' => e = .returned (.tuple #[.slice none 0 0,.int .i64 12]) ∧ Below W.heap.size W w'):=Lib.hid (fun W v hW hv => by
  refine repBatch_full X.K W r X.h _ _ _ _ _ _ _ _ X.xs (Below.heap hW (Nat.le_refl _) HC.out) (HH.out.hist.below hW) v _ hv (fun j hj => ?_) hst (by simp) (by have:=hn.out;simp;omega) hlen hbig
  rcases List.mem_append.1 hj with hj | hj
  ·exact HH.out.good j hj
  ·simp only [List.mem_singleton] at hj
   subst hj
   exact hg)
 have ROW:Hid (∀ W,Below w.heap.size w W → RowsGV W (.slice ra n rcap) X.its):=Lib.hid (fun W hW => by
  have:=HH.out.rows.below hW
  rw [HRV.out] at this
  exact this)
 have hw0:=hW0.out
 have S0:=KX.out W0 (Below.refl _ _)
 clear H hP hi hg hcl hck hep hpt hst hdn hlen hrv h8 hbig
 go_enter Tryz.func9,Tryz.ntmps9
 go_wp2_with fail
 rw [← hw0]
 clear hw0
 have R0:Hid (Below W0.heap.size W0 W0.drew):=Lib.hid (Below.refl _ _).drew
 have S0d:=KX.out W0.drew (Below.refl _ _).drew
 obtain ⟨s2,s4,s5,s6,x0,x1,x2,x3,x4,x5⟩:=S0d
 go_region_held3 (fun W => W.cell? ⟨r,2,none⟩ = some (.pointer (some ⟨X.c,0,none⟩)) ∧ W.cell? ⟨r,4,none⟩ = some (.float .f64 (stF X.now)) ∧ W.cell? ⟨r,5,none⟩ = some (.slice ra n rcap) ∧ W.cell? ⟨r,6,none⟩ = some (.pointer (some ⟨X.y.s,0,none⟩)) ∧ W.cell? ⟨w.heap.size,0,none⟩ = some (.int .i64 ev.op) ∧ W.cell? ⟨w.heap.size,1,none⟩ = some (.string ev.path) ∧ W.cell? ⟨w.heap.size,2,none⟩ = some (.string ev.to) ∧ W.cell? ⟨w.heap.size,3,none⟩ = some (.int .i64 ev.off) ∧ W.cell? ⟨w.heap.size,4,none⟩ = some (.int .i64 ev.size) ∧ W.cell? ⟨w.heap.size,5,none⟩ = some (.slice da dn dc)) (first | exact ⟨s2,s4,s5,s6,x0,x1,x2,x3,x4,x5⟩ | exact KX.out _ BA.out) (first | (go_at_call 23;with_reducible refine (CK.out _ B0.out.drew).mono ?_;rintro e1 wA ⟨rfl,hq⟩;have BA:Hid (Below W0.heap.size W0 wA):=Lib.hid (R0.out.trans (hq.mono R0.out.size));clear hq))
 have SA:=KX.out wA BA.out
 clear s2 s4 s5 s6 x0 x1 x2 x3 x4 x5
 obtain ⟨s2,s4,s5,s6,x0,x1,x2,x3,x4,x5⟩:=SA
 have BwA:Hid (Below w.heap.size w wA):=Lib.hid (B0.out.trans (BA.out.mono B0.out.size))
 go_upto_region 6 with fail
 go_cut [33] from 25 (fun s33 wc => s33 = .bool false ∧ Hid (Below W0.heap.size W0 wc))
 case first =>
  by_cases h8:ev.op = 8
  ·have d8:(ev.op == 8) = true:=by simpa using h8
   have MKC:=Lib.hid (MK.out h8)
   clear h8
   go_wp2_with (go_at_call 24;with_reducible refine (MKC.out _ BwA.out).mono ?_;rintro e1 w1 ⟨rfl,hq⟩;have B1:Hid (Below W0.heap.size W0 w1):=Lib.hid (BA.out.trans (hq.mono BA.out.size));clear hq)
   go_meet
   case rel => exact ⟨rfl,B1⟩
  ·have d8:(ev.op == 8) = false:=by simpa using h8
   go_wp2_with fail
   go_meet
   case rel => exact ⟨rfl,BA⟩
 case rest =>
 obtain ⟨rfl,B1⟩:=hcut
 obtain ⟨w1,hw1⟩:∃ x:World,x = wc:=⟨_,rfl⟩
 subst hw1
 have S1:=KX.out w1 B1.out
 clear s2 s4 s5 s6 x0 x1 x2 x3 x4 x5
 obtain ⟨s2,s4,s5,s6,x0,x1,x2,x3,x4,x5⟩:=S1
 have Bw1:Hid (Below w.heap.size w w1):=Lib.hid (B0.out.trans (B1.out.mono B0.out.size))
 have hs1:W0.heap.size ≤ w1.heap.size:=B1.out.size
 obtain ⟨B,hB⟩:∃ B,Hid (B = w1.heap.size):=⟨_,Lib.hid rfl⟩
 go_upto_region 9 with (go_at_call 25;with_reducible refine (CP.out _ Bw1.out).mono ?_;rintro e1 w2 ⟨c',rfl,bl',bb',fb',m',hch,hq⟩;rw [← hB.out] at hch hq;have C2:=Lib.hid hch;have B2:=Lib.hid hq;clear hch hq)
 have hB2:B ≤ w2.heap.size:=Nat.le_trans (Nat.le_of_eq hB.out) (by have:=B2.out.size;omega)
 have hB0:W0.heap.size ≤ B:=by rw [hB.out];exact hs1
 have B02:Hid (Below W0.heap.size W0 w2):=Lib.hid (B1.out.trans (B2.out.mono hB0))
 have KY:Hid (∀ W:World,Below B w2 W → W.cell? ⟨r,2,none⟩ = some (.pointer (some ⟨X.c,0,none⟩)) ∧ W.cell? ⟨r,4,none⟩ = some (.float .f64 (stF X.now)) ∧ W.cell? ⟨r,5,none⟩ = some (.slice ra n rcap) ∧ W.cell? ⟨r,6,none⟩ = some (.pointer (some ⟨X.y.s,0,none⟩)) ∧ W.cell? ⟨w.heap.size,0,none⟩ = some (.int .i64 ev.op) ∧ W.cell? ⟨w.heap.size,1,none⟩ = some (.string ev.path) ∧ W.cell? ⟨w.heap.size,2,none⟩ = some (.string ev.to) ∧ W.cell? ⟨w.heap.size,3,none⟩ = some (.int .i64 ev.off) ∧ W.cell? ⟨w.heap.size,4,none⟩ = some (.int .i64 ev.size) ∧ W.cell? ⟨w.heap.size,5,none⟩ = some (.slice da dn dc)):=Lib.hid (fun W hW => KX.out W (B02.out.trans (hW.mono hB0)))
 have PC:Hid (∀ W,Below w2.heap.size w2 W → Calls Tryz.prog 27 #[.pointer (some ⟨c',0,none⟩),.agg #[.int .i64 ev.op,.string ev.path,.string ev.to,.int .i64 ev.off,.int .i64 ev.size,.slice da dn dc]] W fun e w' => ∃ v',e = .returned v' ∧ Sl w' 134 4 v' i.parts.length (partsC i.parts) ∧ (∃ vs2 fb2 m2 sz2,ChunksAt w' B c' P' bl' bb' vs2 fb2 m2 sz2 ∧ VsOk w2 X.vs vs2) ∧ Below B w2 w' ∧ KeptC W w'):=Lib.hid (fun W hW => by
  refine (HP.out W B c' bl' bb' X.vs fb' m' X.sz ((B0.out.trans (B02.out.mono B0.out.size)).trans (hW.mono (by have:=B0.out.size;omega))) (C2.out.below hW) (Nat.le_trans hB2 hW.size)).mono ?_
  rintro e w' ⟨v',e1,h1,⟨vs2,fb2,m2,sz2,h2,h5⟩,h3,h4⟩
  exact ⟨v',e1,h1,⟨vs2,fb2,m2,sz2,h2,h5.before hW.size⟩,(hW.mono hB2).trans h3,h4⟩)
 have Rd:Hid (Below w2.heap.size w2 w2.drew):=Lib.hid (Below.refl _ _).drew
 have Rz:Hid (Below w2.heap.size w2 (w2.alloc (.cells #[.float .f64 0,.int .i64 0,.string ⟨#[]⟩,.string ⟨#[]⟩,.int .i64 0,.int .i64 0,.slice none 0 0,.slice none 0 0] 86)).drew):=Lib.hid (((Below.refl _ _).alloc (Nat.le_refl _) _).drew)
 have Hz:Hid ((w2.alloc (.cells #[.float .f64 0,.int .i64 0,.string ⟨#[]⟩,.string ⟨#[]⟩,.int .i64 0,.int .i64 0,.slice none 0 0,.slice none 0 0] 86)).drew.heap[w2.heap.size]? = some (.cells rowZ 86 (0,0))):=Lib.hid (heap_new w2 (.cells #[.float .f64 0,.int .i64 0,.string ⟨#[]⟩,.string ⟨#[]⟩,.int .i64 0,.int .i64 0,.slice none 0 0,.slice none 0 0] 86))
 have Rdb:Hid (Below B w2 w2.drew):=Lib.hid (Rd.out.mono hB2)
 have Rzb:Hid (Below B w2 (w2.alloc (.cells #[.float .f64 0,.int .i64 0,.string ⟨#[]⟩,.string ⟨#[]⟩,.int .i64 0,.int .i64 0,.slice none 0 0,.slice none 0 0] 86)).drew):=Lib.hid (Rz.out.mono hB2)
 have BOX:Hid (∀ (W:World) (q:Nat),Below B w2 W → B ≤ q → W.heap[q]? = some (.cells rowZ 86 (0,0)) → ∀ a0 a1 a2 a3 a4 a5 a6 a7:Value,Below B w2 ((((((((W.setCell ⟨q,0,none⟩ a0).setCell ⟨q,1,none⟩ a1).setCell ⟨q,2,none⟩ a2).setCell ⟨q,3,none⟩ a3).setCell ⟨q,4,none⟩ a4).setCell ⟨q,5,none⟩ a5).setCell ⟨q,6,none⟩ a6).setCell ⟨q,7,none⟩ a7)):=Lib.hid (fun W q hW hq hz a0 a1 a2 a3 a4 a5 a6 a7 => (row_box hz a0 a1 a2 a3 a4 a5 a6 a7).2.belowIf hW (by simpa using hq) (Nat.le_trans hB2 hW.size))
 clear s2 s4 s5 s6 x0 x1 x2 x3 x4 x5
 have hSB:∀ {L:Array Bool} {W:World},Below B w2 W → TillC 99 (fun _ => True) (fun W => W.cell? ⟨r,4,none⟩ = some (.float .f64 (stF X.now)) ∧ W.cell? ⟨w.heap.size,0,none⟩ = some (.int .i64 ev.op) ∧ W.cell? ⟨w.heap.size,1,none⟩ = some (.string ev.path) ∧ W.cell? ⟨w.heap.size,2,none⟩ = some (.string ev.to) ∧ W.cell? ⟨w.heap.size,3,none⟩ = some (.int .i64 ev.off) ∧ W.cell? ⟨w.heap.size,4,none⟩ = some (.int .i64 ev.size) ∧ W.cell? ⟨w.heap.size,5,none⟩ = some (.slice da dn dc)) L W:=fun {L} {W} hW => by
  obtain ⟨s2,s4,s5,s6,x0,x1,x2,x3,x4,x5⟩:=KY.out W hW
  exact ⟨fun _ => trivial,s4,x0,x1,x2,x3,x4,x5⟩
 have hS0:∀ L:Array Bool,TillC 99 (fun _ => True) (fun W => W.cell? ⟨r,4,none⟩ = some (.float .f64 (stF X.now)) ∧ W.cell? ⟨w.heap.size,0,none⟩ = some (.int .i64 ev.op) ∧ W.cell? ⟨w.heap.size,1,none⟩ = some (.string ev.path) ∧ W.cell? ⟨w.heap.size,2,none⟩ = some (.string ev.to) ∧ W.cell? ⟨w.heap.size,3,none⟩ = some (.int .i64 ev.off) ∧ W.cell? ⟨w.heap.size,4,none⟩ = some (.int .i64 ev.size) ∧ W.cell? ⟨w.heap.size,5,none⟩ = some (.slice da dn dc)) L w2.drew:=fun L => hSB Rdb.out
 have hsf:=fun (W:World) (p:Addr) (k:Nat) => run_store Tryz.prog W p (.float .f64 k) .plain rfl
 go_cut [8] from 14 (fun s8 wc => ∃ q v',s8 = .pointer (some ⟨q,0,none⟩) ∧ Hid (IngCG w2 wc B c' bl' bb' X.vs P' X.now i v' q))
 case first =>
  refine wp_region_T (TillC 99 (fun _ => True) (fun W => W.cell? ⟨r,4,none⟩ = some (.float .f64 (stF X.now)) ∧ W.cell? ⟨w.heap.size,0,none⟩ = some (.int .i64 ev.op) ∧ W.cell? ⟨w.heap.size,1,none⟩ = some (.string ev.path) ∧ W.cell? ⟨w.heap.size,2,none⟩ = some (.string ev.to) ∧ W.cell? ⟨w.heap.size,3,none⟩ = some (.int .i64 ev.off) ∧ W.cell? ⟨w.heap.size,4,none⟩ = some (.int .i64 ev.size) ∧ W.cell? ⟨w.heap.size,5,none⟩ = some (.slice da dn dc))) rfl ?_
  simp only [List.size_toArray,List.length_cons,List.length_nil,Nat.reduceAdd,Array.replicate_succ,Array.replicate_zero,List.push_toArray,List.nil_append,List.cons_append]
  refine anyT_take (i:=0) (p:=1) (v:=?v1) rfl rfl (by kernel_rfl) (fun L w => TillC_set (by decide) L w) (by kernel_rfl) (by kernel_rfl) (by kernel_rfl) (by kernel_rfl) (fun _ _ _ h => h) (Or.inl ⟨by rfl,fun w hw => ?y1⟩) (hS0 _) ?r1
  case y1 => obtain ⟨L,hL,hS⟩:=hw;obtain ⟨r4,x0,x1,x2,x3,x4,x5⟩:=hS.2;go_simp;(try with_reducible rfl)
  simp only [Act.put,List.setIfInBounds_toArray,List.set_cons_zero,List.set_cons_succ,List.getElem_toArray,List.getElem_cons_zero,List.getElem_cons_succ]
  refine anyT_take (i:=1) (p:=2) (v:=?v2) rfl rfl (by kernel_rfl) (fun L w => TillC_set (by decide) L w) (by kernel_rfl) (by kernel_rfl) (by kernel_rfl) (by kernel_rfl) (fun _ _ _ h => h) (Or.inl ⟨by rfl,fun w hw => ?y2⟩) (hS0 _) ?r2
  case y2 => obtain ⟨L,hL,hS⟩:=hw;obtain ⟨r4,x0,x1,x2,x3,x4,x5⟩:=hS.2;go_simp;(try with_reducible rfl)
  simp only [Act.put,List.setIfInBounds_toArray,List.set_cons_zero,List.set_cons_succ,List.getElem_toArray,List.getElem_cons_zero,List.getElem_cons_succ]
  refine anyT_take (i:=2) (p:=3) (v:=?v3) rfl rfl (by kernel_rfl) (fun L w => TillC_set (by decide) L w) (by kernel_rfl) (by kernel_rfl) (by kernel_rfl) (by kernel_rfl) (fun _ _ _ h => h) (Or.inl ⟨by rfl,fun w hw => ?y3⟩) (hS0 _) ?r3
  case y3 => obtain ⟨L,hL,hS⟩:=hw;obtain ⟨r4,x0,x1,x2,x3,x4,x5⟩:=hS.2;go_simp;(try with_reducible rfl)
  simp only [Act.put,List.setIfInBounds_toArray,List.set_cons_zero,List.set_cons_succ,List.getElem_toArray,List.getElem_cons_zero,List.getElem_cons_succ]
  refine anyT_take (i:=3) (p:=10) (v:=?v4) rfl rfl (by kernel_rfl) (fun L w => TillC_set (by decide) L w) (by kernel_rfl) (by kernel_rfl) (by kernel_rfl) (by kernel_rfl) (fun _ _ _ h => h) (Or.inl ⟨by rfl,fun w hw => ?y4⟩) (hS0 _) ?r4
  case y4 => obtain ⟨L,hL,hS⟩:=hw;obtain ⟨r4,x0,x1,x2,x3,x4,x5⟩:=hS.2;go_simp;(try with_reducible rfl)
  simp only [Act.put,List.setIfInBounds_toArray,List.set_cons_zero,List.set_cons_succ,List.getElem_toArray,List.getElem_cons_zero,List.getElem_cons_succ]
  refine anyT_take (i:=4) (p:=5) (v:=?v5) rfl rfl (by kernel_rfl) (fun L w => TillC_set (by decide) L w) (by kernel_rfl) (by kernel_rfl) (by kernel_rfl) (by kernel_rfl) (fun _ _ _ h => h) (Or.inl ⟨by rfl,fun w hw => ?y5⟩) (hS0 _) ?r5
  case y5 => obtain ⟨L,hL,hS⟩:=hw;obtain ⟨r4,x0,x1,x2,x3,x4,x5⟩:=hS.2;go_simp;(try with_reducible rfl)
  simp only [Act.put,List.setIfInBounds_toArray,List.set_cons_zero,List.set_cons_succ,List.getElem_toArray,List.getElem_cons_zero,List.getElem_cons_succ]
  refine anyT_take (i:=6) (p:=8) (v:=?v6) rfl rfl (by kernel_rfl) (fun L w => TillC_set (by decide) L w) (by kernel_rfl) (by kernel_rfl) (by kernel_rfl) (by kernel_rfl) (fun _ _ _ h => h) (Or.inl ⟨by rfl,fun w hw => ?y6⟩) (hS0 _) ?r6
  case y6 => obtain ⟨L,hL,hS⟩:=hw;obtain ⟨r4,x0,x1,x2,x3,x4,x5⟩:=hS.2;go_simp;(try with_reducible rfl)
  simp only [Act.put,List.setIfInBounds_toArray,List.set_cons_zero,List.set_cons_succ,List.getElem_toArray,List.getElem_cons_zero,List.getElem_cons_succ]
  refine anyT_take (i:=7) (p:=8) (v:=?v7) rfl rfl (by kernel_rfl) (fun L w => TillC_set (by decide) L w) (by kernel_rfl) (by kernel_rfl) (by kernel_rfl) (by kernel_rfl) (fun _ _ _ h => h) (Or.inl ⟨by rfl,fun w hw => ?y7⟩) (hS0 _) ?r7
  case y7 => obtain ⟨L,hL,hS⟩:=hw;obtain ⟨r4,x0,x1,x2,x3,x4,x5⟩:=hS.2;go_simp;(try with_reducible rfl)
  simp only [Act.put,List.setIfInBounds_toArray,List.set_cons_zero,List.set_cons_succ,List.getElem_toArray,List.getElem_cons_zero,List.getElem_cons_succ]
  refine anyT_all (rs:=[5,11]) (by kernel_rfl) (by simp) ?_
  intro jj hj
  simp only [List.mem_cons,List.not_mem_nil,or_false] at hj
  rcases hj with rfl | rfl
  ·refine T_step rfl (fun K' hK => ?_)
   go_simp
   go_at_call 26
   refine (CN.out _).mono ?_
   rintro e1 w3 ⟨rfl,hq⟩
   have B3:Hid (Below w2.heap.size w2 w3):=Lib.hid (Rd.out.trans (hq.mono Rd.out.size))
   have B3b:Hid (Below B w2 w3):=Lib.hid (B3.out.mono hB2)
   have hB3:B ≤ w3.heap.size:=Nat.le_trans hB2 B3.out.size
   refine hK.out _ _ (hSB B3b.out) ?_
   simp only [Act.put,List.setIfInBounds_toArray,List.set_cons_zero,List.set_cons_succ,List.getElem_toArray,List.getElem_cons_zero,List.getElem_cons_succ]
   refine anyT_all (rs:=[8,11]) (by kernel_rfl) (by simp) ?_
   intro jj hj
   simp only [List.mem_cons,List.not_mem_nil,or_false] at hj
   rcases hj with rfl | rfl
   ·refine T_step rfl (fun K' hK => ?_)
    go_simp
    go_at_call 27
    refine (PC.out (w3) (B3.out)).mono ?_
    rintro e1 w4 ⟨v',rfl,hs4,hc4,hb4,hk4⟩
    have S4:=Lib.hid hs4
    have C4:=Lib.hid hc4
    have B4:=Lib.hid hb4
    have hB4:B ≤ w4.heap.size:=Nat.le_trans hB2 B4.out.size
    refine hK.out _ _ (hSB B4.out) ?_
    simp only [Act.put,List.setIfInBounds_toArray,List.set_cons_zero,List.set_cons_succ,List.getElem_toArray,List.getElem_cons_zero,List.getElem_cons_succ]
    obtain ⟨pa4,pc4,rfl,-,-,-⟩:=hs4.shape
    refine anyT_take (i:=9) (p:=10) (v:=?v8) rfl rfl (by kernel_rfl) (fun L w => TillC_set (by decide) L w) (by kernel_rfl) (by kernel_rfl) (by kernel_rfl) (by kernel_rfl) (fun _ _ _ h => h) (Or.inl ⟨by rfl,fun w hw => ?y8⟩) (hSB B4.out) ?r8
    case y8 => obtain ⟨L,hL,hS⟩:=hw;obtain ⟨r4,x0,x1,x2,x3,x4,x5⟩:=hS.2;go_simp;(try with_reducible rfl)
    simp only [Act.put,List.setIfInBounds_toArray,List.set_cons_zero,List.set_cons_succ,List.getElem_toArray,List.getElem_cons_zero,List.getElem_cons_succ]
    refine anyT_take (i:=10) (p:=12) (v:=?v9) rfl rfl (by kernel_rfl) (fun L w => TillC_set (by decide) L w) (by kernel_rfl) (by kernel_rfl) (by kernel_rfl) (by kernel_rfl) (fun _ _ _ h => h) (Or.inl ⟨by rfl,fun w hw => ?y9⟩) (hSB B4.out) ?r9
    case y9 => obtain ⟨L,hL,hS⟩:=hw;obtain ⟨r4,x0,x1,x2,x3,x4,x5⟩:=hS.2;go_simp;(try with_reducible rfl)
    simp only [Act.put,List.setIfInBounds_toArray,List.set_cons_zero,List.set_cons_succ,List.getElem_toArray,List.getElem_cons_zero,List.getElem_cons_succ]
    refine anyT_all (rs:=[11]) (by kernel_rfl) (by simp) ?_
    intro jj hj
    simp only [List.mem_singleton] at hj
    subst hj
    refine T_step rfl (fun K' hK => ?_)
    go_simp
    refine hK.out _ _ (hSB (B4.out.alloc hB4 _)) ?_
    simp only [Act.put,List.setIfInBounds_toArray,List.set_cons_zero,List.set_cons_succ,List.getElem_toArray,List.getElem_cons_zero,List.getElem_cons_succ]
    have Q3:=rowZ_at (rowZ_new w4)
    have z0:=cellAt Q3 0
    have f0:=frozenAt Q3 0
    have z1:=cellAt Q3 1
    have f1:=frozenAt Q3 1
    have z2:=cellAt Q3 2
    have f2:=frozenAt Q3 2
    have z3:=cellAt Q3 3
    have f3:=frozenAt Q3 3
    have z4:=cellAt Q3 4
    have f4:=frozenAt Q3 4
    have z5:=cellAt Q3 5
    have f5:=frozenAt Q3 5
    have z6:=cellAt Q3 6
    have f6:=frozenAt Q3 6
    have z7:=cellAt Q3 7
    have f7:=frozenAt Q3 7
    refine anyT_all (rs:=[12]) (by kernel_rfl) (by simp) ?_
    intro jj hj
    simp only [List.mem_singleton] at hj
    subst hj
    refine T_step rfl (fun K' hK => ?_)
    go_simp
    refine hK.out _ _ (hSB (B4.out.alloc hB4 _)) ?_
    simp only [Act.put,List.setIfInBounds_toArray,List.set_cons_zero,List.set_cons_succ,List.getElem_toArray,List.getElem_cons_zero,List.getElem_cons_succ]
    refine anyT_done (by kernel_rfl) ?_ _
    go_wp2_with fail
    go_meet
    case rel => exact ⟨_,_,rfl,Lib.hid (ing_allocG S4.out C4.out B4.out hB2)⟩
   ·refine T_step rfl (fun K' hK => ?_)
    go_simp
    refine hK.out _ _ (hSB (B3b.out.alloc hB3 _)) ?_
    simp only [Act.put,List.setIfInBounds_toArray,List.set_cons_zero,List.set_cons_succ,List.getElem_toArray,List.getElem_cons_zero,List.getElem_cons_succ]
    refine anyT_all (rs:=[8]) (by kernel_rfl) (by simp) ?_
    intro jj hj
    simp only [List.mem_singleton] at hj
    subst hj
    refine T_step rfl (fun K' hK => ?_)
    go_simp
    go_at_call 27
    refine (PC.out (w3.alloc (.cells #[.float .f64 0,.int .i64 0,.string ⟨#[]⟩,.string ⟨#[]⟩,.int .i64 0,.int .i64 0,.slice none 0 0,.slice none 0 0] 86)) (B3.out.alloc B3.out.size _)).mono ?_
    rintro e1 w4 ⟨v',rfl,hs4,hc4,hb4,hk4⟩
    have S4:=Lib.hid hs4
    have C4:=Lib.hid hc4
    have B4:=Lib.hid hb4
    have hB4:B ≤ w4.heap.size:=Nat.le_trans hB2 B4.out.size
    refine hK.out _ _ (hSB B4.out) ?_
    simp only [Act.put,List.setIfInBounds_toArray,List.set_cons_zero,List.set_cons_succ,List.getElem_toArray,List.getElem_cons_zero,List.getElem_cons_succ]
    obtain ⟨pa4,pc4,rfl,-,-,-⟩:=hs4.shape
    have Z4:Hid (w4.heap[w3.heap.size]? = some (.cells rowZ 86 (0,0))):=Lib.hid (keptC_row hk4 (rowZ_new w3))
    refine anyT_take (i:=9) (p:=10) (v:=?v10) rfl rfl (by kernel_rfl) (fun L w => TillC_set (by decide) L w) (by kernel_rfl) (by kernel_rfl) (by kernel_rfl) (by kernel_rfl) (fun _ _ _ h => h) (Or.inl ⟨by rfl,fun w hw => ?y10⟩) (hSB B4.out) ?r10
    case y10 => obtain ⟨L,hL,hS⟩:=hw;obtain ⟨r4,x0,x1,x2,x3,x4,x5⟩:=hS.2;go_simp;(try with_reducible rfl)
    simp only [Act.put,List.setIfInBounds_toArray,List.set_cons_zero,List.set_cons_succ,List.getElem_toArray,List.getElem_cons_zero,List.getElem_cons_succ]
    refine anyT_take (i:=10) (p:=12) (v:=?v11) rfl rfl (by kernel_rfl) (fun L w => TillC_set (by decide) L w) (by kernel_rfl) (by kernel_rfl) (by kernel_rfl) (by kernel_rfl) (fun _ _ _ h => h) (Or.inl ⟨by rfl,fun w hw => ?y11⟩) (hSB B4.out) ?r11
    case y11 => obtain ⟨L,hL,hS⟩:=hw;obtain ⟨r4,x0,x1,x2,x3,x4,x5⟩:=hS.2;go_simp;(try with_reducible rfl)
    simp only [Act.put,List.setIfInBounds_toArray,List.set_cons_zero,List.set_cons_succ,List.getElem_toArray,List.getElem_cons_zero,List.getElem_cons_succ]
    have Q3:=rowZ_at Z4.out
    have z0:=cellAt Q3 0
    have f0:=frozenAt Q3 0
    have z1:=cellAt Q3 1
    have f1:=frozenAt Q3 1
    have z2:=cellAt Q3 2
    have f2:=frozenAt Q3 2
    have z3:=cellAt Q3 3
    have f3:=frozenAt Q3 3
    have z4:=cellAt Q3 4
    have f4:=frozenAt Q3 4
    have z5:=cellAt Q3 5
    have f5:=frozenAt Q3 5
    have z6:=cellAt Q3 6
    have f6:=frozenAt Q3 6
    have z7:=cellAt Q3 7
    have f7:=frozenAt Q3 7
    refine anyT_all (rs:=[12]) (by kernel_rfl) (by simp) ?_
    intro jj hj
    simp only [List.mem_singleton] at hj
    subst hj
    refine T_step rfl (fun K' hK => ?_)
    go_simp
    refine hK.out _ _ (hSB (BOX.out _ _ B4.out (by omega) Z4.out _ _ _ _ _ _ _ _)) ?_
    simp only [Act.put,List.setIfInBounds_toArray,List.set_cons_zero,List.set_cons_succ,List.getElem_toArray,List.getElem_cons_zero,List.getElem_cons_succ]
    refine anyT_done (by kernel_rfl) ?_ _
    go_wp2_with fail
    go_meet
    case rel => exact ⟨_,_,rfl,Lib.hid (ing_setG S4.out C4.out B4.out (by omega) Z4.out)⟩
  ·refine T_step rfl (fun K' hK => ?_)
   go_simp
   refine hK.out _ _ (hSB (Rzb.out)) ?_
   simp only [Act.put,List.setIfInBounds_toArray,List.set_cons_zero,List.set_cons_succ,List.getElem_toArray,List.getElem_cons_zero,List.getElem_cons_succ]
   refine anyT_all (rs:=[5]) (by kernel_rfl) (by simp) ?_
   intro jj hj
   simp only [List.mem_singleton] at hj
   subst hj
   refine T_step rfl (fun K' hK => ?_)
   go_simp
   go_at_call 26
   refine (CN.out _).mono ?_
   rintro e1 w3 ⟨rfl,hq⟩
   have B3:Hid (Below w2.heap.size w2 w3):=Lib.hid (Rz.out.trans (hq.mono Rz.out.size))
   have B3b:Hid (Below B w2 w3):=Lib.hid (B3.out.mono hB2)
   have hB3:B ≤ w3.heap.size:=Nat.le_trans hB2 B3.out.size
   have Z3:Hid (w3.heap[w2.heap.size]? = some (.cells rowZ 86 (0,0))):=Lib.hid (Below.heap hq (Nat.le_refl _) Hz.out)
   refine hK.out _ _ (hSB B3b.out) ?_
   simp only [Act.put,List.setIfInBounds_toArray,List.set_cons_zero,List.set_cons_succ,List.getElem_toArray,List.getElem_cons_zero,List.getElem_cons_succ]
   refine anyT_all (rs:=[8]) (by kernel_rfl) (by simp) ?_
   intro jj hj
   simp only [List.mem_singleton] at hj
   subst hj
   refine T_step rfl (fun K' hK => ?_)
   go_simp
   go_at_call 27
   refine (PC.out (w3) (B3.out)).mono ?_
   rintro e1 w4 ⟨v',rfl,hs4,hc4,hb4,hk4⟩
   have S4:=Lib.hid hs4
   have C4:=Lib.hid hc4
   have B4:=Lib.hid hb4
   have hB4:B ≤ w4.heap.size:=Nat.le_trans hB2 B4.out.size
   refine hK.out _ _ (hSB B4.out) ?_
   simp only [Act.put,List.setIfInBounds_toArray,List.set_cons_zero,List.set_cons_succ,List.getElem_toArray,List.getElem_cons_zero,List.getElem_cons_succ]
   obtain ⟨pa4,pc4,rfl,-,-,-⟩:=hs4.shape
   have Z4:Hid (w4.heap[w2.heap.size]? = some (.cells rowZ 86 (0,0))):=Lib.hid (keptC_row hk4 (Z3.out))
   refine anyT_take (i:=9) (p:=10) (v:=?v12) rfl rfl (by kernel_rfl) (fun L w => TillC_set (by decide) L w) (by kernel_rfl) (by kernel_rfl) (by kernel_rfl) (by kernel_rfl) (fun _ _ _ h => h) (Or.inl ⟨by rfl,fun w hw => ?y12⟩) (hSB B4.out) ?r12
   case y12 => obtain ⟨L,hL,hS⟩:=hw;obtain ⟨r4,x0,x1,x2,x3,x4,x5⟩:=hS.2;go_simp;(try with_reducible rfl)
   simp only [Act.put,List.setIfInBounds_toArray,List.set_cons_zero,List.set_cons_succ,List.getElem_toArray,List.getElem_cons_zero,List.getElem_cons_succ]
   refine anyT_take (i:=10) (p:=12) (v:=?v13) rfl rfl (by kernel_rfl) (fun L w => TillC_set (by decide) L w) (by kernel_rfl) (by kernel_rfl) (by kernel_rfl) (by kernel_rfl) (fun _ _ _ h => h) (Or.inl ⟨by rfl,fun w hw => ?y13⟩) (hSB B4.out) ?r13
   case y13 => obtain ⟨L,hL,hS⟩:=hw;obtain ⟨r4,x0,x1,x2,x3,x4,x5⟩:=hS.2;go_simp;(try with_reducible rfl)
   simp only [Act.put,List.setIfInBounds_toArray,List.set_cons_zero,List.set_cons_succ,List.getElem_toArray,List.getElem_cons_zero,List.getElem_cons_succ]
   have Q3:=rowZ_at Z4.out
   have z0:=cellAt Q3 0
   have f0:=frozenAt Q3 0
   have z1:=cellAt Q3 1
   have f1:=frozenAt Q3 1
   have z2:=cellAt Q3 2
   have f2:=frozenAt Q3 2
   have z3:=cellAt Q3 3
   have f3:=frozenAt Q3 3
   have z4:=cellAt Q3 4
   have f4:=frozenAt Q3 4
   have z5:=cellAt Q3 5
   have f5:=frozenAt Q3 5
   have z6:=cellAt Q3 6
   have f6:=frozenAt Q3 6
   have z7:=cellAt Q3 7
   have f7:=frozenAt Q3 7
   refine anyT_all (rs:=[12]) (by kernel_rfl) (by simp) ?_
   intro jj hj
   simp only [List.mem_singleton] at hj
   subst hj
   refine T_step rfl (fun K' hK => ?_)
   go_simp
   refine hK.out _ _ (hSB (BOX.out _ _ B4.out (by omega) Z4.out _ _ _ _ _ _ _ _)) ?_
   simp only [Act.put,List.setIfInBounds_toArray,List.set_cons_zero,List.set_cons_succ,List.getElem_toArray,List.getElem_cons_zero,List.getElem_cons_succ]
   refine anyT_done (by kernel_rfl) ?_ _
   go_wp2_with fail
   go_meet
   case rel => exact ⟨_,_,rfl,Lib.hid (ing_setG S4.out C4.out B4.out (by omega) Z4.out)⟩
 case rest =>
 clear hSB hS0 hsf
 obtain ⟨wb,hwb⟩:∃ x:World,x = wc:=⟨_,rfl⟩
 subst hwb
 obtain ⟨q,v',rfl,IC⟩:=hcut
 obtain ⟨pa,pc,rfl,-,-,-⟩:=IC.out.parts.shape
 have Bc:Hid (Below w.heap.size w wb):=Lib.hid ((B0.out.trans (B02.out.mono B0.out.size)).trans (IC.out.below.mono (by have:=B0.out.size;omega)))
 obtain ⟨s2,s4,s5,s6,x0,x1,x2,x3,x4,x5⟩:=KY.out wb IC.out.below
 have K10:Hid (∀ W:World,Below wb.heap.size wb W → W.cell? ⟨r,5,none⟩ = some (.slice ra n rcap) ∧ W.cell? ⟨q,0,none⟩ = some ((.float .f64 (stF X.now))) ∧ W.cell? ⟨q,1,none⟩ = some ((.int .i64 i.op)) ∧ W.cell? ⟨q,2,none⟩ = some ((.string i.path)) ∧ W.cell? ⟨q,3,none⟩ = some ((.string i.to)) ∧ W.cell? ⟨q,4,none⟩ = some ((.int .i64 i.off)) ∧ W.cell? ⟨q,5,none⟩ = some ((.int .i64 i.size)) ∧ W.cell? ⟨q,6,none⟩ = some ((.slice none 0 0)) ∧ W.cell? ⟨q,7,none⟩ = some ((.slice pa i.parts.length pc))):=Lib.hid (fun W hW => by
  have h1:W.heap[r]? = _:=Below.heap (Bc.out.trans (hW.mono Bc.out.size)) (Nat.le_refl _) HC.out
  have h2:W.heap[q]? = _:=Below.heap hW (Nat.le_refl _) IC.out.box
  exact ⟨cellAt h1 5,cellAt h2 0,cellAt h2 1,cellAt h2 2,cellAt h2 3,cellAt h2 4,cellAt h2 5,cellAt h2 6,cellAt h2 7⟩)
 obtain ⟨⟨v1a,waa,v2a,wfa,ra1,ba1,ra2,fa⟩,⟨v1b,wab,v2b,wfb,rb1,bb1,rb2,fb2⟩,⟨v1c,wac,v2c,wfc,rc1,bc1,rc2,fc⟩⟩:=rows_ordersG (wB:=wb) (its:=X.its) (i:=(X.now,i)) (ROW.out wb Bc.out) IC.out.parts rfl (by have:=hn.out;omega)
 have FA:=Lib.hid fa
 have FB:=Lib.hid fb2
 have FC:=Lib.hid fc
 have BA:=Lib.hid ba1
 have BB:=Lib.hid bb1
 have BC:=Lib.hid bc1
 simp only [rowOG] at ra1 ra2 rb1 rb2 rc1 rc2
 clear fa fb2 fc ba1 bb1 bc1 s2 s4 s5 s6 x0 x1 x2 x3 x4 x5
 obtain ⟨ga1,ka1,hva1⟩:∃ a k,v2a = .slice a (n + 1) k:=by
  obtain ⟨a,k,h,-⟩:=rowsG_cells FA.out.1
  exact ⟨a,k,by rw [h,List.length_append,hn.out];rfl⟩
 obtain ⟨gb1,kb1,hvb1⟩:∃ a k,v2b = .slice a (n + 1) k:=by
  obtain ⟨a,k,h,-⟩:=rowsG_cells FB.out.1
  exact ⟨a,k,by rw [h,List.length_append,hn.out];rfl⟩
 obtain ⟨gc1,kc1,hvc1⟩:∃ a k,v2c = .slice a (n + 1) k:=by
  obtain ⟨a,k,h,-⟩:=rowsG_cells FC.out.1
  exact ⟨a,k,by rw [h,List.length_append,hn.out];rfl⟩
 have G0:Hid (Below wb.heap.size wb wb.drew):=Lib.hid (Below.refl _ _).drew
 have G1:Hid (∀ o,Below wb.heap.size wb (wb.alloc o).drew):=Lib.hid (fun o => ((Below.refl _ _).alloc (Nat.le_refl _) o).drew)
 have G2:Hid (∀ o o2,Below wb.heap.size wb ((wb.alloc o).alloc o2).drew):=Lib.hid (fun o o2 => (((Below.refl _ _).alloc (Nat.le_refl _) o).alloc (by simp) o2).drew)
 have GA:Hid (∀ o,Below wb.heap.size wb (waa.alloc o)):=Lib.hid (fun o => BA.out.alloc BA.out.size o)
 go_upto_region 10 with fail
 have hSC:∀ {L:Array Bool} {W:World},Below wb.heap.size wb W → TillC 99 (fun _ => True) (fun W => W.cell? ⟨r,5,none⟩ = some (.slice ra n rcap) ∧ W.cell? ⟨q,0,none⟩ = some ((.float .f64 (stF X.now))) ∧ W.cell? ⟨q,1,none⟩ = some ((.int .i64 i.op)) ∧ W.cell? ⟨q,2,none⟩ = some ((.string i.path)) ∧ W.cell? ⟨q,3,none⟩ = some ((.string i.to)) ∧ W.cell? ⟨q,4,none⟩ = some ((.int .i64 i.off)) ∧ W.cell? ⟨q,5,none⟩ = some ((.int .i64 i.size)) ∧ W.cell? ⟨q,6,none⟩ = some ((.slice none 0 0)) ∧ W.cell? ⟨q,7,none⟩ = some ((.slice pa i.parts.length pc))) L W:=fun {L} {W} hW => ⟨fun _ => trivial,K10.out W hW⟩
 go_cut [9] from 14 (fun s9 wd => ∃ a k,s9 = .slice a (n + 1) k ∧ Hid (RowsFinG wb X.its (X.now,i) (.slice a (n + 1) k) wd))
 case first =>
  refine wp_region_T (TillC 99 (fun _ => True) (fun W => W.cell? ⟨r,5,none⟩ = some (.slice ra n rcap) ∧ W.cell? ⟨q,0,none⟩ = some ((.float .f64 (stF X.now))) ∧ W.cell? ⟨q,1,none⟩ = some ((.int .i64 i.op)) ∧ W.cell? ⟨q,2,none⟩ = some ((.string i.path)) ∧ W.cell? ⟨q,3,none⟩ = some ((.string i.to)) ∧ W.cell? ⟨q,4,none⟩ = some ((.int .i64 i.off)) ∧ W.cell? ⟨q,5,none⟩ = some ((.int .i64 i.size)) ∧ W.cell? ⟨q,6,none⟩ = some ((.slice none 0 0)) ∧ W.cell? ⟨q,7,none⟩ = some ((.slice pa i.parts.length pc)))) rfl ?_
  simp only [List.size_toArray,List.length_cons,List.length_nil,Nat.reduceAdd,Array.replicate_succ,Array.replicate_zero,List.push_toArray,List.nil_append,List.cons_append]
  refine anyT_take (i:=1) (p:=2) (v:=?v41) rfl rfl (by kernel_rfl) (fun L w => TillC_set (by decide) L w) (by kernel_rfl) (by kernel_rfl) (by kernel_rfl) (by kernel_rfl) (fun _ _ _ h => h) (Or.inl ⟨by rfl,fun w hw => ?y41⟩) (hSC G0.out) ?r41
  case y41 => obtain ⟨L,hL,hS⟩:=hw;obtain ⟨r5,q0,q1,q2,q3,q4,q5,q6,q7⟩:=hS.2;go_simp;(try with_reducible rfl)
  simp only [Act.put,List.setIfInBounds_toArray,List.set_cons_zero,List.set_cons_succ,List.getElem_toArray,List.getElem_cons_zero,List.getElem_cons_succ]
  refine anyT_take (i:=2) (p:=3) (v:=?v42) rfl rfl (by kernel_rfl) (fun L w => TillC_set (by decide) L w) (by kernel_rfl) (by kernel_rfl) (by kernel_rfl) (by kernel_rfl) (fun _ _ _ h => h) (Or.inl ⟨by rfl,fun w hw => ?y42⟩) (hSC G0.out) ?r42
  case y42 => obtain ⟨L,hL,hS⟩:=hw;obtain ⟨r5,q0,q1,q2,q3,q4,q5,q6,q7⟩:=hS.2;go_simp;(try with_reducible rfl)
  simp only [Act.put,List.setIfInBounds_toArray,List.set_cons_zero,List.set_cons_succ,List.getElem_toArray,List.getElem_cons_zero,List.getElem_cons_succ]
  refine anyT_take (i:=3) (p:=4) (v:=?v43) rfl rfl (by kernel_rfl) (fun L w => TillC_set (by decide) L w) (by kernel_rfl) (by kernel_rfl) (by kernel_rfl) (by kernel_rfl) (fun _ _ _ h => h) (Or.inl ⟨by rfl,fun w hw => ?y43⟩) (hSC G0.out) ?r43
  case y43 => obtain ⟨L,hL,hS⟩:=hw;obtain ⟨r5,q0,q1,q2,q3,q4,q5,q6,q7⟩:=hS.2;go_simp;(try with_reducible rfl)
  simp only [Act.put,List.setIfInBounds_toArray,List.set_cons_zero,List.set_cons_succ,List.getElem_toArray,List.getElem_cons_zero,List.getElem_cons_succ]
  refine anyT_take (i:=4) (p:=5) (v:=?v44) rfl rfl (by kernel_rfl) (fun L w => TillC_set (by decide) L w) (by kernel_rfl) (by kernel_rfl) (by kernel_rfl) (by kernel_rfl) (fun _ _ _ h => h) (Or.inl ⟨by rfl,fun w hw => ?y44⟩) (hSC G0.out) ?r44
  case y44 => obtain ⟨L,hL,hS⟩:=hw;obtain ⟨r5,q0,q1,q2,q3,q4,q5,q6,q7⟩:=hS.2;go_simp;(try with_reducible rfl)
  simp only [Act.put,List.setIfInBounds_toArray,List.set_cons_zero,List.set_cons_succ,List.getElem_toArray,List.getElem_cons_zero,List.getElem_cons_succ]
  refine anyT_take (i:=6) (p:=7) (v:=?v45) rfl rfl (by kernel_rfl) (fun L w => TillC_set (by decide) L w) (by kernel_rfl) (by kernel_rfl) (by kernel_rfl) (by kernel_rfl) (fun _ _ _ h => h) (Or.inl ⟨by rfl,fun w hw => ?y45⟩) (hSC G0.out) ?r45
  case y45 => obtain ⟨L,hL,hS⟩:=hw;obtain ⟨r5,q0,q1,q2,q3,q4,q5,q6,q7⟩:=hS.2;go_simp;(try with_reducible rfl)
  simp only [Act.put,List.setIfInBounds_toArray,List.set_cons_zero,List.set_cons_succ,List.getElem_toArray,List.getElem_cons_zero,List.getElem_cons_succ]
  refine anyT_all (rs:=[0,7]) (by kernel_rfl) (by simp) ?_
  intro jj hj
  simp only [List.mem_cons,List.not_mem_nil,or_false] at hj
  rcases hj with rfl | rfl
  ·refine T_step rfl (fun K' hK => ?_)
   go_simp
   refine hK.out _ _ (hSC (G1.out _)) ?_
   simp only [Act.put,List.setIfInBounds_toArray,List.set_cons_zero,List.set_cons_succ,List.getElem_toArray,List.getElem_cons_zero,List.getElem_cons_succ]
   refine anyT_all (rs:=[5,7]) (by kernel_rfl) (by simp) ?_
   intro jj hj
   simp only [List.mem_cons,List.not_mem_nil,or_false] at hj
   rcases hj with rfl | rfl
   ·refine T_step rfl (fun K' hK => ?_)
    refine step_append_run rfl _ _ 75 rfl _ _ ra1 ?_
    refine hK.out _ _ (hSC (BA.out)) ?_
    simp only [Act.put,List.setIfInBounds_toArray,List.set_cons_zero,List.set_cons_succ,List.getElem_toArray,List.getElem_cons_zero,List.getElem_cons_succ]
    refine anyT_all (rs:=[7]) (by kernel_rfl) (by simp) ?_
    intro jj hj
    simp only [List.mem_singleton] at hj
    subst hj
    refine T_step rfl (fun K' hK => ?_)
    go_simp
    refine hK.out _ _ (hSC (GA.out _)) ?_
    simp only [Act.put,List.setIfInBounds_toArray,List.set_cons_zero,List.set_cons_succ,List.getElem_toArray,List.getElem_cons_zero,List.getElem_cons_succ]
    refine anyT_all (rs:=[8]) (by kernel_rfl) (by simp) ?_
    intro jj hj
    simp only [List.mem_singleton] at hj
    subst hj
    refine T_step rfl (fun K' hK => ?_)
    refine step_append_run rfl _ _ 75 rfl _ _ ra2 ?_
    refine hK.out _ _ (hSC (FA.out.2)) ?_
    simp only [Act.put,List.setIfInBounds_toArray,List.set_cons_zero,List.set_cons_succ,List.getElem_toArray,List.getElem_cons_zero,List.getElem_cons_succ]
    refine anyT_all (rs:=[9]) (by kernel_rfl) (by simp) ?_
    intro jj hj
    simp only [List.mem_singleton] at hj
    subst hj
    refine T_step rfl (fun K' hK => ?_)
    go_simp
    refine hK.out _ _ (hSC FA.out.2) ?_
    simp only [Act.put,List.setIfInBounds_toArray,List.set_cons_zero,List.set_cons_succ,List.getElem_toArray,List.getElem_cons_zero,List.getElem_cons_succ]
    refine anyT_done (by kernel_rfl) ?_ _
    go_wp2_with fail
    go_meet
    case rel => exact ⟨ga1,ka1,rfl,Lib.hid (hva1 ▸ FA.out)⟩
   ·refine T_step rfl (fun K' hK => ?_)
    go_simp
    refine hK.out _ _ (hSC (G2.out _ _)) ?_
    simp only [Act.put,List.setIfInBounds_toArray,List.set_cons_zero,List.set_cons_succ,List.getElem_toArray,List.getElem_cons_zero,List.getElem_cons_succ]
    refine anyT_all (rs:=[5]) (by kernel_rfl) (by simp) ?_
    intro jj hj
    simp only [List.mem_singleton] at hj
    subst hj
    refine T_step rfl (fun K' hK => ?_)
    refine step_append_run rfl _ _ 75 rfl _ _ rb1 ?_
    refine hK.out _ _ (hSC (BB.out)) ?_
    simp only [Act.put,List.setIfInBounds_toArray,List.set_cons_zero,List.set_cons_succ,List.getElem_toArray,List.getElem_cons_zero,List.getElem_cons_succ]
    refine anyT_all (rs:=[8]) (by kernel_rfl) (by simp) ?_
    intro jj hj
    simp only [List.mem_singleton] at hj
    subst hj
    refine T_step rfl (fun K' hK => ?_)
    refine step_append_run rfl _ _ 75 rfl _ _ rb2 ?_
    refine hK.out _ _ (hSC (FB.out.2)) ?_
    simp only [Act.put,List.setIfInBounds_toArray,List.set_cons_zero,List.set_cons_succ,List.getElem_toArray,List.getElem_cons_zero,List.getElem_cons_succ]
    refine anyT_all (rs:=[9]) (by kernel_rfl) (by simp) ?_
    intro jj hj
    simp only [List.mem_singleton] at hj
    subst hj
    refine T_step rfl (fun K' hK => ?_)
    go_simp
    refine hK.out _ _ (hSC FB.out.2) ?_
    simp only [Act.put,List.setIfInBounds_toArray,List.set_cons_zero,List.set_cons_succ,List.getElem_toArray,List.getElem_cons_zero,List.getElem_cons_succ]
    refine anyT_done (by kernel_rfl) ?_ _
    go_wp2_with fail
    go_meet
    case rel => exact ⟨gb1,kb1,rfl,Lib.hid (hvb1 ▸ FB.out)⟩
  ·refine T_step rfl (fun K' hK => ?_)
   go_simp
   refine hK.out _ _ (hSC (G1.out _)) ?_
   simp only [Act.put,List.setIfInBounds_toArray,List.set_cons_zero,List.set_cons_succ,List.getElem_toArray,List.getElem_cons_zero,List.getElem_cons_succ]
   refine anyT_all (rs:=[0]) (by kernel_rfl) (by simp) ?_
   intro jj hj
   simp only [List.mem_singleton] at hj
   subst hj
   refine T_step rfl (fun K' hK => ?_)
   go_simp
   refine hK.out _ _ (hSC (G2.out _ _)) ?_
   simp only [Act.put,List.setIfInBounds_toArray,List.set_cons_zero,List.set_cons_succ,List.getElem_toArray,List.getElem_cons_zero,List.getElem_cons_succ]
   refine anyT_all (rs:=[5]) (by kernel_rfl) (by simp) ?_
   intro jj hj
   simp only [List.mem_singleton] at hj
   subst hj
   refine T_step rfl (fun K' hK => ?_)
   refine step_append_run rfl _ _ 75 rfl _ _ rc1 ?_
   refine hK.out _ _ (hSC (BC.out)) ?_
   simp only [Act.put,List.setIfInBounds_toArray,List.set_cons_zero,List.set_cons_succ,List.getElem_toArray,List.getElem_cons_zero,List.getElem_cons_succ]
   refine anyT_all (rs:=[8]) (by kernel_rfl) (by simp) ?_
   intro jj hj
   simp only [List.mem_singleton] at hj
   subst hj
   refine T_step rfl (fun K' hK => ?_)
   refine step_append_run rfl _ _ 75 rfl _ _ rc2 ?_
   refine hK.out _ _ (hSC (FC.out.2)) ?_
   simp only [Act.put,List.setIfInBounds_toArray,List.set_cons_zero,List.set_cons_succ,List.getElem_toArray,List.getElem_cons_zero,List.getElem_cons_succ]
   refine anyT_all (rs:=[9]) (by kernel_rfl) (by simp) ?_
   intro jj hj
   simp only [List.mem_singleton] at hj
   subst hj
   refine T_step rfl (fun K' hK => ?_)
   go_simp
   refine hK.out _ _ (hSC FC.out.2) ?_
   simp only [Act.put,List.setIfInBounds_toArray,List.set_cons_zero,List.set_cons_succ,List.getElem_toArray,List.getElem_cons_zero,List.getElem_cons_succ]
   refine anyT_done (by kernel_rfl) ?_ _
   go_wp2_with fail
   go_meet
   case rel => exact ⟨gc1,kc1,rfl,Lib.hid (hvc1 ▸ FC.out)⟩
 case rest =>
 clear hSC ra1 ra2 rb1 rb2 rc1 rc2 hva1 hvb1 hvc1 FA FB FC BA BB BC GA G0 G1 G2
 obtain ⟨wd,hwd⟩:∃ x:World,x = wc:=⟨_,rfl⟩
 subst hwd
 obtain ⟨ga,ka,rfl,RF⟩:=hcut
 have RFr:Hid (RowsGV wd (.slice ga (n + 1) ka) (X.its ++ [(X.now,i)])):=Lib.hid RF.out.1
 have Bd:Hid (Below w.heap.size w wd):=Lib.hid (Bc.out.trans (RF.out.2.mono Bc.out.size))
 have BW:Hid (∀ W,Below wd.heap.size wd W → Below wb.heap.size wb W ∧ Below w.heap.size w W):=Lib.hid (fun W hW => ⟨RF.out.2.trans (hW.mono RF.out.2.size),Bd.out.trans (hW.mono Bd.out.size)⟩)
 have K15:Hid (∀ W:World,Below wd.heap.size wd W → W.cell? ⟨r,6,none⟩ = some (.pointer (some ⟨X.y.s,0,none⟩)) ∧ W.cell? ⟨q,1,none⟩ = some ((.int .i64 i.op)) ∧ W.cell? ⟨q,2,none⟩ = some ((.string i.path)) ∧ W.cell? ⟨q,3,none⟩ = some ((.string i.to)) ∧ W.cell? ⟨q,4,none⟩ = some ((.int .i64 i.off)) ∧ W.cell? ⟨q,5,none⟩ = some ((.int .i64 i.size)) ∧ W.cell? ⟨q,6,none⟩ = some ((.slice none 0 0)) ∧ W.cell? ⟨q,7,none⟩ = some ((.slice pa i.parts.length pc))):=Lib.hid (fun W hW => by
  have h1:W.heap[r]? = _:=Below.heap (BW.out W hW).2 (Nat.le_refl _) HC.out
  have h2:W.heap[q]? = _:=Below.heap (BW.out W hW).1 (Nat.le_refl _) IC.out.box
  exact ⟨cellAt h1 6,cellAt h2 1,cellAt h2 2,cellAt h2 3,cellAt h2 4,cellAt h2 5,cellAt h2 6,cellAt h2 7⟩)
 go_wp2_with (go_at_call 28;with_reducible refine (BT.out _ _ Bd.out RFr.out).mono ?_;rintro e1 w4 ⟨rfl,hq⟩;have B4:=Lib.hid (Bd.out.trans (hq.mono Bd.out.size));clear hq)
 go_ret2
 exact ⟨rfl,B4.out⟩
end Go.Proofs.YtaonlcgneemimaaGreatDoor
namespace Go.Proofs.YtaonlcgneemimaaGreatDoor
open Go.RowKit
set_option maxRecDepth 100000 in
set_option maxHeartbeats 4000000 in
theorem ingestErr_g (w:World) (r:Nat) (X:RepXG) (H:RepG w r X) (ev:ItemA) (da:Option Addr) (dn dc:Nat) (hck:checkG X.y.x.T X.y.x.n ev.op ev.path ev.to ev.off ev.size dn ≠ 0) (hep:ev.path.size ≤ 1000000 ∧ ev.to.size ≤ 1000000) (hdn:dn ≤ 9223372036854775807) :
  Calls Tryz.prog 9 #[.pointer (some ⟨r,0,none⟩),.agg #[.int .i64 ev.op,.string ev.path,.string ev.to,.int .i64 ev.off,.int .i64 ev.size,.slice da dn dc]] w fun e w' => e = .returned (.tuple #[.int .i64 0,.int .i64 (checkG X.y.x.T X.y.x.n ev.op ev.path ev.to ev.off ev.size dn)]) ∧ Below w.heap.size w w':=by
 obtain ⟨c,hc⟩:∃ c,Hid (c = checkG X.y.x.T X.y.x.n ev.op ev.path ev.to ev.off ev.size dn):=⟨_,Lib.hid rfl⟩
 have CK:Hid (∀ W,Below w.heap.size w W → Calls Tryz.prog 23 #[.pointer (some ⟨X.y.s,0,none⟩),.agg #[.int .i64 ev.op,.string ev.path,.string ev.to,.int .i64 ev.off,.int .i64 ev.size,.slice da dn dc]] W fun e w' => e = .returned (.int .i64 c) ∧ Below W.heap.size W w'):=Lib.hid (fun W hW => by rw [hc.out];exact checkS_g W X.Ky X.y (H.st.below hW) ev.op ev.path ev.to hep.1 hep.2 ev.off ev.size da dn dc hdn)
 rw [← hc.out] at hck ⊢
 have d1:(c == 0) = false:=by simpa using hck
 have d2:(c != 0) = true:=by simpa using hck
 have HC:=Lib.hid H.cell
 obtain ⟨W0,hW0⟩:∃ W0,Hid (W0 = (w.alloc (.cells #[.int .i64 ev.op,.string ev.path,.string ev.to,.int .i64 ev.off,.int .i64 ev.size,.slice da dn dc] 35))):=⟨_,Lib.hid rfl⟩
 have B0:Hid (Below w.heap.size w W0):=Lib.hid (by rw [hW0.out];exact (Below.refl _ _).alloc (Nat.le_refl _) _)
 have KX:Hid (∀ W:World,Below W0.heap.size W0 W → W.cell? ⟨r,6,none⟩ = some (.pointer (some ⟨X.y.s,0,none⟩)) ∧ W.cell? ⟨w.heap.size,0,none⟩ = some (.int .i64 ev.op) ∧ W.cell? ⟨w.heap.size,1,none⟩ = some (.string ev.path) ∧ W.cell? ⟨w.heap.size,2,none⟩ = some (.string ev.to) ∧ W.cell? ⟨w.heap.size,3,none⟩ = some (.int .i64 ev.off) ∧ W.cell? ⟨w.heap.size,4,none⟩ = some (.int .i64 ev.size) ∧ W.cell? ⟨w.heap.size,5,none⟩ = some (.slice da dn dc)):=Lib.hid (fun W hW => by
  have h1:W.heap[r]? = _:=Below.heap (B0.out.trans (hW.mono B0.out.size)) (Nat.le_refl _) HC.out
  have h0:W0.heap[w.heap.size]? = some (.cells #[.int .i64 ev.op,.string ev.path,.string ev.to,.int .i64 ev.off,.int .i64 ev.size,.slice da dn dc] 35 (0,0)):=by rw [hW0.out];exact heap_new _ _
  have h2:W.heap[w.heap.size]? = _:=Below.heap hW (Nat.le_refl _) h0
  exact ⟨cellAt h1 6,cellAt h2 0,cellAt h2 1,cellAt h2 2,cellAt h2 3,cellAt h2 4,cellAt h2 5⟩)
 have R0:Hid (Below W0.heap.size W0 W0.drew):=Lib.hid (Below.refl _ _).drew
 have S0d:=KX.out W0.drew (Below.refl _ _).drew
 obtain ⟨s6,x0,x1,x2,x3,x4,x5⟩:=S0d
 have hw0:=hW0.out
 clear H hck hep hdn
 go_enter Tryz.func9,Tryz.ntmps9
 go_wp2_with fail
 rw [← hw0]
 clear hw0
 go_region_held3 (fun W => W.cell? ⟨r,6,none⟩ = some (.pointer (some ⟨X.y.s,0,none⟩)) ∧ W.cell? ⟨w.heap.size,0,none⟩ = some (.int .i64 ev.op) ∧ W.cell? ⟨w.heap.size,1,none⟩ = some (.string ev.path) ∧ W.cell? ⟨w.heap.size,2,none⟩ = some (.string ev.to) ∧ W.cell? ⟨w.heap.size,3,none⟩ = some (.int .i64 ev.off) ∧ W.cell? ⟨w.heap.size,4,none⟩ = some (.int .i64 ev.size) ∧ W.cell? ⟨w.heap.size,5,none⟩ = some (.slice da dn dc)) (first | exact ⟨s6,x0,x1,x2,x3,x4,x5⟩ | exact KX.out _ B1.out) (first | (go_at_call 23;with_reducible refine (CK.out _ B0.out.drew).mono ?_;rintro e1 w1 ⟨rfl,hq⟩;have B1:Hid (Below W0.heap.size W0 w1):=Lib.hid (R0.out.trans (hq.mono R0.out.size));clear hq))
 go_wp2_with fail
 go_ret2
 exact ⟨rfl,B0.out.trans (B1.out.mono B0.out.size)⟩
set_option maxRecDepth 100000 in
set_option maxHeartbeats 4000000 in
theorem ingestMarked_g (w:World) (r:Nat) (X:RepXG) (H:RepG w r X) (ev:ItemA) (da:Option Addr) (dn dc:Nat) (hck:checkG X.y.x.T X.y.x.n ev.op ev.path ev.to ev.off ev.size dn = 0) (hep:ev.path.size ≤ 1000000 ∧ ev.to.size ≤ 1000000) (hdn:dn ≤ 9223372036854775807) (h8:ev.op = 8) (hne:ev.path ≠ ⟨#[]⟩) (hmk:markedB (allPts X.xs X.its) ev.path = true) (hfew:X.its.length ≤ 9999) :
  Calls Tryz.prog 9 #[.pointer (some ⟨r,0,none⟩),.agg #[.int .i64 ev.op,.string ev.path,.string ev.to,.int .i64 ev.off,.int .i64 ev.size,.slice da dn dc]] w fun e w' => e = .returned (.tuple #[.int .i64 0,.int .i64 11]) ∧ Below w.heap.size w w':=by
 have CK:Hid (∀ W,Below w.heap.size w W → Calls Tryz.prog 23 #[.pointer (some ⟨X.y.s,0,none⟩),.agg #[.int .i64 ev.op,.string ev.path,.string ev.to,.int .i64 ev.off,.int .i64 ev.size,.slice da dn dc]] W fun e w' => e = .returned (.int .i64 0) ∧ Below W.heap.size W w'):=Lib.hid (fun W hW => by rw [← hck];exact checkS_g W X.Ky X.y (H.st.below hW) ev.op ev.path ev.to hep.1 hep.2 ev.off ev.size da dn dc hdn)
 have MK:Hid (∀ W,Below w.heap.size w W → Calls Tryz.prog 24 #[.pointer (some ⟨r,0,none⟩),.string ev.path] W fun e w' => e = .returned (.bool true) ∧ Below W.heap.size W w'):=Lib.hid (fun W hW => by rw [← hmk];exact marked_g W r X (H.below hW) ev.path hne (by omega))
 have d8:(ev.op == 8) = true:=by simpa using h8
 have HC:=Lib.hid H.cell
 obtain ⟨W0,hW0⟩:∃ W0,Hid (W0 = (w.alloc (.cells #[.int .i64 ev.op,.string ev.path,.string ev.to,.int .i64 ev.off,.int .i64 ev.size,.slice da dn dc] 35))):=⟨_,Lib.hid rfl⟩
 have B0:Hid (Below w.heap.size w W0):=Lib.hid (by rw [hW0.out];exact (Below.refl _ _).alloc (Nat.le_refl _) _)
 have KX:Hid (∀ W:World,Below W0.heap.size W0 W → W.cell? ⟨r,6,none⟩ = some (.pointer (some ⟨X.y.s,0,none⟩)) ∧ W.cell? ⟨w.heap.size,0,none⟩ = some (.int .i64 ev.op) ∧ W.cell? ⟨w.heap.size,1,none⟩ = some (.string ev.path) ∧ W.cell? ⟨w.heap.size,2,none⟩ = some (.string ev.to) ∧ W.cell? ⟨w.heap.size,3,none⟩ = some (.int .i64 ev.off) ∧ W.cell? ⟨w.heap.size,4,none⟩ = some (.int .i64 ev.size) ∧ W.cell? ⟨w.heap.size,5,none⟩ = some (.slice da dn dc)):=Lib.hid (fun W hW => by
  have h1:W.heap[r]? = _:=Below.heap (B0.out.trans (hW.mono B0.out.size)) (Nat.le_refl _) HC.out
  have h0:W0.heap[w.heap.size]? = some (.cells #[.int .i64 ev.op,.string ev.path,.string ev.to,.int .i64 ev.off,.int .i64 ev.size,.slice da dn dc] 35 (0,0)):=by rw [hW0.out];exact heap_new _ _
  have h2:W.heap[w.heap.size]? = _:=Below.heap hW (Nat.le_refl _) h0
  exact ⟨cellAt h1 6,cellAt h2 0,cellAt h2 1,cellAt h2 2,cellAt h2 3,cellAt h2 4,cellAt h2 5⟩)
 have R0:Hid (Below W0.heap.size W0 W0.drew):=Lib.hid (Below.refl _ _).drew
 have S0d:=KX.out W0.drew (Below.refl _ _).drew
 obtain ⟨s6,x0,x1,x2,x3,x4,x5⟩:=S0d
 have hw0:=hW0.out
 clear H hck hep hdn h8 hne hmk
 go_enter Tryz.func9,Tryz.ntmps9
 go_wp2_with fail
 rw [← hw0]
 clear hw0
 go_region_held3 (fun W => W.cell? ⟨r,6,none⟩ = some (.pointer (some ⟨X.y.s,0,none⟩)) ∧ W.cell? ⟨w.heap.size,0,none⟩ = some (.int .i64 ev.op) ∧ W.cell? ⟨w.heap.size,1,none⟩ = some (.string ev.path) ∧ W.cell? ⟨w.heap.size,2,none⟩ = some (.string ev.to) ∧ W.cell? ⟨w.heap.size,3,none⟩ = some (.int .i64 ev.off) ∧ W.cell? ⟨w.heap.size,4,none⟩ = some (.int .i64 ev.size) ∧ W.cell? ⟨w.heap.size,5,none⟩ = some (.slice da dn dc)) (first | exact ⟨s6,x0,x1,x2,x3,x4,x5⟩ | exact KX.out _ B1.out) (first | (go_at_call 23;with_reducible refine (CK.out _ B0.out.drew).mono ?_;rintro e1 w1 ⟨rfl,hq⟩;have B1:Hid (Below W0.heap.size W0 w1):=Lib.hid (R0.out.trans (hq.mono R0.out.size));clear hq))
 have SA:=KX.out w1 B1.out
 clear s6 x0 x1 x2 x3 x4 x5
 obtain ⟨s6,x0,x1,x2,x3,x4,x5⟩:=SA
 have Bw1:Hid (Below w.heap.size w w1):=Lib.hid (B0.out.trans (B1.out.mono B0.out.size))
 go_wp2_with (go_at_call 24;with_reducible refine (MK.out _ Bw1.out).mono ?_;rintro e1 w2 ⟨rfl,hq⟩;have B2:=Lib.hid (Bw1.out.trans (hq.mono Bw1.out.size));clear hq)
 go_ret2
 exact ⟨rfl,B2.out⟩
end Go.Proofs.YtaonlcgneemimaaGreatDoor
