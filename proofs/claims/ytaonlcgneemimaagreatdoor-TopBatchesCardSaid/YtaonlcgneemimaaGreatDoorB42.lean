/- TopBatches: the contracts of AC4, AC5, AC6, AC7, AX1, AX2, AC8; no condition. -/
import Derived.Test.YtaonlcgneemimaaGreatDoorB41
import Derived.Test.YtaonlcgneemimaaGreatDoorB37
import Derived.Test.YtaonlcgneemimaaGreatDoorB24
import Derived.Test.YtaonlcgneemimaaGreatDoorB21
namespace Go.Proofs.YtaonlcgneemimaaGreatDoor
open Go.RowKit
theorem pcs_ev (w:World) (ev:ItemA) (P:List (List Int)) (da:Option Addr) (dn dc:Nat) (zs:List Int) (hA:ArgB w da dn dc zs) (hn:ev.op = 3 → dn ≤ 1024) (hP:P.length ≤ 50000) :
  PcsOkG w ev (evParts P ev (zs.take dn)) da dn dc P (evP P ev (zs.take dn)):=by
 intro W B c bl bb vs fb m sz hW hc hB
 by_cases o:ev.op = 3
 ·obtain ⟨hbx,hbl⟩:=hA.byt (by have:=hn o;omega)
  have h:=pieces_all W B c P bl bb vs fb m sz hc hB da dn dc (zs.take dn) (hbx.below hW) hbl hbx.byteL (by have:=hn o;omega) ev.path ev.to ev.off ev.size
  unfold evParts evP
  rw [if_pos o,if_pos o,o]
  exact h
 ·unfold evParts evP
  rw [if_neg o,if_neg o]
  refine (pieces_none W (some ⟨c,0,none⟩) ev.op o ev.path ev.to ev.off ev.size da dn dc).mono ?_
  rintro e w' ⟨rfl,hq⟩
  exact ⟨_,rfl,Sl.nil _ _ _,⟨vs,fb,m,sz,hc.below hq,.refl _ _⟩,hq.mono hB,.of_below hq⟩
def Big (R:List RowA) (P:List (List Int)) (e:EvR) (m j:Nat):Prop:=16384 < (recordG (m + 1) (R.drop m ++ [(j,evItem P e.ev e.data)])).length
structure IngI (w:World) (r:Nat) (X:RepXG) (R:List RowA) (P:List (List Int)) (m j:Nat) (e:EvR) (w':World) (X':RepXG):Prop where
 rep:RepI w' r X' (R ++ [(j,evItem P e.ev e.data)]) (evP P e.ev e.data) m j
 fr:Frame (X.m1 r) w w'
 grow:∀ k,X'.owns r k → X.owns r k ∨ w.heap.size ≤ k
 same:X'.x = X.x
theorem ingest_i (w:World) (r:Nat) (X:RepXG) (R:List RowA) (P:List (List Int)) (m j:Nat) (h:RepI w r X R P m j) {b:Nat} (hp:RowsP R P b) (hj:b + 1 ≤ 30) (hjb:j ≤ b) (e:EvR) (hs:e.ev.path.size ≤ 300 ∧ e.ev.to.size ≤ 300) (da:Option Addr) (dc:Nat) (hA:ArgB w da e.dn dc e.zs) (hdn:e.dn ≤ 9223372036854775807) :
  Calls Tryz.prog 9 #[.pointer (some ⟨r,0,none⟩),.agg #[.int .i64 e.ev.op,.string e.ev.path,.string e.ev.to,.int .i64 e.ev.off,.int .i64 e.ev.size,.slice da e.dn dc]] w fun en w' =>
   (refuseC R e ≠ 0 ∧ en = .returned (.tuple #[.int .i64 0,.int .i64 (refuseC R e)]) ∧ Below w.heap.size w w') ∨
   (refuseC R e = 0 ∧ Big R P e m j ∧ en = .returned (.tuple #[.int .i64 0,.int .i64 12]) ∧ Below w.heap.size w w') ∨
   (refuseC R e = 0 ∧ ¬ Big R P e m j ∧ en = .returned (.tuple #[.int .i64 ((R.length:Int) + 1),.int .i64 0]) ∧ ∃ X',IngI w r X R P m j e w' X'):=by
 have hep:e.ev.path.size ≤ 1000000 ∧ e.ev.to.size ≤ 1000000:=by omega
 have hyx:=h.yx
 have hlen:=hp.len
 have hxl:=h.len
 have hits:X.its.length ≤ 30:=by rw [h.its,List.length_drop];omega
 by_cases hc1:checkG X.y.x.T X.y.x.n e.ev.op e.ev.path e.ev.to e.ev.off e.ev.size e.dn ≠ 0
 ·have hrc:refuseC R e = checkG X.y.x.T X.y.x.n e.ev.op e.ev.path e.ev.to e.ev.off e.ev.size e.dn:=by
   rw [hyx] at hc1 ⊢
   unfold refuseC
   rw [if_pos hc1]
  refine (ingestErr_g w r X h.rep e.ev da e.dn dc hc1 hep hdn).mono ?_
  rintro en w' ⟨he,hb⟩
  exact .inl ⟨by rw [hrc];exact hc1,by rw [hrc];exact he,hb⟩
 have hc1:checkG X.y.x.T X.y.x.n e.ev.op e.ev.path e.ev.to e.ev.off e.ev.size e.dn = 0:=by simpa using hc1
 have hc1':=hc1
 rw [hyx] at hc1'
 have hn0:=ev_nice hc1
 by_cases hc2:e.ev.op = 8 ∧ markedB (R.map rowPt) e.ev.path = true
 ·have hrc:refuseC R e = 11:=by
   unfold refuseC
   rw [if_neg (by simpa using hc1'),if_pos hc2]
  have hne:e.ev.path ≠ ⟨#[]⟩:=fun e0 => by
   have h1:=nameOk_size (hn0.nm hc2.1)
   rw [e0] at h1
   have:(⟨#[]⟩:ByteArray).size = 0:=rfl
   omega
  refine (ingestMarked_g w r X h.rep e.ev da e.dn dc hc1 hep hdn hc2.1 hne (by rw [h.all];exact hc2.2) (by omega)).mono ?_
  rintro en w' ⟨he,hb⟩
  exact .inl ⟨by rw [hrc];decide,by rw [hrc];exact he,hb⟩
 have hrc:refuseC R e = 0:=by
  unfold refuseC
  rw [if_neg (by simpa using hc1'),if_neg hc2]
 have hd:e.data.length = e.dn:=by
  unfold EvR.data
  rw [List.length_take]
  have:=hA.2.1
  omega
 have hck0:∀ r ∈ R,r.1 ≤ j:=fun x hx => by
  have:=h.rep.clock.2 (rowPt x) (by rw [h.all];exact List.mem_map_of_mem hx)
  have h9:=h.now
  have:x.1 ≤ X.now:=this
  omega
 obtain ⟨hR',hok,hgood,hnice,hmk,hpts⟩:=hp.more hj hjb hck0 hrc hd
 have hP50:P.length ≤ 50000:=by have:=hp.plen;have:=hp.j30;omega
 have hpc:=pcs_ev w e.ev P da e.dn dc e.zs hA (fun o => (hn0.wr o).2.2) hP50
 have hnow:=h.now
 have hXP:=h.hP
 have hallp:PtsOk (allPts X.xs (X.its ++ [(X.now,evItem P e.ev e.data)])):=by
  have e1:allPts X.xs (X.its ++ [(X.now,evItem P e.ev e.data)]) = R.map rowPt ++ [(j,markOf (evItem P e.ev e.data))]:=by
   rw [← h.all,hnow]
   unfold allPts
   rw [List.map_append,List.append_assoc]
   rfl
  rw [e1]
  exact hpts
 have hrec:(recordG (X.xs.length + 1) (X.its ++ [(X.now,evItem P e.ev e.data)])) = recordG (m + 1) (R.drop m ++ [(j,evItem P e.ev e.data)]):=by rw [hxl,h.its,hnow]
 have hlong:(recordG (m + 1) (R.drop m ++ [(j,evItem P e.ev e.data)])).length ≤ 700000:=by
  have:=h.hm
  refine record_long _ _ (by omega) (fun i hi => ?_) (by simp;omega)
  rcases List.mem_append.1 hi with hi | hi
  ·have hi:=List.mem_of_mem_drop hi
   exact ⟨hp.good i hi,hp.parts i hi⟩
  ·simp only [List.mem_singleton] at hi
   subst hi
   exact ⟨hgood,evParts_few P e.ev e.data (fun o => (hnice.wr o).2.2)⟩
 have hokX:OkG X.y.x X.Ky (evItem P e.ev e.data):=by rw [hyx,h.Ky];exact hok
 by_cases hbig:Big R P e m j
 ·refine (ingestFull_g w r X h.rep e.ev (evItem P e.ev e.data) rfl (evP P e.ev e.data) da e.dn dc hc1 hep hokX hgood (fun o => ⟨(hmk o).1,by rw [h.all];exact (hmk o).2⟩) hallp hdn (by rw [hXP];exact hpc) (by rw [hrec];exact hlong) (by rw [hrec];exact hbig) (by omega)).mono ?_
  rintro en w' ⟨he,hb⟩
  exact .inr (.inl ⟨hrc,hbig,he,hb⟩)
 ·refine (ingest_g w r X h.rep e.ev (evItem P e.ev e.data) rfl (evP P e.ev e.data) da e.dn dc hc1 hep hokX hgood (fun o => ⟨(hmk o).1,by rw [h.all];exact (hmk o).2⟩) hallp hdn (by rw [hXP];exact hpc) (by rw [hrec];unfold Big at hbig;omega) (by omega)).mono ?_
  rintro en w' ⟨he,c',bl',bb',vs',fb',m',sz',rv',nb',g',h1,h2,h3,h4,h5,h6,h7⟩
  have hen:(X.xs.length:Int) + X.its.length + 1 = (R.length:Int) + 1:=by
   have h8:X.its.length = R.length - m:=by rw [h.its,List.length_drop]
   have:=h.hm
   omega
  rw [hen] at he
  refine .inr (.inr ⟨hrc,hbig,he,_,⟨h1,rfl,?_,?_,fun k z hz => ?_,?_,hnow,?_,h.eng,fun _ => ?_⟩,h2,fun k hk => ?_,rfl⟩)
  ·rw [List.length_append]
   have:=h.hm
   omega
  ·show X.xs.map HsX.pt = _
   rw [h.pts,List.take_append_of_le_length h.hm]
  ·have hk:k < m:=by
    have:=(List.getElem?_eq_some_iff.1 hz).1
    have h9:X.xs.length = m:=hxl
    have:k < X.xs.length:=this
    omega
   rw [List.take_append_of_le_length (by have:=h.hm;omega)]
   exact h.st k z hz
  ·show X.its ++ [(X.now,evItem P e.ev e.data)] = _
   rw [h.its,hnow,List.drop_append_of_le_length h.hm]
  ·show X.K = _
   rw [h.K,List.take_append_of_le_length h.hm]
  ·rw [List.drop_append_of_le_length h.hm]
   unfold Big at hbig
   omega
  ·rcases hk with hk | hk | hk | hk | hk | hk | hk | hk | ⟨q,v,hv,hg⟩
   ·exact .inl (.inl hk)
   ·exact .inl (.inr (.inl hk))
   ·exact .inl (.inr (.inr (.inl hk)))
   ·exact .inl (.inr (.inr (.inr (.inl hk))))
   ·exact .inr (hk ▸ h5)
   ·exact .inr (hk ▸ h6)
   ·exact .inr (hk ▸ h4)
   ·exact .inl (.inr (.inr (.inr (.inr (.inr (.inr (.inr (.inl hk))))))))
   ·exact .inr (h7 q v k hv hg)
end Go.Proofs.YtaonlcgneemimaaGreatDoor
namespace Go.Proofs.YtaonlcgneemimaaGreatDoor
open Go.RowKit
set_option maxRecDepth 100000 in
set_option maxHeartbeats 1000000 in
theorem commitNone_g (w:World) (r:Nat) (X:RepXG) (H:RepG w r X) (hi:X.its = []) :
  Calls Tryz.prog 10 #[.pointer (some ⟨r,0,none⟩)] w fun e w' => e = .returned (.int .i64 0) ∧ w' = w:=by
 obtain ⟨ra,rcap,hrv,-,-,-⟩:=rowsG_cells H.rows
 have c5:=cellAt H.cell 5
 simp only [List.getElem?_toArray,List.getElem?_cons_zero,List.getElem?_cons_succ] at c5
 rw [hrv,hi] at c5
 simp only [List.length_nil] at c5
 clear H hrv hi
 go_enter Tryz.func10,Tryz.ntmps10
 go_wp2_with fail
 go_ret
 exact ⟨rfl,rfl⟩
structure ComI (w:World) (r:Nat) (X:RepXG) (R:List RowA) (P:List (List Int)) (j:Nat) (w':World) (X':RepXG):Prop where
 rep:RepI w' r X' R P R.length j
 fr:Frame (X.mu r) w w'
 grow:∀ k,X'.owns r k → X.owns r k ∨ w.heap.size ≤ k
theorem commit_i (w:World) (r:Nat) (X:RepXG) (R:List RowA) (P:List (List Int)) (m j:Nat) (h:RepI w r X R P m j) {j':Nat} (hp:RowsP R P j') :
  Calls Tryz.prog 10 #[.pointer (some ⟨r,0,none⟩)] w fun e w' => ∃ c:Int,e = .returned (.int .i64 c) ∧ (c = 0 → ∃ X',ComI w r X R P j w' X') ∧ (c ≠ 0 → Below w.heap.size w w') ∧ (RoomG X → c = 0):=by
 have hxl:=h.len
 have hm:=h.hm
 have hj:=hp.len
 have hj30:=hp.j30
 by_cases hmR:m = R.length
 ·have hi:X.its = []:=by rw [h.its,hmR];simp
  refine (commitNone_g w r X h.rep hi).mono ?_
  rintro e w' ⟨rfl,rfl⟩
  exact ⟨0,rfl,fun _ => ⟨X,hmR ▸ h,Frame.refl _ _,fun k hk => .inl hk⟩,fun hc => absurd rfl hc,fun _ => rfl⟩
 ·have hlt:m < R.length:=by omega
  have hil:X.its.length = R.length - m:=by rw [h.its,List.length_drop]
  have hne:X.its ≠ []:=fun e0 => by rw [e0] at hil;simp at hil;omega
  have hPl:=hp.plen
  refine (commit_g w r X h.rep hne ?_ (by omega) (by rw [h.hP];omega) (by have:=h.eng.2.2;omega) (by rw [h.eng.1];omega) (by have:=h.eng.2.1;omega)).mono ?_
  ·rw [hxl,h.its]
   exact h.short (by rw [← h.its];exact hne)
  rintro e w' ⟨c,rfl,hz,hn,hroom⟩
  refine ⟨c,rfl,fun hc => ?_,hn,hroom⟩
  obtain ⟨x',pv,sv,zs,dn,df,T,a1,a2,a3,a4,a5,a6,a7,a8,a9,a10⟩:=hz hc
  have e1:X.P = P:=h.hP
  refine ⟨_,⟨a1,h.hP,Nat.le_refl _,?_,fun k z hz => ?_,?_,h.now,?_,?_,fun hx => ?_⟩,a2,fun k hk => ?_⟩
  ·show (X.xs ++ zs).map HsX.pt = _
   rw [List.map_append,h.pts,a7,h.its,← List.map_append,List.take_append_drop,List.take_length]
  ·have hz:(X.xs ++ zs)[k]? = some z:=hz
   by_cases hk:k < m
   ·rw [List.getElem?_append_left (by omega)] at hz
    exact h.st k z hz
   ·rw [List.getElem?_append_right (by omega)] at hz
    rw [a6 _ z hz,h.last,stepAllG_append,h.its,hxl]
    have e:k + 1 = m + (k - m + 1):=by omega
    rw [e]
    exact congrArg _ (List.take_add (l:=R) (i:=m) (j:=k - m + 1)).symm
  ·show ([]:List RowA) = _
   simp
  ·show X.Ky = _
   rw [h.Ky,List.take_length]
  ·refine ⟨a10.k,?_,?_⟩
   ·show x'.number ≤ _
    have:=a10.number
    have:=h.eng.2.1
    omega
   ·show dn ≤ _
    have:=h.eng.2.2
    rw [e1] at a9
    omega
  ·exact absurd (by simp) hx
  ·rcases hk with hk | hk | hk | ⟨z,hz,hk⟩ | hk | hk | hk | hk | ⟨q,v,hv,hg⟩
   ·rcases a3 k hk with h1 | h1
    ·exact .inl (.inl h1)
    ·exact .inr h1
   ·exact .inl (.inr (.inl hk))
   ·exact .inl (.inr (.inr (.inl hk)))
   ·rcases List.mem_append.1 hz with hz | hz
    ·exact .inl (.inr (.inr (.inr (.inl ⟨z,hz,hk⟩))))
    ·exact .inr (a4 z hz k hk)
   ·exact .inl (.inr (.inr (.inr (.inr (.inl hk)))))
   ·exact .inl (.inr (.inr (.inr (.inr (.inr (.inl hk))))))
   ·exact .inl (.inr (.inr (.inr (.inr (.inr (.inr (.inl hk)))))))
   ·refine .inl (.inr (.inr (.inr (.inr (.inr (.inr (.inr (.inl ?_))))))))
    rw [hk]
    exact a10.b
   ·exact .inl (.inr (.inr (.inr (.inr (.inr (.inr (.inr (.inr ⟨q,v,hv,hg⟩))))))))
end Go.Proofs.YtaonlcgneemimaaGreatDoor
namespace Go.Proofs.YtaonlcgneemimaaGreatDoor
open Go.RowKit
structure Two (w0 w:World) (r s:Nat) (X Z:RepXG) (R S:List RowA) (P Q:List (List Int)) (m n i j:Nat):Prop where
 bel:Below w0.heap.size w0 w
 lf:RepI w r X R P m i
 rg:RepI w s Z S Q n j
 ap:Apart X r Z s
 ol:∀ k,X.owns r k → w0.heap.size ≤ k
 os:∀ k,Z.owns s k → w0.heap.size ≤ k
theorem Two.below {w0 w w':World} {r s:Nat} {X Z:RepXG} {R S:List RowA} {P Q:List (List Int)} {m n i j:Nat} (h:Two w0 w r s X Z R S P Q m n i j) (hb:Below w.heap.size w w'):Two w0 w' r s X Z R S P Q m n i j :=
 ⟨h.bel.trans (hb.mono h.bel.size),h.lf.below hb,h.rg.below hb,h.ap,h.ol,h.os⟩
theorem Frame.belowOf {M:List Nat} {w0 w w':World} (h:Below w0.heap.size w0 w) (F:Frame M w w') (hM:∀ k ∈ M,w0.heap.size ≤ k):Below w0.heap.size w0 w':=by
 have h1:Frame [] w0 w':=(Frame.of_below h []).trans F (fun x hx => .inr (hM x hx))
 exact h1.below
theorem Two.left1 {w0 w w':World} {r s:Nat} {X X' Z:RepXG} {R S R':List RowA} {P Q P':List (List Int)} {m n i j m' i':Nat} (h:Two w0 w r s X Z R S P Q m n i j) (hl:RepI w' r X' R' P' m' i') (F:Frame (X.m1 r) w w') (hg:∀ k,X'.owns r k → X.owns r k ∨ w.heap.size ≤ k):Two w0 w' r s X' Z R' S P' Q m' n i' j :=
 ⟨Frame.belowOf h.bel F (fun k hk => h.ol k (.inr (.inl hk))),hl,h.rg.with (h.rg.rep.keep1 h.lf.rep h.ap F),h.ap.grow h.rg.rep hg,fun k hk => (hg k hk).elim (h.ol k) (fun h1 => Nat.le_trans h.bel.size h1),h.os⟩
theorem Two.left2 {w0 w w':World} {r s:Nat} {X X' Z:RepXG} {R S R':List RowA} {P Q P':List (List Int)} {m n i j m' i':Nat} (h:Two w0 w r s X Z R S P Q m n i j) (hl:RepI w' r X' R' P' m' i') (F:Frame (X.mu r) w w') (hg:∀ k,X'.owns r k → X.owns r k ∨ w.heap.size ≤ k):Two w0 w' r s X' Z R' S P' Q m' n i' j :=
 ⟨Frame.belowOf h.bel F (fun k hk => h.ol k (.inl hk)),hl,h.rg.with (h.rg.rep.keep2 h.lf.rep h.ap F),h.ap.grow h.rg.rep hg,fun k hk => (hg k hk).elim (h.ol k) (fun h1 => Nat.le_trans h.bel.size h1),h.os⟩
def TwoI (w0 w:World) (r s:Nat) (R S:List RowA) (P Q:List (List Int)) (m n i j:Nat):Prop:=∃ X Z,Two w0 w r s X Z R S P Q m n i j
theorem TwoI.below {w0 w w':World} {r s:Nat} {R S:List RowA} {P Q:List (List Int)} {m n i j:Nat} (h:TwoI w0 w r s R S P Q m n i j) (hb:Below w.heap.size w w'):TwoI w0 w' r s R S P Q m n i j:=by
 obtain ⟨X,Z,h⟩:=h
 exact ⟨X,Z,h.below hb⟩
theorem TwoI.bel {w0 w:World} {r s:Nat} {R S:List RowA} {P Q:List (List Int)} {m n i j:Nat} (h:TwoI w0 w r s R S P Q m n i j):Below w0.heap.size w0 w:=by
 obtain ⟨X,Z,h⟩:=h
 exact h.bel
theorem TwoI.swap {w0 w:World} {r s:Nat} {R S:List RowA} {P Q:List (List Int)} {m n i j:Nat} (h:TwoI w0 w r s R S P Q m n i j):TwoI w0 w s r S R Q P n m j i:=by
 obtain ⟨X,Z,h⟩:=h
 exact ⟨Z,X,h.bel,h.rg,h.lf,h.ap.symm,h.os,h.ol⟩
open Classical in
noncomputable def ansN (R:List RowA) (P:List (List Int)) (e:EvR) (m j:Nat):Int × Int:=if refuseC R e ≠ 0 then (0,refuseC R e) else if Big R P e m j then (0,12) else ((R.length:Int) + 1,0)
open Classical in
noncomputable def rowsN (R:List RowA) (P:List (List Int)) (e:EvR) (m j:Nat):List RowA:=if refuseC R e = 0 ∧ ¬ Big R P e m j then R ++ [(j,evItem P e.ev e.data)] else R
open Classical in
noncomputable def chunksN (R:List RowA) (P:List (List Int)) (e:EvR) (m j:Nat):List (List Int):=if refuseC R e = 0 ∧ ¬ Big R P e m j then evP P e.ev e.data else P
theorem ingest_two {w0 w:World} {r s:Nat} {R S:List RowA} {P Q:List (List Int)} {m n i j:Nat} (h:TwoI w0 w r s R S P Q m n i j) (hp:RowsP R P i) (hj:i + 1 ≤ 30) (e:EvR) (hs:e.ev.path.size ≤ 300 ∧ e.ev.to.size ≤ 300) (da:Option Addr) (dc:Nat) (hA:ArgB w da e.dn dc e.zs) (hdn:e.dn ≤ 9223372036854775807) :
  Calls Tryz.prog 9 #[.pointer (some ⟨r,0,none⟩),.agg #[.int .i64 e.ev.op,.string e.ev.path,.string e.ev.to,.int .i64 e.ev.off,.int .i64 e.ev.size,.slice da e.dn dc]] w fun en w' =>
   en = .returned (.tuple #[.int .i64 (ansN R P e m i).1,.int .i64 (ansN R P e m i).2]) ∧ TwoI w0 w' r s (rowsN R P e m i) S (chunksN R P e m i) Q m n i j:=by
 obtain ⟨X,Z,h⟩:=h
 refine (ingest_i w r X R P m i h.lf hp hj (Nat.le_refl _) e hs da dc hA hdn).mono ?_
 rintro en w' (⟨h1,rfl,hb⟩ | ⟨h1,h2,rfl,hb⟩ | ⟨h1,h2,rfl,X',h3⟩)
 ·have e1:ansN R P e m i = (0,refuseC R e):=if_pos h1
  have e2:rowsN R P e m i = R:=if_neg (fun hh => h1 hh.1)
  have e3:chunksN R P e m i = P:=if_neg (fun hh => h1 hh.1)
  rw [e1,e2,e3]
  exact ⟨rfl,X,Z,h.below hb⟩
 ·have e1:ansN R P e m i = (0,12):=by unfold ansN;rw [if_neg (by simpa using h1),if_pos h2]
  have e2:rowsN R P e m i = R:=if_neg (fun hh => hh.2 h2)
  have e3:chunksN R P e m i = P:=if_neg (fun hh => hh.2 h2)
  rw [e1,e2,e3]
  exact ⟨rfl,X,Z,h.below hb⟩
 ·have e1:ansN R P e m i = ((R.length:Int) + 1,0):=by unfold ansN;rw [if_neg (by simpa using h1),if_neg h2]
  have e2:rowsN R P e m i = R ++ [(i,evItem P e.ev e.data)]:=if_pos ⟨h1,h2⟩
  have e3:chunksN R P e m i = evP P e.ev e.data:=if_pos ⟨h1,h2⟩
  rw [e1,e2,e3]
  exact ⟨rfl,X',Z,h.left1 h3.rep h3.fr h3.grow⟩
theorem ans_same {R:List RowA} {P:List (List Int)} {e:EvR} {j m:Nat} (hR:R.length ≤ 30) (hm:m ≤ R.length) :
  (ansN R P e 0 j = ansN R P e m j ∧ rowsN R P e 0 j = rowsN R P e m j ∧ chunksN R P e 0 j = chunksN R P e m j) ∨ (ansN R P e 0 j = (0,12) ∧ ansN R P e m j = ((R.length:Int) + 1,0)):=by
 by_cases h1:refuseC R e ≠ 0
 ·left
  unfold ansN rowsN chunksN
  rw [if_pos h1,if_pos h1,if_neg (fun hh => h1 hh.1),if_neg (fun hh => h1 hh.1),if_neg (fun hh => h1 hh.1),if_neg (fun hh => h1 hh.1)]
  exact ⟨rfl,rfl,rfl⟩
 have h1:refuseC R e = 0:=by simpa using h1
 have hle:Big R P e m j → Big R P e 0 j:=fun h => by
  unfold Big at h ⊢
  rcases record_less R (j,evItem P e.ev e.data) m hR with h2 | h2
  ·omega
  ·omega
 by_cases b0:Big R P e 0 j
 ·by_cases bm:Big R P e m j
  ·left
   unfold ansN rowsN chunksN
   simp only [h1,b0,bm,ne_eq,not_true_eq_false,if_false,if_true,and_false]
   exact ⟨trivial,trivial,trivial⟩
  ·right
   unfold ansN
   simp only [h1,b0,bm,ne_eq,not_true_eq_false,if_false,if_true]
   exact ⟨trivial,trivial⟩
 ·have bm:¬ Big R P e m j:=fun h => b0 (hle h)
  left
  unfold ansN rowsN chunksN
  simp only [h1,b0,bm,ne_eq,not_true_eq_false,if_false,not_false_eq_true,and_self,if_true]
theorem RowsP.ans {R:List RowA} {P:List (List Int)} {j m:Nat} (h:RowsP R P j) (hj:j + 1 ≤ 30) {e:EvR} (hd:e.data.length = e.dn):RowsP (rowsN R P e m j) (chunksN R P e m j) (j + 1):=by
 by_cases hc:refuseC R e = 0 ∧ ¬ Big R P e m j
 ·have e2:rowsN R P e m j = R ++ [(j,evItem P e.ev e.data)]:=if_pos hc
  have e3:chunksN R P e m j = evP P e.ev e.data:=if_pos hc
  rw [e2,e3]
  exact (h.more hj (Nat.le_refl _) h.clock hc.1 hd).1
 ·have e2:rowsN R P e m j = R:=if_neg hc
  have e3:chunksN R P e m j = P:=if_neg hc
  rw [e2,e3]
  exact h.tick hj
theorem commit_two {w0 w:World} {r s:Nat} {R S:List RowA} {P Q:List (List Int)} {m n i j:Nat} (h:TwoI w0 w r s R S P Q m n i j) {j':Nat} (hp:RowsP R P j') :
  Calls Tryz.prog 10 #[.pointer (some ⟨r,0,none⟩)] w fun e w' => ∃ c:Int,e = .returned (.int .i64 c) ∧ (c = 0 → TwoI w0 w' r s R S P Q R.length n i j) ∧ (c ≠ 0 → Below w0.heap.size w0 w'):=by
 obtain ⟨X,Z,h⟩:=h
 refine (commit_i w r X R P m i h.lf hp).mono ?_
 rintro e w' ⟨c,rfl,h1,h2,-⟩
 refine ⟨c,rfl,fun hc => ?_,fun hc => h.bel.trans ((h2 hc).mono h.bel.size)⟩
 obtain ⟨X',h3⟩:=h1 hc
 exact ⟨X',Z,h.left2 h3.rep h3.fr h3.grow⟩
end Go.Proofs.YtaonlcgneemimaaGreatDoor
namespace Go.Proofs.YtaonlcgneemimaaGreatDoor
open Go.RowKit
theorem tick_two {w0 w:World} {r s:Nat} {R S:List RowA} {P Q:List (List Int)} {m n i j:Nat} (h:TwoI w0 w r s R S P Q m n i j) (hi:i ≤ 32) :
  Calls Tryz.prog 13 #[.pointer (some ⟨r,0,none⟩),.float .f64 4602678819172646912] w fun e w' => e = .returned (.int .i64 0) ∧ TwoI w0 w' r s R S P Q m n (i + 1) j:=by
 obtain ⟨X,Z,h⟩:=h
 have hn:=h.lf.now
 refine (repTick_g w r X h.lf.rep (by omega)).mono ?_
 rintro e w' ⟨rfl,h1,h2⟩
 refine ⟨rfl,{ X with now:=X.now + 1 },Z,h.left1 (X':={ X with now:=X.now + 1 }) ⟨h1,h.lf.hP,h.lf.hm,h.lf.pts,h.lf.st,h.lf.its,by show X.now + 1 = _;omega,h.lf.K,h.lf.eng,h.lf.short⟩ (h2.mono (fun k hk => .inl (by simp only [List.mem_singleton] at hk;subst hk;simp [RepXG.m1]))) (fun k hk => .inl hk)⟩
theorem points_two {w0 w:World} {r s:Nat} {R S:List RowA} {P Q:List (List Int)} {n i j:Nat} (h:TwoI w0 w r s R S P Q R.length n i j) :
  Calls Tryz.prog 14 #[.pointer (some ⟨r,0,none⟩)] w fun e w' => ∃ v,e = .returned v ∧ PtsN w' v R.length (R.map rowPt) ∧ Below w.heap.size w w':=by
 obtain ⟨X,Z,h⟩:=h
 refine (repPoints_g w r X h.lf.rep).mono ?_
 rintro e w' ⟨v,rfl,h1,h2⟩
 rw [h.lf.len,h.lf.pts,List.take_length] at h1
 exact ⟨v,rfl,h1,h2⟩
theorem Two.at' {w0 w:World} {r s:Nat} {X Z:RepXG} {R S:List RowA} {P Q:List (List Int)} {n i j:Nat} (h:Two w0 w r s X Z R S P Q R.length n i j) {k:Nat} (hk:k < R.length):∃ z,X.xs[k]? = some z ∧ z.y.x = stepAllG AbsG.new (R.take (k + 1)):=by
 have hl:=h.lf.len
 refine ⟨X.xs[k],List.getElem?_eq_getElem (by omega),h.lf.st k _ (List.getElem?_eq_getElem (by omega))⟩
theorem paths_two {w0 w:World} {r s:Nat} {R S:List RowA} {P Q:List (List Int)} {n i j:Nat} (h:TwoI w0 w r s R S P Q R.length n i j) {k:Nat} (hk:k < R.length) :
  Calls Tryz.prog 16 #[.pointer (some ⟨r,0,none⟩),.int .i64 ((k:Int) + 1)] w fun e w' => ∃ v ps,e = .returned (.tuple #[v,.int .i64 0]) ∧ PathsG (stepAllG AbsG.new (R.take (k + 1))).T ps ∧ (ps.length ≤ 64 ∧ ∀ p ∈ ps,p.size ≤ 64) ∧ Sl w' 9 1 v ps.length (strsC ps) ∧ Below w.heap.size w w':=by
 obtain ⟨X,Z,h⟩:=h
 obtain ⟨z,hz,hx⟩:=h.at' hk
 refine (repPaths_g w r X h.lf.rep k z hz).mono ?_
 rintro e w' ⟨v,ps,rfl,h1,h2,h3,h4⟩
 have hsm:=(h.lf.rep.hist.each z (List.mem_of_getElem? hz)).at'.tree.small
 refine ⟨v,ps,rfl,hx ▸ h1,⟨h2,fun p hp => ?_⟩,h3,h4⟩
 have h5:=h1.mem hp
 cases h6:z.y.x.T p with
 | none => rw [h6] at h5;cases h5
 | some x => exact hsm p x h6
theorem stat_two {w0 w:World} {r s:Nat} {R S:List RowA} {P Q:List (List Int)} {n i j:Nat} (h:TwoI w0 w r s R S P Q R.length n i j) {k:Nat} (hk:k < R.length) (p:ByteArray) (hp:p.size ≤ 64) :
  Calls Tryz.prog 17 #[.pointer (some ⟨r,0,none⟩),.int .i64 ((k:Int) + 1),.string p] w fun e w' => e = .returned (statV (statG (stepAllG AbsG.new (R.take (k + 1))) p)) ∧ Below w.heap.size w w':=by
 obtain ⟨X,Z,h⟩:=h
 obtain ⟨z,hz,hx⟩:=h.at' hk
 rw [← hx]
 exact repStat_g w r X h.lf.rep k z hz p (by omega)
theorem read_two {w0 w:World} {r s:Nat} {R S:List RowA} {P Q:List (List Int)} {n i j:Nat} (h:TwoI w0 w r s R S P Q R.length n i j) {j':Nat} (hR:RowsP R P j') {k:Nat} (hk:k < R.length) (p:ByteArray) (hp:p.size ≤ 64) :
  Calls Tryz.prog 11 #[.pointer (some ⟨r,0,none⟩),.int .i64 ((k:Int) + 1),.string p,.int .i64 0,.int .i64 500] w fun e w' => ∃ v',e = .returned (.tuple #[v',.int .i64 (readG P (stepAllG AbsG.new (R.take (k + 1))) p 0 500).2]) ∧ Sl w' 5 1 v' (readG P (stepAllG AbsG.new (R.take (k + 1))) p 0 500).1.length (u8s (readG P (stepAllG AbsG.new (R.take (k + 1))) p 0 500).1) ∧ Below w.heap.size w w':=by
 obtain ⟨X,Z,h⟩:=h
 obtain ⟨z,hz,hx⟩:=h.at' hk
 have:=repRead_g w r X h.lf.rep k z hz (by rw [h.lf.hP,hx];exact hR.whole (k + 1)) p (by omega) 0 500 (by decide) (by decide) (by decide) (by decide)
 rw [h.lf.hP,hx] at this
 exact this
theorem NewRepG.owns {w w':World} {d l cb r:Nat} {X:RepXG} (h:NewRepG w d l cb r X w') {k:Nat} (hk:X.owns r k):k = d ∨ k = l ∨ k = cb ∨ w.heap.size ≤ k:=by
 obtain ⟨o1,o2,o3,o4,o5,o6⟩:=h.own2
 rcases hk with hk | hk | hk | ⟨z,hz,hk⟩ | hk | hk | hk | hk | ⟨q,v,hv,hg⟩
 ·exact h.own k hk
 ·exact .inr (.inr (.inr (h.own1 k hk)))
 ·exact .inr (.inr (.inr (o1 k hk)))
 ·rw [h.xs] at hz
  simp at hz
 ·exact .inr (.inr (.inr (hk ▸ o2)))
 ·exact .inr (.inr (.inr (hk ▸ o3)))
 ·exact .inr (.inr (.inr (hk ▸ o4)))
 ·exact .inr (.inr (.inr (hk ▸ o5)))
 ·rw [o6] at hv
  cases hv
theorem NewRepG.start {w w':World} {d l cb r:Nat} {X:RepXG} (h:NewRepG w d l cb r X w'):RepI w' r X [] [] 0 0:=by
 refine ⟨h.rep,h.P,Nat.le_refl _,by rw [h.xs];rfl,fun k z hz => by rw [h.xs] at hz;simp at hz,by rw [h.its];rfl,h.now,by rw [h.K];rfl,⟨h.k,by rw [h.number];omega,by rw [h.dn];omega⟩,fun hx => absurd rfl hx⟩
theorem two_start {w0 w w1 w2:World} {d l cb f l2 cb2 r s:Nat} {X Z:RepXG} {k:Nat} (hg:1 < w0.heap.size) (hb:Below w0.heap.size w0 w) (hd:w0.heap.size ≤ d ∧ w0.heap.size ≤ l ∧ w0.heap.size ≤ cb) (hf:w0.heap.size ≤ f ∧ w0.heap.size ≤ l2 ∧ w0.heap.size ≤ cb2) (h2:DiskAt w f l2 cb2 776 k) (hne:∀ x,x = d ∨ x = l ∨ x = cb → ¬ (x = f ∨ x = l2 ∨ x = cb2)) (H1:NewRepG w d l cb r X w1) (H2:NewRepG w1 f l2 cb2 s Z w2):Two w0 w2 r s X Z [] [] [] [] 0 0 0 0:=by
 have hlt:=h2.lt
 have hap:∀ x,X.owns r x → x ∉ [f,l2,cb2]:=fun x hx hm => by
  simp only [List.mem_cons,List.not_mem_nil,or_false] at hm
  rcases H1.owns hx with h | h | h | h
  ·exact hne x (.inl h) hm
  ·exact hne x (.inr (.inl h)) hm
  ·exact hne x (.inr (.inr h)) hm
  ·omega
 have hsz:=H1.fr.size
 have h2':DiskAt w1 f l2 cb2 776 k:=h2.frame H1.fr (fun hm => hne f (by simpa using hm) (by simp)) (fun hm => hne l2 (by simpa using hm) (by simp)) (fun hm => hne cb2 (by simpa using hm) (by simp))
 obtain ⟨ops,hc⟩:=h2'.cell
 obtain ⟨arr2,hr2,-⟩:=h2'.row
 obtain ⟨n2,f2,hm2,-⟩:=h2'.map
 have hty:∀ t,t ≠ 64 → t ≠ 33 → ∀ g ∈ [f,l2,cb2],∀ arr,w1.heap[g]? ≠ some (.cells arr t (0,0)):=fun t t1 t2 g hg arr he => by
  simp only [List.mem_cons,List.not_mem_nil,or_false] at hg
  rcases hg with rfl | rfl | rfl
  ·rw [hc] at he
   injection he with he
   injection he with _ he
   exact t1 he.symm
  ·rw [hr2] at he
   injection he with he
   injection he with _ he
   exact t2 he.symm
  ·exact hm2.cells he
 have hX2:RepG w2 r X:=H1.rep.other H2.fr hap (by simp only [List.mem_cons,List.not_mem_nil,or_false];omega) (hty 5 (by decide) (by decide)) (hty 86 (by decide) (by decide)) (hty 134 (by decide) (by decide))
 have b1:Below w0.heap.size w0 w1:=Frame.belowOf hb H1.fr (fun x hx => by simp only [List.mem_cons,List.not_mem_nil,or_false] at hx;rcases hx with rfl | rfl | rfl <;> omega)
 refine ⟨Frame.belowOf b1 H2.fr (fun x hx => by simp only [List.mem_cons,List.not_mem_nil,or_false] at hx;rcases hx with rfl | rfl | rfl <;> omega),H1.start.with hX2,H2.start,fun x hx hz => ?_,fun x hx => ?_,fun x hx => ?_⟩
 ·rcases H2.owns hz with h | h | h | h
  ·exact hap x hx (by simp [h])
  ·exact hap x hx (by simp [h])
  ·exact hap x hx (by simp [h])
  ·have:=H1.rep.owns_lt hx
   omega
 ·have:=hb.size
  rcases H1.owns hx with h | h | h | h <;> omega
 ·have:=b1.size
  rcases H2.owns hx with h | h | h | h <;> omega
end Go.Proofs.YtaonlcgneemimaaGreatDoor
namespace Go.Proofs.YtaonlcgneemimaaGreatDoor
open Go.RowKit
def awA:EvR:=⟨⟨1,⟨#[47,97]⟩,⟨#[]⟩,0,0,[]⟩,0,[]⟩
def awB:EvR:=⟨⟨3,⟨#[47,97]⟩,⟨#[]⟩,2,0,[]⟩,2,[120,121]⟩
def awC:ItemA:=⟨1,⟨#[47,97]⟩,⟨#[]⟩,0,0,[]⟩
def awD:ItemA:=⟨3,⟨#[47,97]⟩,⟨#[]⟩,2,0,[⟨0,2,1,0⟩]⟩
theorem cut_xy:cutL [120,121] = [[120,121]]:=by
 have h:cutPl [120,121] = 2:=by
  have:=cutPl_bounds [120,121]
  simp only [List.length_cons,List.length_nil] at this
  omega
 rw [cutL_cons _ (by decide),h]
 show [120,121] :: cutL [] = _
 rw [cutL_nil _ rfl]
theorem awA_item:evItem [] awA.ev awA.data = awC ∧ evP [] awA.ev awA.data = []:=by
 have h1:evParts [] awA.ev awA.data = []:=by unfold evParts;rw [if_neg (by decide)]
 have h2:evP [] awA.ev awA.data = []:=by unfold evP;rw [if_neg (by decide)]
 refine ⟨?_,h2⟩
 unfold evItem
 rw [h1]
 rfl
theorem awB_item:evItem [] awB.ev awB.data = awD ∧ evP [] awB.ev awB.data = [[120,121]]:=by
 have h0:awB.data = [120,121]:=rfl
 have hp:putP [] [120,121] = [[120,121]]:=by unfold putP;rw [if_neg (by simp)];rfl
 have hi:newPart [] [120,121] = ⟨0,2,1,0⟩:=by
  have:putId [] [120,121] = 1:=by unfold putId pieceId;simp
  unfold newPart
  rw [this]
  rfl
 have h1:evParts [] awB.ev awB.data = [⟨0,2,1,0⟩]:=by
  unfold evParts
  rw [if_pos (by decide),h0,cut_xy]
  show newPart [] [120,121] :: piecesA _ [] = _
  rw [hi]
  rfl
 have h2:evP [] awB.ev awB.data = [[120,121]]:=by
  unfold evP
  rw [if_pos (by decide),h0,cut_xy]
  show putAll (putP [] [120,121]) [] = _
  rw [hp]
  rfl
 refine ⟨?_,h2⟩
 unfold evItem
 rw [h1]
 rfl
def awT:TreeF:=gset (fun _ => none) ⟨#[47,97]⟩ (some (1,false))
theorem aw_can:canG (fun _ => none) 0 ⟨#[47,97]⟩ = 0:=by decide +kernel
theorem aw_look:lookG awT ⟨#[47,97]⟩ = (1,false,0):=by decide +kernel
theorem aw_new:stepG AbsG.new awC = ⟨awT,1,2,bset (fun _ => none) 1 (some ⟨0,[]⟩)⟩:=by
 unfold stepG
 rw [if_pos (show awC.op = 1 from rfl)]
 rfl
theorem aw_file:fileG awT ⟨#[47,97]⟩ = (1,0):=by
 unfold fileG
 rw [aw_look]
 rfl
theorem aw_two:stepG (stepG AbsG.new awC) awD = ⟨awT,1,2,bset (bset (fun _ => none) 1 (some ⟨0,[]⟩)) 1 (some ⟨4,[⟨2,2,1,0⟩]⟩)⟩:=by
 rw [aw_new]
 unfold stepG
 rw [if_neg (show ¬ awD.op = 1 by decide),if_neg (show ¬ awD.op = 2 by decide),if_pos (show awD.op = 3 from rfl)]
 have e:(fileG (⟨awT,1,2,bset (fun _ => none) 1 (some ⟨0,[]⟩)⟩:AbsG).T awD.path) = (1,0):=aw_file
 rw [e]
 rfl
theorem aw_refA:refuseC [] awA = 0:=by
 unfold refuseC
 have h:checkG (stepAllG AbsG.new []).T (stepAllG AbsG.new []).n awA.ev.op awA.ev.path awA.ev.to awA.ev.off awA.ev.size awA.dn = 0:=by
  unfold checkG
  rw [if_pos (.inl rfl)]
  exact aw_can
 rw [h,if_neg (by decide),if_neg (fun hh => absurd hh.1 (by decide))]
theorem aw_refB:refuseC [(0,awC)] awB = 0:=by
 unfold refuseC
 have e:stepAllG AbsG.new [(0,awC)] = stepG AbsG.new awC:=rfl
 have h:checkG (stepAllG AbsG.new [(0,awC)]).T (stepAllG AbsG.new [(0,awC)]).n awB.ev.op awB.ev.path awB.ev.to awB.ev.off awB.ev.size awB.dn = 0:=by
  rw [e,aw_new]
  unfold checkG
  rw [if_neg (by decide),if_pos (show awB.ev.op = 3 from rfl)]
  unfold writeG
  rw [show (fileG (⟨awT,1,2,bset (fun _ => none) 1 (some ⟨0,[]⟩)⟩:AbsG).T awB.ev.path) = (1,0) from aw_file]
  decide
 rw [h,if_neg (by decide),if_neg (fun hh => absurd hh.1 (by decide))]
theorem aw_short (R:List RowA) (m:Nat) (h:∀ i ∈ R,i.2.good ∧ i.2.parts.length ≤ 128) (hl:R.length ≤ 3) (hm:m ≤ 100):(recordG m R).length ≤ 16384:=by
 have h1:∀ l:List RowA,(∀ i ∈ l,i.2.good ∧ i.2.parts.length ≤ 128) → (l.flatMap rowGB).length ≤ 4000 * l.length:=fun l => by
  induction l with
  | nil => intro _;simp
  | cons a l ih =>
   intro h
   have h2:=ih (fun i hi => h i (List.mem_cons_of_mem _ hi))
   obtain ⟨h3,h4⟩:=h a (by simp)
   have h5:=itemB_len a.2 h3
   simp only [List.flatMap_cons,List.length_append,List.length_cons,rowGB,leB_length] at h2 ⊢
   omega
 have h2:=h1 R h
 have h3:=numB_len 8 m (by omega)
 have h4:=numB_len 8 R.length (by omega)
 unfold recordG
 simp only [List.length_append,List.length_singleton]
 omega
def OneI (w0 w:World) (r:Nat) (R:List RowA) (P:List (List Int)) (m j:Nat):Prop:=∃ X,Below w0.heap.size w0 w ∧ RepI w r X R P m j ∧ (∀ k,X.owns r k → w0.heap.size ≤ k) ∧ (m = 0 → X.x.ssJ = [] ∧ X.x.ssC = [] ∧ X.x.nJ = 0 ∧ X.x.nC = 0)
theorem OneI.below {w0 w w':World} {r:Nat} {R:List RowA} {P:List (List Int)} {m j:Nat} (h:OneI w0 w r R P m j) (hb:Below w.heap.size w w'):OneI w0 w' r R P m j:=by
 obtain ⟨X,h1,h2,h3,h4⟩:=h
 exact ⟨X,h1.trans (hb.mono h1.size),h2.below hb,h3,h4⟩
theorem OneI.ingest {w0 w:World} {r:Nat} {R:List RowA} {P:List (List Int)} {j b:Nat} (h:OneI w0 w r R P 0 j) (hp:RowsP R P b) (hb:b + 1 ≤ 30) (hR:R.length ≤ 2) (hjb:j ≤ b) (hck:∀ r ∈ R,r.1 ≤ j) (e:EvR) (hs:e.ev.path.size ≤ 300 ∧ e.ev.to.size ≤ 300) (da:Option Addr) (dc:Nat) (hA:ArgB w da e.dn dc e.zs) (hdn:e.dn ≤ 1000) (hrc:refuseC R e = 0) (hd:e.data.length = e.dn) :
  Calls Tryz.prog 9 #[.pointer (some ⟨r,0,none⟩),.agg #[.int .i64 e.ev.op,.string e.ev.path,.string e.ev.to,.int .i64 e.ev.off,.int .i64 e.ev.size,.slice da e.dn dc]] w fun en w' => en = .returned (.tuple #[.int .i64 ((R.length:Int) + 1),.int .i64 0]) ∧ OneI w0 w' r (R ++ [(j,evItem P e.ev e.data)]) (evP P e.ev e.data) 0 j:=by
 obtain ⟨X,h1,h2,h3,h4⟩:=h
 obtain ⟨hR',-⟩:=hp.more hb hjb hck hrc hd
 have hnb:¬ Big R P e 0 j:=by
  unfold Big
  rw [List.drop_zero]
  have:=aw_short (R ++ [(j,evItem P e.ev e.data)]) (0 + 1) (fun i hi => ⟨hR'.good i hi,hR'.parts i hi⟩) (by simp;omega) (by omega)
  omega
 refine (ingest_i w r X R P 0 j h2 hp hb hjb e hs da dc hA (by omega)).mono ?_
 rintro en w' (⟨k1,-⟩ | ⟨-,k1,-⟩ | ⟨-,-,rfl,X',k3⟩)
 ·exact absurd hrc k1
 ·exact absurd k1 hnb
 ·exact ⟨rfl,X',Frame.belowOf h1 k3.fr (fun k hk => h3 k (.inr (.inl hk))),k3.rep,fun k hk => (k3.grow k hk).elim (h3 k) (fun h5 => Nat.le_trans h1.size h5),fun _ => by rw [k3.same];exact h4 rfl⟩
theorem OneI.commit {w0 w:World} {r:Nat} {R:List RowA} {P:List (List Int)} {j b:Nat} (h:OneI w0 w r R P 0 j) (hp:RowsP R P b) (hP:P.length ≤ 50) (hR:R ≠ []) :
  Calls Tryz.prog 10 #[.pointer (some ⟨r,0,none⟩)] w fun e w' => e = .returned (.int .i64 0) ∧ OneI w0 w' r R P R.length j:=by
 obtain ⟨X,h1,h2,h3,h4⟩:=h
 refine (commit_i w r X R P 0 j h2 hp).mono ?_
 rintro e w' ⟨c,rfl,k1,-,k2⟩
 have hc:c = 0:=k2 (by
  obtain ⟨a1,a2,a3,a4⟩:=h4 rfl
  exact ⟨a1,a2,a3,a4,by rw [h2.hP];exact hP⟩)
 obtain ⟨X',k3⟩:=k1 hc
 subst hc
 exact ⟨rfl,X',Frame.belowOf h1 k3.fr (fun k hk => h3 k (.inl hk)),k3.rep,fun k hk => (k3.grow k hk).elim (h3 k) (fun h5 => Nat.le_trans h1.size h5),fun hl => absurd (List.eq_nil_of_length_eq_zero hl) hR⟩
theorem aw_read:readG [[120,121]] (stepAllG AbsG.new [(0,awC),(0,awD)]) ⟨#[47,97]⟩ 1 9 = ([0,120,121],0):=by
 have e:stepAllG AbsG.new [(0,awC),(0,awD)] = ⟨awT,1,2,bset (bset (fun _ => none) 1 (some ⟨0,[]⟩)) 1 (some ⟨4,[⟨2,2,1,0⟩]⟩)⟩:=aw_two
 rw [e]
 have hs:statG (⟨awT,1,2,bset (bset (fun _ => none) 1 (some ⟨0,[]⟩)) 1 (some ⟨4,[⟨2,2,1,0⟩]⟩)⟩:AbsG) ⟨#[47,97]⟩ = ((1,false,4),0):=by
  unfold statG
  rw [show lookG (⟨awT,1,2,bset (bset (fun _ => none) 1 (some ⟨0,[]⟩)) 1 (some ⟨4,[⟨2,2,1,0⟩]⟩)⟩:AbsG).T ⟨#[47,97]⟩ = (1,false,0) from aw_look]
  rfl
 unfold readG
 rw [hs]
 rfl
theorem aw_rows:RowsP [(0,awC)] [] 1 ∧ RowsP [(0,awC),(0,awD)] [[120,121]] 2:=by
 have h1:=(RowsP.nil.more (by decide) (Nat.le_refl 0) (fun r h => by simp at h) aw_refA rfl).1
 rw [awA_item.1,awA_item.2] at h1
 have h1:RowsP [(0,awC)] [] 1:=h1
 have h2:=(h1.more (by decide) (Nat.zero_le 1) (fun r h => by simp only [List.mem_singleton] at h;subst h;exact Nat.le_refl 0) aw_refB rfl).1
 rw [awB_item.1,awB_item.2] at h2
 exact ⟨h1,h2⟩
end Go.Proofs.YtaonlcgneemimaaGreatDoor
namespace Go.Proofs.YtaonlcgneemimaaGreatDoor
open Go.RowKit
theorem OneI.read {w0 w:World} {r:Nat} {R:List RowA} {P:List (List Int)} {j b:Nat} (h:OneI w0 w r R P R.length j) (hR:RowsP R P b) {k:Nat} (hk:k < R.length) (p:ByteArray) (hp:p.size ≤ 64) (off n:Int) (h0:0 ≤ off) (h1:off ≤ 4096) (h2:0 ≤ n) (h3:n ≤ 4096) :
  Calls Tryz.prog 11 #[.pointer (some ⟨r,0,none⟩),.int .i64 ((k:Int) + 1),.string p,.int .i64 off,.int .i64 n] w fun e w' => ∃ v',e = .returned (.tuple #[v',.int .i64 (readG P (stepAllG AbsG.new (R.take (k + 1))) p off n).2]) ∧ Sl w' 5 1 v' (readG P (stepAllG AbsG.new (R.take (k + 1))) p off n).1.length (u8s (readG P (stepAllG AbsG.new (R.take (k + 1))) p off n).1) ∧ Below w.heap.size w w':=by
 obtain ⟨X,-,hl,-⟩:=h
 have hlen:=hl.len
 have hz:=List.getElem?_eq_getElem (l:=X.xs) (i:=k) (by omega)
 have hx:=hl.st k _ hz
 have:=repRead_g w r X hl.rep k _ hz (by rw [hl.hP,hx];exact hR.whole (k + 1)) p (by omega) off n h0 (by omega) h2 h3
 rw [hl.hP,hx] at this
 exact this
theorem OneI.points {w0 w:World} {r:Nat} {R:List RowA} {P:List (List Int)} {j:Nat} (h:OneI w0 w r R P R.length j) :
  Calls Tryz.prog 14 #[.pointer (some ⟨r,0,none⟩)] w fun e w' => ∃ a cap,e = .returned (.slice a R.length cap) ∧ Below w.heap.size w w':=by
 obtain ⟨X,-,hl,-⟩:=h
 have hlen:=hl.len
 refine (repPoints_g w r X hl.rep).mono ?_
 rintro e w' ⟨v,rfl,h1,h2⟩
 obtain ⟨a,cap,rfl,-⟩:=ptsN_cells (by simp) h1
 rw [hlen]
 exact ⟨a,cap,rfl,h2⟩
set_option maxRecDepth 100000 in
set_option maxHeartbeats 4000000 in
theorem awake_g (w:World) (hg:∃ m,w.cell? ⟨1,0,none⟩ = some (.int .i64 m)) :
  Calls Tryz.prog 6 #[] w fun e w' => e = .returned (.bool true) ∧ Below w.heap.size w w':=by
 have D:=Lib.hid (newDisk_any w)
 have hlt:1 < w.heap.size:=by
  obtain ⟨m,hm⟩:=hg
  exact World.block_lt_of_cell? w ⟨1,0,none⟩ hm
 obtain ⟨hA1,hA2⟩:=awA_item
 obtain ⟨hB1,hB2⟩:=awB_item
 obtain ⟨hR1,hR2⟩:=aw_rows
 have F:Hid (∀ (w1:World) (d l cb:Nat),Hid (DiskAt w1 d l cb 776 0) → Hid (Below w.heap.size w w1) → w.heap.size ≤ d → w.heap.size ≤ l → w.heap.size ≤ cb → Calls Tryz.prog 8 #[.pointer (some ⟨d,0,none⟩)] w1 fun e w' => ∃ r,e = .returned (.tuple #[.pointer (some ⟨r,0,none⟩),.int .i64 0]) ∧ Hid (OneI w w' r [] [] 0 0)):=Lib.hid (fun w1 d l cb hd hb h1 h2 h3 => by
  obtain ⟨m,hm⟩:=hg
  have hs:=hb.out.size
  refine (repFormat_g w1 d l cb 0 hd.out (by decide) ⟨by omega,by omega,by omega⟩ ⟨m,(hb.out.cell (p:=⟨1,0,none⟩) hlt).trans hm⟩).mono ?_
  rintro e w' ⟨r,X,rfl,N⟩
  refine ⟨r,rfl,Lib.hid ⟨X,Frame.belowOf hb.out N.fr (fun x hx => by simp only [List.mem_cons,List.not_mem_nil,or_false] at hx;rcases hx with rfl | rfl | rfl <;> assumption),N.start,fun k hk => ?_,fun _ => ⟨N.ssJ,N.ssC,N.nJ,N.nC⟩⟩⟩
  rcases N.owns hk with h | h | h | h <;> omega)
 have CR:Hid (∀ (W:World) (r:Nat),Hid (OneI w W r [] [] 0 0) → Calls Tryz.prog 9 #[.pointer (some ⟨r,0,none⟩),.agg #[.int .i64 1,.string ⟨#[47,97]⟩,.string ⟨#[]⟩,.int .i64 0,.int .i64 0,.slice none 0 0]] W fun e w' => e = .returned (.tuple #[.int .i64 1,.int .i64 0]) ∧ Hid (OneI w w' r [(0,awC)] [] 0 0)):=Lib.hid (fun W r hX => by
  refine (hX.out.ingest RowsP.nil (by decide) (by decide) (Nat.le_refl 0) (fun r h => by simp at h) awA (by decide) none 0 ⟨Nat.le_refl _,Nat.le_refl _,fun i hi => absurd hi (Nat.not_lt_zero i)⟩ (by decide) aw_refA rfl).mono ?_
  rintro e w' ⟨rfl,h1⟩
  rw [hA1,hA2] at h1
  exact ⟨rfl,Lib.hid h1⟩)
 have WR:Hid (∀ (W:World) (r g:Nat),Hid (OneI w W r [(0,awC)] [] 0 0) → Hid (W.heap[g]? = some (.cells #[.int .u8 120,.int .u8 121] 5 (2,3))) → Calls Tryz.prog 9 #[.pointer (some ⟨r,0,none⟩),.agg #[.int .i64 3,.string ⟨#[47,97]⟩,.string ⟨#[]⟩,.int .i64 2,.int .i64 0,.slice (some ⟨g,0,none⟩) 2 2]] W fun e w' => e = .returned (.tuple #[.int .i64 2,.int .i64 0]) ∧ Hid (OneI w w' r [(0,awC),(0,awD)] [[120,121]] 0 0)):=Lib.hid (fun W r g hX hgd => by
  have c0:W.cell? ⟨g,0,none⟩ = some (.int .u8 120):=by unfold World.cell?;rw [hgd.out];rfl
  have c1:W.cell? ⟨g,1,none⟩ = some (.int .u8 121):=by unfold World.cell?;rw [hgd.out];rfl
  refine (hX.out.ingest hR1 (by decide) (by decide) (Nat.zero_le 1) (fun r h => by simp only [List.mem_singleton] at h;subst h;exact Nat.le_refl 0) awB (by decide) (some ⟨g,0,none⟩) 2 ⟨Nat.le_refl _,Nat.le_refl _,fun i hi => ⟨_,rfl,?_⟩⟩ (by decide) aw_refB rfl).mono ?_
  ·have hi:i < 2:=hi
   match i,hi with
   | 0,_ => exact ⟨c0,by decide,by decide⟩
   | 1,_ => exact ⟨c1,by decide,by decide⟩
  rintro e w' ⟨rfl,h1⟩
  rw [hB1,hB2] at h1
  exact ⟨rfl,Lib.hid h1⟩)
 have CM:Hid (∀ (W:World) (r:Nat),Hid (OneI w W r [(0,awC),(0,awD)] [[120,121]] 0 0) → Calls Tryz.prog 10 #[.pointer (some ⟨r,0,none⟩)] W fun e w' => e = .returned (.int .i64 0) ∧ Hid (OneI w w' r [(0,awC),(0,awD)] [[120,121]] 2 0)):=Lib.hid (fun W r hX => by
  refine (hX.out.commit hR2 (by decide) (by simp)).mono ?_
  rintro e w' ⟨rfl,h1⟩
  exact ⟨rfl,Lib.hid h1⟩)
 have RD:Hid (∀ (W:World) (r:Nat),Hid (OneI w W r [(0,awC),(0,awD)] [[120,121]] 2 0) → Calls Tryz.prog 11 #[.pointer (some ⟨r,0,none⟩),.int .i64 2,.string ⟨#[47,97]⟩,.int .i64 1,.int .i64 9] W fun e w' => ∃ v',e = .returned (.tuple #[v',.int .i64 0]) ∧ Sl w' 5 1 v' 3 (u8s [0,120,121]) ∧ Hid (OneI w w' r [(0,awC),(0,awD)] [[120,121]] 2 0)):=Lib.hid (fun W r hX => by
  have:=hX.out.read hR2 (k:=1) (by decide) ⟨#[47,97]⟩ (by decide) 1 9 (by decide) (by decide) (by decide) (by decide)
  rw [show ([(0,awC),(0,awD)]:List RowA).take (1 + 1) = [(0,awC),(0,awD)] from rfl,aw_read] at this
  refine this.mono ?_
  rintro e w' ⟨v',rfl,hs,hq⟩
  exact ⟨v',rfl,hs,Lib.hid (hX.out.below hq)⟩)
 have PT:Hid (∀ (W:World) (r:Nat),Hid (OneI w W r [(0,awC),(0,awD)] [[120,121]] 2 0) → Calls Tryz.prog 14 #[.pointer (some ⟨r,0,none⟩)] W fun e w' => ∃ a cap,e = .returned (.slice a 2 cap) ∧ Hid (Below w.heap.size w w')):=Lib.hid (fun W r hX => by
  have h1:OneI w W r [(0,awC),(0,awD)] [[120,121]] ([(0,awC),(0,awD)]:List RowA).length 0:=hX.out
  refine h1.points.mono ?_
  rintro e w' ⟨a,cap,rfl,hq⟩
  obtain ⟨X,hb,-⟩:=hX.out
  exact ⟨a,cap,rfl,Lib.hid (hb.trans (hq.mono hb.size))⟩)
 have hss:strOfNums [0,120,121] = ⟨#[0,120,121]⟩:=by decide
 have hcc:∀ W:World,(convert 33 33 (.slice (some ⟨W.heap.size,0,none⟩) 2 2)).run Tryz.prog (W.alloc (.cells #[.int .u8 120,.int .u8 121] 5)) = .ok (.slice (some ⟨W.heap.size,0,none⟩) 2 2) (W.alloc (.cells #[.int .u8 120,.int .u8 121] 5 (2,3))):=fun W => Go.Lib.run_convert_bytes_const (P:=Tryz.prog) W 33 5 #[.int .u8 120,.int .u8 121] 2 2 Tryz.underlying33 Tryz.underlying5
 clear hg hA1 hA2 hB1 hB2 hR1 hR2 hlt
 go_enter Tryz.func6,Tryz.ntmps6
 go_wp2_with (first | (go_at_call 7;with_reducible refine D.out.mono ?_;rintro e1 w1 ⟨d,l,cb,rfl,hd,hq,h1,h2,h3⟩;have D1:=Lib.hid hd;have B1:=Lib.hid hq;clear hd hq) | (go_at_call 8;with_reducible refine (F.out w1 d l cb D1 B1 h1 h2 h3).mono ?_;rintro e1 w2 ⟨r,rfl,X2⟩) | (go_at_call 9;with_reducible refine (CR.out w2 r X2).mono ?_;rintro e1 w3 ⟨rfl,X3⟩) | (go_at_call 9;with_reducible refine (WR.out _ r _ (Lib.hid (X3.out.below (crc_below _ _))) (Lib.hid (heap_new _ _))).mono ?_;rintro e1 w4 ⟨rfl,X4⟩) | (go_at_call 10;with_reducible refine (CM.out w4 r X4).mono ?_;rintro e1 w5 ⟨rfl,X5⟩) | (go_at_call 11;with_reducible refine (RD.out w5 r X5).mono ?_;rintro e1 w6 ⟨v',rfl,hs,X6⟩;have hcv:=conv_sl hs;rw [hss] at hcv;obtain ⟨va,vc,rfl,-,-,-⟩:=hs.shape;clear hs) | (go_at_call 14;with_reducible refine (PT.out w6 r X6).mono ?_;rintro e1 w7 ⟨pa,pc,rfl,B7⟩))
 go_ret
 exact ⟨rfl,B7.out⟩
end Go.Proofs.YtaonlcgneemimaaGreatDoor
namespace Go.Proofs.YtaonlcgneemimaaGreatDoor
open Go.RowKit
theorem ArgB.below {w w':World} {a:Option Addr} {n c:Nat} {zs:List Int} (h:ArgB w a n c zs) (hb:Below w.heap.size w w'):ArgB w' a n c zs:=by
 refine ⟨h.1,h.2.1,fun i hi => ?_⟩
 obtain ⟨x,rfl,h1,h2⟩:=h.2.2 i hi
 exact ⟨x,rfl,(hb.cell (World.block_lt_of_cell? w _ h1)).trans h1,h2⟩
theorem EvsX.below {w w':World} {A:Option Addr} {evs:List EvR} (h:EvsX w A evs) (hb:Below w.heap.size w w'):EvsX w' A evs:=fun j e he => by
 obtain ⟨g,off,da,dc,rfl,hg,c0,c1,c2,c3,c4,c5,hA,hd⟩:=h j e he
 have k:∀ n v,w.cell? ⟨g,off + n,none⟩ = some v → w'.cell? ⟨g,off + n,none⟩ = some v:=fun n v hv => (hb.cell (p:=⟨g,off + n,none⟩) hg).trans hv
 have k1:∀ n m v,w.cell? ⟨g,off + n + m,none⟩ = some v → w'.cell? ⟨g,off + n + m,none⟩ = some v:=fun n m v hv => (hb.cell (p:=⟨g,off + n + m,none⟩) hg).trans hv
 exact ⟨g,off,da,dc,rfl,Nat.lt_of_lt_of_le hg hb.size,k _ _ c0,k1 _ _ _ c1,k1 _ _ _ c2,k1 _ _ _ c3,k1 _ _ _ c4,k1 _ _ _ c5,hA.below hb,hd⟩
structure BoxS (w3 wc:World) (b:Nat) (id:Int) (d:Bool) (bz:Int):Prop where
 bel:Below w3.heap.size w3 wc
 cell:wc.heap[b]? = some (.cells #[.int .i64 id,.bool d,.int .i64 bz] 54 (0,0))
theorem box_b {w4 w5:World} {id:Int} {d:Bool} {bz:Int} (hq:Below w4.heap.size w4 w5):BoxS w4 (w5.alloc (.cells #[.int .i64 id,.bool d,.int .i64 bz] 54)) w5.heap.size id d bz:=⟨hq.alloc hq.size _,heap_new _ _⟩
theorem box_a {w4 w5:World} {id:Int} {d:Bool} {bz:Int} (hq:Below (w4.alloc (.cells #[.int .i64 0,.bool false,.int .i64 0] 54)).heap.size (w4.alloc (.cells #[.int .i64 0,.bool false,.int .i64 0] 54)) w5):BoxS w4 (((w5.setCell ⟨w4.heap.size,0,none⟩ (.int .i64 id)).setCell ⟨w4.heap.size,1,none⟩ (.bool d)).setCell ⟨w4.heap.size,2,none⟩ (.int .i64 bz)) w4.heap.size id d bz:=by
 have h0:w5.heap[w4.heap.size]? = _:=Below.heap hq (Nat.le_refl _) (heap_new w4 (.cells #[.int .i64 0,.bool false,.int .i64 0] 54))
 have h1:=setAt (setAt (setAt h0 0 (.int .i64 id)) 1 (.bool d)) 2 (.int .i64 bz)
 have hb:Below w4.heap.size w4 w5:=(crc_below w4 _).trans (hq.mono (crc_below w4 _).size)
 exact ⟨((hb.setCell (p:=⟨w4.heap.size,0,none⟩) (Nat.le_refl _) _).setCell (p:=⟨w4.heap.size,1,none⟩) (Nat.le_refl _) _).setCell (p:=⟨w4.heap.size,2,none⟩) (Nat.le_refl _) _,by simpa using h1⟩
theorem BoxS.cells {w3 wc:World} {b:Nat} {id:Int} {d:Bool} {bz:Int} (h:BoxS w3 wc b id d bz) {W:World} (hW:Below wc.heap.size wc W):W.cell? ⟨b,0,none⟩ = some (.int .i64 id) ∧ W.cell? ⟨b,1,none⟩ = some (.bool d) ∧ W.cell? ⟨b,2,none⟩ = some (.int .i64 bz):=by
 have:=Below.heap hW (Nat.le_refl _) h.cell
 exact ⟨cellAt this 0,cellAt this 1,cellAt this 2⟩
end Go.Proofs.YtaonlcgneemimaaGreatDoor
