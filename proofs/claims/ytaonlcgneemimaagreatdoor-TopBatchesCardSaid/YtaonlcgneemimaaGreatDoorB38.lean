/- TopBatches: the contracts of AY6, AB1, AC2, AR3; no condition. -/
import Derived.Test.YtaonlcgneemimaaGreatDoorB37
import Derived.Test.YtaonlcgneemimaaGreatDoorB35
import Derived.Test.YtaonlcgneemimaaGreatDoorB25
namespace Go.Proofs.YtaonlcgneemimaaGreatDoor
open Go.RowKit
def PcsOkG (w:World) (ev:ItemA) (parts:List PartA) (da:Option Addr) (dn dc:Nat) (P P':List (List Int)):Prop :=
 ∀ (W:World) (B c bl bb:Nat) (vs:List Value) (fb:Int → Option Value) (m:Nat) (sz:Int),Below w.heap.size w W → ChunksAt W B c P bl bb vs fb m sz → B ≤ W.heap.size →
  Calls Tryz.prog 27 #[.pointer (some ⟨c,0,none⟩),.agg #[.int .i64 ev.op,.string ev.path,.string ev.to,.int .i64 ev.off,.int .i64 ev.size,.slice da dn dc]] W fun e w' => ∃ v',e = .returned v' ∧ Sl w' 134 4 v' parts.length (partsC parts) ∧ (∃ vs' fb' m' sz',ChunksAt w' B c P' bl bb vs' fb' m' sz' ∧ VsOk W vs vs') ∧ Below B W w' ∧ KeptC W w'
structure IngCG (w2 wc:World) (B c bl bb:Nat) (vs:List Value) (P':List (List Int)) (k:Nat) (i:ItemA) (v':Value) (q:Nat):Prop where
 box:wc.heap[q]? = some (.cells #[.float .f64 (stF k),.int .i64 i.op,.string i.path,.string i.to,.int .i64 i.off,.int .i64 i.size,.slice none 0 0,v'] 86 (0,0))
 qB:B ≤ q
 parts:Sl wc 134 4 v' i.parts.length (partsC i.parts)
 chunks:∃ vs' fb' m' sz',ChunksAt wc B c P' bl bb vs' fb' m' sz' ∧ VsOk w2 vs vs'
 below:Below B w2 wc
theorem ing_allocG {w2 W:World} {B c bl bb:Nat} {vs:List Value} {P':List (List Int)} {k:Nat} {i:ItemA} {v':Value} (hs:Sl W 134 4 v' i.parts.length (partsC i.parts)) (hc:∃ vs' fb' m' sz',ChunksAt W B c P' bl bb vs' fb' m' sz' ∧ VsOk w2 vs vs') (hb:Below B w2 W) (hB:B ≤ w2.heap.size) :
  IngCG w2 (W.alloc (.cells #[.float .f64 (stF k),.int .i64 i.op,.string i.path,.string i.to,.int .i64 i.off,.int .i64 i.size,.slice none 0 0,v'] 86)) B c bl bb vs P' k i v' W.heap.size:=by
 obtain ⟨vs',fb',m',sz',hc,hvo⟩:=hc
 have hs2:=hb.size
 exact ⟨heap_new _ _,by omega,hs.below ((Below.refl _ _).alloc (Nat.le_refl _) _),⟨vs',fb',m',sz',hc.below ((Below.refl _ _).alloc (Nat.le_refl _) _),hvo⟩,hb.alloc (by omega) _⟩
theorem ing_setG {w2 W:World} {B c bl bb q:Nat} {vs:List Value} {P':List (List Int)} {k:Nat} {i:ItemA} {v':Value} (hs:Sl W 134 4 v' i.parts.length (partsC i.parts)) (hc:∃ vs' fb' m' sz',ChunksAt W B c P' bl bb vs' fb' m' sz' ∧ VsOk w2 vs vs') (hb:Below B w2 W) (hq:B ≤ q) (hz:W.heap[q]? = some (.cells rowZ 86 (0,0))) :
  IngCG w2 (rowW W q (.float .f64 (stF k)) (.int .i64 i.op) (.string i.path) (.string i.to) (.int .i64 i.off) (.int .i64 i.size) (.slice none 0 0) v') B c bl bb vs P' k i v' q:=by
 obtain ⟨vs',fb',m',sz',hc,hvo⟩:=hc
 obtain ⟨h1,h2⟩:=row_box hz (.float .f64 (stF k)) (.int .i64 i.op) (.string i.path) (.string i.to) (.int .i64 i.off) (.int .i64 i.size) (.slice none 0 0) v'
 have hty:∀ t,t ≠ 86 → ∀ g ∈ [q],∀ arr,W.heap[g]? ≠ some (.cells arr t (0,0)):=fun t ht g hg arr he => by
  simp only [List.mem_singleton] at hg
  subst hg
  exact cells_ty hz he (Ne.symm ht) rfl
 refine ⟨h1,hq,hs.frame h2 (hty 134 (by decide)),⟨vs',fb',m',sz',hc.frame h2 ?_ ?_ ?_ ?_ (hty 5 (by decide)),hvo⟩,h2.belowIf hb (by simpa using hq) (by have:=heap_lt hz;omega)⟩
 ·simpa using (cells_ty hc.cell hz (by decide))
 ·simp only [List.mem_singleton]
  rintro rfl
  exact hc.ml.cells hz
 ·simp only [List.mem_singleton]
  rintro rfl
  exact hc.mb.cells hz
 ·intro k v g hv hg
  obtain ⟨arr,ha⟩:=own_heap (hc.rows k v hv).1 hg
  simpa using (cells_ty ha hz (by decide))
def IngPostG (w:World) (r:Nat) (X:RepXG) (i:ItemA) (P':List (List Int)) (w':World):Prop :=
 ∃ (c' bl' bb':Nat) (vs':List Value) (fb':Int → Option Value) (m':Nat) (sz':Int) (rv':Value) (nb':Nat) (g':Int → Option Value),
  RepG w' r { X with c:=c',P:=P',bl:=bl',bb:=bb',vs:=vs',fb:=fb',m:=m',sz:=sz',rv:=rv',its:=X.its ++ [(X.now,i)],Ky:=X.Ky + i.parts.length + 1,y:=⟨X.y.s,X.y.a,X.y.b,X.y.sm,nb',g',stepG X.y.x i⟩ } ∧ Frame (X.m1 r) w w' ∧ VsOk w X.vs vs' ∧ (w.heap.size ≤ c' ∧ w.heap.size ≤ bl' ∧ w.heap.size ≤ bb' ∧ ∀ k v g,fb' k = some v → v.ownBlock = some g → w.heap.size ≤ g)
theorem RepG.mu_m1 {w:World} {r:Nat} {X:RepXG} (H:RepG w r X):(∀ k ∈ X.x.mut X.e,k ∉ X.m1 r) ∧ (∀ k ∈ histM X.h X.pv X.sv,k ∉ X.m1 r) ∧ X.dm ∉ X.m1 r ∧ X.x.b ∉ X.m1 r:=by
 have hy:∀ k ∈ X.mu r,k ≠ X.y.a ∧ k ≠ X.y.b ∧ k ≠ X.y.sm:=fun k hk => ⟨fun h => H.ynot X.y.a (by simp [StXG.blocks]) (h ▸ hk),fun h => H.ynot X.y.b (by simp [StXG.blocks]) (h ▸ hk),fun h => H.ynot X.y.sm (by simp [StXG.blocks]) (h ▸ hk)⟩
 have hr:∀ k,k ≠ r → (k ≠ X.y.a ∧ k ≠ X.y.b ∧ k ≠ X.y.sm) → k ∉ X.m1 r:=fun k h1 h2 => by simp [RepXG.m1,h1,h2]
 refine ⟨fun k hk => hr k ?_ (hy k (by simp [RepXG.mu,hk])),fun k hk => hr k ?_ (hy k (by simp [RepXG.mu,hk])),hr _ ?_ (hy _ (by simp [RepXG.mu])),?_⟩
 ·rintro rfl
  exact H.eng.typed.out H.cell (by decide) hk
 ·rintro rfl
  obtain ⟨arr,t,h1,h2⟩:=histM_tyG H.hist k hk
  have h3:t = 77:=by
   have h4:=H.cell
   rw [h1] at h4
   injection h4 with h4
   injection h4
  subst h3
  rcases h2 with h | h | h <;> exact absurd h (by decide)
 ·intro h
  have:=H.cell
  rw [← h] at this
  exact H.dmap.cells this
 ·obtain ⟨ba,hba⟩:=H.eng.space.blk
  exact H.ty1.out hba (by decide)
theorem ing_closeG {w w5 w6:World} {r:Nat} {X:RepXG} {i:ItemA} {P':List (List Int)} {B c' bl' bb' m' nb':Nat} {vs':List Value} {fb' g':Int → Option Value} {sz':Int} {rv':Value} (H:RepG w r X) (hi:OkG X.y.x X.Ky i) (hg:i.good) (hpt:PtsOk (allPts X.xs (X.its ++ [(X.now,i)]))) (hb5:Below w.heap.size w w5)
  (hc:ChunksAt w5 B c' P' bl' bb' vs' fb' m' sz') (hvo:VsOk w X.vs vs') (hB:w.heap.size ≤ B) (hr:RowsGV w5 rv' (X.its ++ [(X.now,i)])) (hst:StGt w6 (X.Ky + i.parts.length + 1) ⟨X.y.s,X.y.a,X.y.b,X.y.sm,nb',g',stepG X.y.x i⟩) (hf:Frame [X.y.a,X.y.b,X.y.sm] w5 w6) :
  IngPostG w r X i P' ((w6.setCell ⟨r,2,none⟩ (.pointer (some ⟨c',0,none⟩))).setCell ⟨r,5,none⟩ rv'):=by
 have H5:=H.below hb5
 have F6:Frame (X.m1 r) w5 w6:=hf.mono (fun x hx => .inl (by simp only [RepXG.m1,List.mem_cons] at hx ⊢;right;exact hx))
 have hy0:∀ k ∈ X.y.blocks,k ≠ r:=fun k hk h => H.ynot k hk (by simp [RepXG.mu,h])
 have hr6:r ∉ [X.y.a,X.y.b,X.y.sm]:=by
  have h1:=hy0 X.y.a (by simp [StXG.blocks])
  have h2:=hy0 X.y.b (by simp [StXG.blocks])
  have h3:=hy0 X.y.sm (by simp [StXG.blocks])
  simp [Ne.symm h1,Ne.symm h2,Ne.symm h3]
 have hc6:=hf.heap H5.cell hr6
 have F7:Frame [r] w6 ((w6.setCell ⟨r,2,none⟩ (.pointer (some ⟨c',0,none⟩))).setCell ⟨r,5,none⟩ rv'):=((Frame.refl [r] w6).setCell (p:=⟨r,2,none⟩) (.inl (by simp)) _).setCell (p:=⟨r,5,none⟩) (.inl (by simp)) _
 have F:Frame (X.m1 r) w5 ((w6.setCell ⟨r,2,none⟩ (.pointer (some ⟨c',0,none⟩))).setCell ⟨r,5,none⟩ rv'):=F6.trans F7 (fun x hx => .inl (by simp only [List.mem_singleton] at hx;simp [RepXG.m1,hx]))
 obtain ⟨k1,k2,k3,k4⟩:=H5.mu_m1
 have T1:=H5.ty1
 have L1:=H.ty1.lt
 have L2:=H.ty2.lt
 have hnew:∀ g,B ≤ g → g ∉ X.m1 r ∧ g ∉ X.mu r:=fun g hg => ⟨fun h => by have:=L1 g h;omega,fun h => by have:=L2 g h;omega⟩
 have hcl:=hc.lo
 refine ⟨c',bl',bb',vs',fb',m',sz',rv',nb',g',⟨?_,H5.eng.frame F k1 k4,H5.hist.frame F k2 (fun z hz k hk => (H.znot z hz k hk).2) H.one.2 (T1.no (by decide)),(hc.frame F (hnew _ hcl.1).1 (hnew _ hcl.2.1).1 (hnew _ hcl.2.2).1 (fun k v g hv hg => (hnew g ((hc.rows k v hv).1.lt g hg).1).1) (T1.no (by decide))).weak (Nat.zero_le _),H5.dmap.same (F.block _ H5.dmap.lt k3),H.dval,hr.frame F (T1.no (by decide)) (T1.no (by decide)),?_,?_,?_,?_,?_,hpt,⟨H.clock.1,?_⟩,H.one,H.ynot,H.znot,⟨(hnew _ hcl.2.1).2,(hnew _ hcl.2.2).2⟩,fun k v g hv hg => (hnew g ((hc.rows k v hv).1.lt g hg).1).2,H.dne⟩,(Frame.of_below hb5 _).trans F (fun x hx => .inl hx),hvo,Nat.le_trans hB hcl.1,Nat.le_trans hB hcl.2.1,Nat.le_trans hB hcl.2.2,fun k v g hv hg => Nat.le_trans hB ((hc.rows k v hv).1.lt g hg).1⟩
 ·have:=setAt (setAt hc6 2 (.pointer (some ⟨c',0,none⟩))) 5 rv'
  simpa using this
 ·refine hst.frame F7 (fun k hk => by simpa using hy0 k hk) (fun h => H.one.1 (by simp only [List.mem_singleton] at h;simp [RepXG.mu,h])) (fun k hk arr he => ?_)
  simp only [List.mem_singleton] at hk
  subst hk
  exact cells_ty hc6 he (by decide) rfl
 ·show stepG X.y.x i = _
  rw [stepAllG_snoc,← H.yx]
 ·exact okAllG_snoc _ _ _ _ H.ok (by rw [← H.yx,← H.ky];exact hi)
 ·show X.Ky + i.parts.length + 1 = _
  rw [kAll_snoc,H.ky]
 ·intro j hj
  rcases List.mem_append.1 hj with hj | hj
  ·exact H.good j hj
  ·simp only [List.mem_singleton] at hj
   subst hj
   exact hg
 ·intro p hp
  unfold allPts at hp
  rw [List.map_append] at hp
  simp only [List.map_cons,List.map_nil,List.mem_append,List.mem_singleton] at hp
  rcases hp with hp | hp | rfl
  ·exact H.clock.2 p (List.mem_append_left _ hp)
  ·exact H.clock.2 p (List.mem_append_right _ hp)
  ·exact Nat.le_refl _
end Go.Proofs.YtaonlcgneemimaaGreatDoor
namespace Go.Proofs.YtaonlcgneemimaaGreatDoor
open Go.RowKit
structure EvR where
 ev:ItemA
 dn:Nat
 zs:List Int
def EvsX (w:World) (A:Option Addr) (evs:List EvR):Prop :=
 ∀ (j:Nat) (e:EvR),evs[j]? = some e → ∃ g off da dc,A = some ⟨g,off,none⟩ ∧ g < w.heap.size ∧
  w.cell? ⟨g,off + j * 6,none⟩ = some (.int .i64 e.ev.op) ∧ w.cell? ⟨g,off + j * 6 + 1,none⟩ = some (.string e.ev.path) ∧ w.cell? ⟨g,off + j * 6 + 2,none⟩ = some (.string e.ev.to) ∧ w.cell? ⟨g,off + j * 6 + 3,none⟩ = some (.int .i64 e.ev.off) ∧ w.cell? ⟨g,off + j * 6 + 4,none⟩ = some (.int .i64 e.ev.size) ∧ w.cell? ⟨g,off + j * 6 + 5,none⟩ = some (.slice da e.dn dc) ∧
  ArgB w da e.dn dc e.zs ∧ e.dn ≤ maxLen
def FewOk (evs:List EvR):Prop:=evs.length ≤ 30 ∧ ∀ e ∈ evs,e.ev.path.size ≤ 300 ∧ e.ev.to.size ≤ 300
set_option maxRecDepth 100000 in
set_option maxHeartbeats 4000000 in
theorem few_g (w:World) (A:Option Addr) (n cap:Nat) (evs:List EvR) (hn:evs.length = n) (hcap:n ≤ maxLen) (H:EvsX w A evs) :
  Calls Tryz.prog 12 #[.slice A n cap] w fun e w' => ∃ b,e = .returned (.bool b) ∧ w' = w ∧ (b = true → FewOk evs):=by
 have hml:maxLen = 9223372036854775807:=by decide
 have HH:=Lib.hid H
 have HN:=Lib.hid hn
 obtain ⟨F,hF⟩:∃ F,Hid (F = FewOk evs):=⟨_,Lib.hid rfl⟩
 rw [← hF.out]
 rw [hml] at hcap
 clear H hn hml
 go_enter Tryz.func12,Tryz.ntmps12
 go_wp2
 go_loopw [3,4] (fun t3 ti wr => wr = w ∧ ∃ (k:Nat) (z:Int),k ≤ n ∧ k ≤ 30 ∧ ti = .int .i64 k ∧ t3 = .int .i64 z ∧ Hid (∀ e ∈ evs.take k,e.ev.path.size ≤ 300 ∧ e.ev.to.size ≤ 300)) (fun _ ti _ => n - (intOf ti).toNat)
 case atStart => exact ⟨rfl,0,0,by omega,by omega,rfl,rfl,Lib.hid (by simp)⟩
 case round =>
  obtain ⟨hwr,k,z,hk,hk30,rfl,rfl,hall⟩:=hrel
  have hwr:=hwr.symm
  subst hwr
  by_cases hlt:k < n
  ·obtain ⟨e,he⟩:∃ e,evs[k]? = some e:=⟨_,List.getElem?_eq_getElem (by have:=HN.out;omega)⟩
   obtain ⟨g,off,da,dc,rfl,hg,c0,c1,c2,c3,c4,c5,hA,hdn⟩:=HH.out k e he
   have hev:e.dn < 9223372036854775808:=by (have:maxLen = 9223372036854775807:=by decide);omega
   have HE:=Lib.hid he
   obtain ⟨ps,hps⟩:∃ ps,e.ev.path.size = ps:=⟨_,rfl⟩
   obtain ⟨ts,hts⟩:∃ ts,e.ev.to.size = ts:=⟨_,rfl⟩
   obtain ⟨z2,hz2⟩:∃ z2,IntKind.i64.wrap (z + e.dn) = z2:=⟨_,rfl⟩
   have HS:=Lib.hid (And.intro hps hts)
   clear hA hdn he
   by_cases h30:k = 30
   ·subst h30
    clear hps hts
    go_wp2
    go_ret
    exact .inl ⟨rfl,rfl⟩
   ·have d30:decide ((30:Int) ≤ k) = false:=by simp;omega
    by_cases hp:300 < ps
    ·have dp:decide ((300:Int) < (ps:Int)) = true:=by simp;omega
     clear hts
     go_wp2
     go_ret
     exact .inl ⟨rfl,rfl⟩
    ·have dp:decide ((300:Int) < (ps:Int)) = false:=by simp;omega
     by_cases ht:300 < ts
     ·have dt:decide ((300:Int) < (ts:Int)) = true:=by simp;omega
      go_wp2
      go_ret
      exact .inl ⟨rfl,rfl⟩
     ·have dt:decide ((300:Int) < (ts:Int)) = false:=by simp;omega
      by_cases hz:(4000:Int) < z2
      ·have dz:decide ((4000:Int) < z2) = true:=by simp;omega
       go_wp2
       go_ret
       exact .inl ⟨rfl,rfl⟩
      ·have dz:decide ((4000:Int) < z2) = false:=by simp;omega
       have HNX:Hid (∀ e ∈ evs.take (k + 1),e.ev.path.size ≤ 300 ∧ e.ev.to.size ≤ 300):=Lib.hid (by
        rw [take_snoc HE.out]
        intro x hx
        rcases List.mem_append.1 hx with hx | hx
        ·exact hall.out x hx
        ·simp only [List.mem_singleton] at hx
         subst hx
         have:=HS.out
         omega)
       clear hall
       go_wp2
       go_roundw
       case rel => exact ⟨(by first | rfl | trivial),k + 1,z2,by omega,by omega,by go_num,rfl,HNX⟩
       case measure => simp [intOf];omega
  ·have hkn:k = n:=by omega
   subst hkn
   have HF:Hid F:=Lib.hid (by
    rw [hF.out]
    have h:=hall.out
    rw [← HN.out,List.take_length] at h
    exact ⟨by have:=HN.out;omega,h⟩)
   clear hall
   go_wp2
   go_ret
   exact .inr ⟨rfl,(by first | rfl | trivial),HF.out⟩
end Go.Proofs.YtaonlcgneemimaaGreatDoor
namespace Go.Proofs.YtaonlcgneemimaaGreatDoor
open Go.RowKit
theorem fileG_look {T:TreeF} {s:ByteArray} (h:(fileG T s).2 = 0):(lookG T s).2.2 = 0:=by
 unfold fileG at h
 split at h
 ·cases h
 ·exact h
theorem look_size {T:TreeF} {s:ByteArray} (h:(lookG T s).2.2 = 0):s.size ≤ 64:=by
 cases hs:splitP s with
 | none => unfold lookG at h;rw [hs] at h;cases h
 | some l => exact splitP_size hs
structure EvNice (ev:ItemA) (dn:Nat):Prop where
 op1:1 ≤ ev.op
 op2:ev.op ≤ 8
 path:ev.path.size ≤ 64
 tt:ev.op = 5 → ev.to.size ≤ 64
 wr:ev.op = 3 → 0 ≤ ev.off ∧ ev.off + dn ≤ 1099511627776 ∧ dn ≤ 1024
 tr:ev.op = 4 → 0 ≤ ev.size ∧ ev.size ≤ 1099511627776
 nm:ev.op = 8 → nameOk ev.path = true
theorem ev_nice {T:TreeF} {n:Nat} {ev:ItemA} {dn:Nat} (h:checkG T n ev.op ev.path ev.to ev.off ev.size dn = 0):EvNice ev dn:=by
 unfold checkG at h
 by_cases o12:ev.op = 1 ∨ ev.op = 2
 ·rw [if_pos o12] at h
  have hp:ev.path.size ≤ 64:=by
   unfold canG at h
   split at h
   ·rename_i h1
    exact absurd h h1
   ·rename_i h1
    have h1:parentG T ev.path = 0:=by simpa using h1
    unfold parentG at h1
    cases hs:splitP ev.path with
    | none => rw [hs] at h1;cases h1
    | some l => exact splitP_size hs
  exact ⟨by omega,by omega,hp,fun h => by omega,fun h => by omega,fun h => by omega,fun h => by omega⟩
 rw [if_neg o12] at h
 by_cases o3:ev.op = 3
 ·rw [if_pos o3] at h
  obtain ⟨⟨id,hf,-⟩,h0,h1,h2⟩:=writeG_zero h
  exact ⟨by omega,by omega,look_size (fileG_look (by rw [hf])),fun h => by omega,fun _ => ⟨h0,h2,h1⟩,fun h => by omega,fun h => by omega⟩
 rw [if_neg o3] at h
 by_cases o4:ev.op = 4
 ·rw [if_pos o4] at h
  obtain ⟨⟨id,hf,-⟩,h0,h1⟩:=truncG_zero h
  exact ⟨by omega,by omega,look_size (fileG_look (by rw [hf])),fun h => by omega,fun h => by omega,fun _ => ⟨h0,h1⟩,fun h => by omega⟩
 rw [if_neg o4] at h
 by_cases o5:ev.op = 5
 ·rw [if_pos o5] at h
  unfold canRenG at h
  split at h
  ·cases h
  ·rename_i hs
   simp only [not_or] at hs
   obtain ⟨l1,h1⟩:=Option.ne_none_iff_exists'.1 hs.1
   obtain ⟨l2,h2⟩:=Option.ne_none_iff_exists'.1 hs.2
   exact ⟨by omega,by omega,splitP_size h1,fun _ => splitP_size h2,fun h => by omega,fun h => by omega,fun h => by omega⟩
 rw [if_neg o5] at h
 have hd:∀ d,canDropG T ev.path d = 0 → ev.path.size ≤ 64:=fun d hd => by
  unfold canDropG at hd
  refine look_size (T:=T) ?_
  by_cases c:(lookG T ev.path).2.2 = 0
  ·exact c
  ·exfalso
   simp only [ne_eq,c,not_false_eq_true,if_true] at hd
 by_cases o6:ev.op = 6
 ·rw [if_pos o6] at h
  exact ⟨by omega,by omega,hd _ h,fun h => by omega,fun h => by omega,fun h => by omega,fun h => by omega⟩
 rw [if_neg o6] at h
 by_cases o7:ev.op = 7
 ·rw [if_pos o7] at h
  exact ⟨by omega,by omega,hd _ h,fun h => by omega,fun h => by omega,fun h => by omega,fun h => by omega⟩
 rw [if_neg o7] at h
 by_cases o8:ev.op = 8
 ·rw [if_pos o8] at h
  have hn:nameOk ev.path = true:=by
   cases hx:nameOk ev.path with
   | true => rfl
   | false => rw [hx] at h;simp at h
  exact ⟨by omega,by omega,by have:=nameOk_size hn;omega,fun h => by omega,fun h => by omega,fun h => by omega,fun _ => hn⟩
 ·rw [if_neg o8] at h
  cases h
theorem check_clean {T:TreeF} {n:Nat} {ev:ItemA} {dn:Nat} (h:checkG T n ev.op ev.path ev.to ev.off ev.size dn = 0) (ps:List PartA):checkG T n (cleanI ev.op ev.path ev.to ev.off ev.size ps).op (cleanI ev.op ev.path ev.to ev.off ev.size ps).path (cleanI ev.op ev.path ev.to ev.off ev.size ps).to (cleanI ev.op ev.path ev.to ev.off ev.size ps).off (cleanI ev.op ev.path ev.to ev.off ev.size ps).size 0 = 0:=by
 unfold cleanI
 simp only
 unfold checkG at h ⊢
 by_cases o12:ev.op = 1 ∨ ev.op = 2
 ·rw [if_pos o12] at h ⊢
  exact h
 rw [if_neg o12] at h ⊢
 by_cases o3:ev.op = 3
 ·rw [if_pos o3] at h ⊢
  rw [if_pos o3]
  obtain ⟨⟨id,hf,-⟩,h0,h1,h2⟩:=writeG_zero h
  unfold writeG
  rw [hf]
  simp
  omega
 rw [if_neg o3] at h ⊢
 by_cases o4:ev.op = 4
 ·rw [if_pos o4] at h ⊢
  rw [if_pos o4]
  exact h
 rw [if_neg o4] at h ⊢
 by_cases o5:ev.op = 5
 ·rw [if_pos o5] at h ⊢
  rw [if_pos o5]
  exact h
 rw [if_neg o5] at h ⊢
 exact h
noncomputable def evParts (P:List (List Int)) (ev:ItemA) (d:List Int):List PartA:=if ev.op = 3 then piecesA P (cutL d) else []
noncomputable def evP (P:List (List Int)) (ev:ItemA) (d:List Int):List (List Int):=if ev.op = 3 then putAll P (cutL d) else P
noncomputable def evItem (P:List (List Int)) (ev:ItemA) (d:List Int):ItemA:=cleanI ev.op ev.path ev.to ev.off ev.size (evParts P ev d)
theorem evParts_few (P:List (List Int)) (ev:ItemA) (d:List Int) (h:ev.op = 3 → d.length ≤ 1024):(evParts P ev d).length ≤ 128:=by
 unfold evParts
 split
 ·rename_i o
  rw [piecesA_len]
  have:=(cutL_all d).2.2
  have:=h o
  omega
 ·simp
theorem evP_len (P:List (List Int)) (ev:ItemA) (d:List Int) (h:ev.op = 3 → d.length ≤ 1024):(evP P ev d).length ≤ P.length + 128:=by
 unfold evP
 split
 ·rename_i o
  have h1:=putAll_len (cutL d) P
  have:=(cutL_all d).2.2
  have:=h o
  omega
 ·omega
theorem evP_pre (P:List (List Int)) (ev:ItemA) (d:List Int):P <+: evP P ev d:=by
 unfold evP
 split
 ·exact putAll_prefix _ _
 ·exact List.prefix_rfl
theorem evParts_in {P:List (List Int)} (hn:P.Nodup) (ev:ItemA) (d:List Int):∀ q ∈ evParts P ev d,PartIn (evP P ev d) q:=by
 unfold evParts evP
 by_cases o:ev.op = 3
 ·rw [if_pos o,if_pos o]
  exact pieces_in _ _ hn
 ·rw [if_neg o]
  intro q hq
  simp at hq
theorem evParts_fits {P:List (List Int)} (hn:P.Nodup) (hs:P.length ≤ 50000) (ev:ItemA) (d:List Int) (h:ev.op = 3 → d.length ≤ 1024):∀ q ∈ evParts P ev d,q.off = 0 ∧ q.fits:=by
 unfold evParts
 by_cases o:ev.op = 3
 ·rw [if_pos o]
  have h1:=cutL_all d
  have:=h o
  exact piecesA_fits _ _ hn (by omega) h1.2.1
 ·rw [if_neg o]
  intro q hq
  simp at hq
theorem evItem_good {P:List (List Int)} (hn:P.Nodup) (hs:P.length ≤ 50000) {ev:ItemA} {d:List Int} (h:EvNice ev d.length):(evItem P ev d).good:=by
 have hd:ev.op = 3 → d.length ≤ 1024:=fun o => (h.wr o).2.2
 refine ⟨h.op1,h.op2,h.path,?_,fun o => ?_,fun o => ?_,fun o => ?_,?_,?_,?_,?_,evParts_fits hn hs ev d hd,fun o => ?_,by have:=evParts_few P ev d hd;show (evParts P ev d).length ≤ 1000;omega⟩
 ·show (if ev.op = 5 then ev.to else ⟨#[]⟩).size ≤ 64
  split
  ·exact h.tt (by assumption)
  ·decide
 ·exact if_neg o
 ·exact if_neg o
 ·exact if_neg o
 ·show 0 ≤ (if ev.op = 3 then ev.off else 0)
  split
  ·exact (h.wr (by assumption)).1
  ·decide
 ·show (if ev.op = 3 then ev.off else 0) ≤ 1099511627776
  split
  ·have:=h.wr (by assumption)
   omega
  ·decide
 ·show 0 ≤ (if ev.op = 4 then ev.size else 0)
  split
  ·exact (h.tr (by assumption)).1
  ·decide
 ·show (if ev.op = 4 then ev.size else 0) ≤ 1099511627776
  split
  ·exact (h.tr (by assumption)).2
  ·decide
 ·exact if_neg o
theorem evItem_ok {x:AbsG} {K:Nat} {P:List (List Int)} (hn:P.Nodup) (hs:P.length ≤ 50000) {ev:ItemA} {d:List Int} (hc:checkG x.T x.n ev.op ev.path ev.to ev.off ev.size d.length = 0) (hK:K ≤ 9000) (hnx:x.next < 100000):OkG x K (evItem P ev d):=by
 have h:=ev_nice hc
 have hg:=evItem_good hn hs h
 refine ⟨check_clean hc _,by have:=hg.path;omega,by have:=hg.to;omega,fun p hp => (hg.parts p hp).2,fun o => ?_,by have:=evParts_few P ev d (fun o => (h.wr o).2.2);show K + (evParts P ev d).length + 1 ≤ 10000;omega,hnx⟩
 have o:ev.op = 3:=o
 show (if ev.op = 3 then ev.off else 0) + sumLen (evParts P ev d) ≤ _
 unfold evParts
 rw [if_pos o,if_pos o,sumLen_pieces,(cutL_all d).1]
 have:=h.wr o
 omega
structure RowsP (R:List RowA) (P:List (List Int)) (j:Nat):Prop where
 len:R.length ≤ j
 j30:j ≤ 30
 nodup:P.Nodup
 plen:P.length ≤ 128 * j
 whole:∀ k,WholeG P (stepAllG AbsG.new (R.take k))
 parts:∀ r ∈ R,r.2.parts.length ≤ 128
 good:∀ r ∈ R,r.2.good
 ok:okAllG AbsG.new 0 R
 pts:PtsOk (R.map rowPt)
 clock:∀ r ∈ R,r.1 ≤ j
theorem RowsP.nil:RowsP [] [] 0:=⟨by simp,by omega,List.nodup_nil,by simp,fun k => by simp [stepAllG];exact WholeG.new _,fun r h => by simp at h,fun r h => by simp at h,trivial,PtsOk.nil,fun r h => by simp at h⟩
theorem RowsP.tick {R:List RowA} {P:List (List Int)} {j:Nat} (h:RowsP R P j) (hj:j + 1 ≤ 30):RowsP R P (j + 1):=⟨by have:=h.len;omega,hj,h.nodup,by have:=h.plen;omega,h.whole,h.parts,h.good,h.ok,h.pts,fun r hr => Nat.le_succ_of_le (h.clock r hr)⟩
theorem kAll_le:∀ (R:List RowA) (K:Nat),(∀ r ∈ R,r.2.parts.length ≤ 128) → kAll K R ≤ K + 129 * R.length
 | [],K,_ => by simp [kAll]
 | r :: R,K,h => by
  have h1:=kAll_le R (K + r.2.parts.length + 1) (fun x hx => h x (List.mem_cons_of_mem _ hx))
  have h2:=h r (by simp)
  have e:kAll K (r :: R) = kAll (K + r.2.parts.length + 1) R:=rfl
  rw [e,List.length_cons]
  omega
theorem step_next (x:AbsG) (i:ItemA):(stepG x i).next ≤ x.next + 1:=by
 unfold stepG
 repeat' split
 all_goals (first | omega | (simp only;omega) | (dsimp only;omega))
theorem stepAll_next:∀ (R:List RowA) (x:AbsG),(stepAllG x R).next ≤ x.next + R.length
 | [],x => by simp [stepAllG]
 | r :: R,x => by
  have h1:=stepAll_next R (stepG x r.2)
  have h2:=step_next x r.2
  have e:stepAllG x (r :: R) = stepAllG (stepG x r.2) R:=rfl
  rw [e,List.length_cons]
  push_cast
  omega
noncomputable def refuseC (R:List RowA) (e:EvR):Int :=
 if checkG (stepAllG AbsG.new R).T (stepAllG AbsG.new R).n e.ev.op e.ev.path e.ev.to e.ev.off e.ev.size e.dn ≠ 0 then checkG (stepAllG AbsG.new R).T (stepAllG AbsG.new R).n e.ev.op e.ev.path e.ev.to e.ev.off e.ev.size e.dn
 else if e.ev.op = 8 ∧ markedB (R.map rowPt) e.ev.path = true then 11 else 0
def EvR.data (e:EvR):List Int:=e.zs.take e.dn
end Go.Proofs.YtaonlcgneemimaaGreatDoor
namespace Go.Proofs.YtaonlcgneemimaaGreatDoor
open Go.RowKit
set_option maxRecDepth 100000 in
set_option maxHeartbeats 4000000 in
theorem batchBytes_full (w:World) (seq:Nat) (v:Value) (its:List RowA) (h:RowsGV w v its) (hg:∀ i ∈ its,i.2.good) (hst:StOk its) (hne:its ≠ []) (hn:its.length ≤ 100000) (h1:1 ≤ seq) (h2:seq ≤ 4611686018427387904) (hlen:(recordG seq its).length ≤ 700000) (hbig:16384 < (recordG seq its).length) :
  Calls Tryz.prog 60 #[.agg (RecC seq v).toArray] w fun e w' => e = .returned (.tuple #[.slice none 0 0,.int .i64 12]) ∧ Below w.heap.size w w':=by
 have HR:=Lib.hid h
 have HG:=Lib.hid hg
 have HNE:=Lib.hid hne
 have HST:=Lib.hid hst
 have HLEN:=Lib.hid hlen
 have HBIG:=Lib.hid hbig
 obtain ⟨ra,rc,rfl,hcap,-,hcells⟩:=rowsG_cells h
 have HC:=Lib.hid hcells
 have N9:=Lib.hid (numB_len 8 seq (by omega))
 have N8:=Lib.hid (numB_len 8 its.length (by omega))
 obtain ⟨pre,hpre⟩:∃ pre,Hid (pre = [(1:Int)] ++ numB seq ++ numB its.length):=⟨_,rfl⟩
 have HREC:=Lib.hid (show recordG seq its = pre ++ its.flatMap rowGB by rw [hpre.out];rfl)
 clear h hg hne hlen hbig hcells hst
 unfold RecC
 go_enter Tryz.func60,Tryz.ntmps60
 go_wp2_with (first
  | (go_at_call 108;refine (batchMay_g _ seq _ its (HR.out.below ((Below.refl _ w).alloc (Nat.le_refl _) _)) HG.out HST.out HNE.out hn (by omega) (by omega)).mono ?_;rintro e w1 ⟨rfl,hq⟩;have HB1:=Lib.hid (((Below.refl w.heap.size w).alloc (Nat.le_refl _) _).trans (hq.mono (by simp)));have HX1:=Lib.hid (Below.heap hq (Nat.le_refl _) (heap_new w (.cells #[.int .i64 1,.int .i64 seq,.slice ra its.length rc,.float .f64 0,.string ⟨#[]⟩,.slice none 0 0] 137)));have HP0:=Lib.hid (PenRec.mk (cs:=[.int .i64 1,.int .i64 seq,.slice ra its.length rc,.float .f64 0,.string ⟨#[]⟩,.slice none 0 0]) ((pen_new w1).mono HB1.out.size) (HB1.out.alloc HB1.out.size (.cells #[.slice none 0 0] 197)) (heap_old HX1.out _));obtain ⟨x00,x01,x02,-⟩:=HP0.out.facts;clear hq)
  | (go_at_call 109;with_reducible refine (byte_k _ _ _ _ (by simp) _ HP0.out.pen).mono ?_;rintro e w2 ⟨rfl,hq,hb',hk'⟩;have HP1:=Lib.hid (HP0.out.step hq hb' hk');obtain ⟨x10,x11,x12,-⟩:=HP1.out.facts;clear hq hb' hk')
  | (go_at_call 110;with_reducible refine (num_k _ _ _ seq (by omega) (by simp) _ HP1.out.pen).mono ?_;rintro e w3 ⟨rfl,hq,hb',hk'⟩;have HP2:=Lib.hid (HP1.out.step hq hb' hk');obtain ⟨x20,x21,x22,-⟩:=HP2.out.facts;clear hq hb' hk')
  | (go_at_call 110;with_reducible refine (num_k _ _ _ its.length (by omega) (by have:=N9.out;simp;omega) _ HP2.out.pen).mono ?_;rintro e w4 ⟨rfl,hq,hb',hk'⟩;have HP3:=Lib.hid (HP2.out.step hq hb' hk');obtain ⟨x30,x31,x32,-⟩:=HP3.out.facts;clear hq hb' hk'))
 simp only [List.nil_append] at HP3
 rw [← hpre.out] at HP3
 have HTOT:=Lib.hid (show (pre ++ its.flatMap rowGB).length ≤ 700000 by have:=HLEN.out;rwa [HREC.out] at this)
 have hsf:=fun (W:World) (p:Addr) (k:Nat) => run_store Tryz.prog W p (.float .f64 k) .plain rfl
 go_loopw [33] (fun ti wr => ∃ k:Nat,k ≤ its.length ∧ ti = .int .i64 k ∧ Hid (PenRec w wr w1.heap.size (pre ++ (its.take k).flatMap rowGB) w.heap.size [.int .i64 1,.int .i64 seq,.slice ra its.length rc,.float .f64 0,.string ⟨#[]⟩,.slice none 0 0])) (fun i _ => its.length - (intOf i).toNat)
 case atStart => exact ⟨0,by omega,rfl,by simpa using HP3⟩
 case round =>
  obtain ⟨k,hk,rfl,hpin⟩:=hrel
  by_cases hlt:k < its.length
  ·obtain ⟨i,hi⟩:∃ i,its[k]? = some i:=⟨_,List.getElem?_eq_getElem hlt⟩
   have HGI:=Lib.hid (HG.out i (List.mem_of_getElem? hi))
   have HSM:=Lib.hid (st_small (HST.out.1 i (List.mem_of_getElem? hi)))
   obtain ⟨g,off,s,rfl,hg,hs,c0,c1,c2,c3,c4,c5,c6,c7⟩:=HC.out k i hi
   have t:∀ o u,w.cell? ⟨g,o,none⟩ = some u → wr.cell? ⟨g,o,none⟩ = some u:=fun o u h => by
    rw [hpin.out.below.cell (p:=⟨g,o,none⟩) hg]
    exact h
   have q0:=t _ _ c0
   have q1:=t _ _ c1
   have q2:=t _ _ c2
   have q3:=t _ _ c3
   have q4:=t _ _ c4
   have q5:=t _ _ c5
   have q6:=t _ _ c6
   have q7:=t _ _ c7
   obtain ⟨sa,sc,rfl,-⟩:=parts_cells hs
   have HI:=Lib.hid (show ItemC w [.int .i64 i.2.op,.string i.2.path,.string i.2.to,.int .i64 i.2.off,.int .i64 i.2.size,.slice none 0 0,.slice sa i.2.parts.length sc] i.2 from ⟨_,rfl,hs⟩)
   have HSUC:=Lib.hid (show (its.take (k + 1)).flatMap rowGB = (its.take k).flatMap rowGB ++ (leB 8 (stF i.1) ++ itemB i.2) by
    rw [List.take_add_one,hi]
    simp [rowGB])
   have HLK:=Lib.hid (show (pre ++ (its.take k).flatMap rowGB).length ≤ 700000 by
    have h1:=HTOT.out
    have h2:=rowsGB_le (its:=its) (k:=k)
    simp only [List.length_append] at *;omega)
   have HPA:=Lib.hid (hpin.out.alloc (.cells #[.float .f64 (stF i.1),.int .i64 i.2.op,.string i.2.path,.string i.2.to,.int .i64 i.2.off,.int .i64 i.2.size,.slice none 0 0,.slice sa i.2.parts.length sc] 86))
   have HBX:=Lib.hid (heap_new wr (.cells #[.float .f64 (stF i.1),.int .i64 i.2.op,.string i.2.path,.string i.2.to,.int .i64 i.2.off,.int .i64 i.2.size,.slice none 0 0,.slice sa i.2.parts.length sc] 86))
   have HNE2:=Lib.hid (hpin.out.ne)
   clear c0 c1 c2 c3 c4 c5 c6 c7 t hs hi
   go_wp2_with (first
    | (go_at_call 111;with_reducible refine (float_k _ _ _ (stF i.1) (by have:=HSM.out;omega) (by have:=HLK.out;omega) _ HPA.out.pen).mono ?_;rintro e wa ⟨rfl,hq,hb',hk'⟩;have HPa:=Lib.hid (HPA.out.step hq hb' hk');have hba:=keep_at hk' HBX.out HNE2.out (fun arr e => by injection e with _ e;exact absurd e (by decide));have z1:=cellAt hba 1;have z2:=cellAt hba 2;have z3:=cellAt hba 3;have z4:=cellAt hba 4;have z5:=cellAt hba 5;have z6:=cellAt hba 6;have z7:=cellAt hba 7;clear hq hb' hk' hba)
    | (go_at_call 112;refine (itemWrite_any w _ _ _ _ i.2 HI.out HGI.out HPa.out.below HPa.out.pen (by have:=HLK.out;rw [List.length_append,leB_length];omega)).mono ?_;rintro e wb ⟨rfl,hq,hb',hk'⟩;have HPb:=Lib.hid (HPa.out.step hq hb' hk');clear hq hb' hk'))
   go_roundw
   case rel =>
    refine ⟨k + 1,by omega,by go_num,?_⟩
    rw [HSUC.out]
    show PenRec _ _ _ _ _ _
    have h:=HPb.out
    simpa only [List.append_assoc] using h
   case measure => simp [intOf];omega
  ·have hkl:k = its.length:=by omega
   subst hkl
   rw [List.take_length,← HREC.out] at hpin
   obtain ⟨-,-,-,y5⟩:=hpin.out.facts
   have h0:0 < (recordG seq its).length:=by simp [recordG]
   have d9:decide ((16384:Int) < (recordG seq its).length) = true:=by have:=HBIG.out;simp;omega
   have H0:=Lib.hid h0
   go_wp2_with fail
   go_region_held3 (fun w' => w'.cell? ⟨w.heap.size,5,none⟩ = some (.slice none 0 0)) (first | exact y5 | exact y6) (first | (go_at_call 114;refine (penBytes_any w.heap.size _ _ (by have:=HLEN.out;omega) H0.out _ (hpin.out.pen.below ((Below.refl _ _).drew))).mono ?_;rintro e w5 ⟨v',rfl,ho,hq⟩;have hbl:=hpin.out.below.trans (((Below.refl _ wr).drew.trans hq).mono hpin.out.below.size);have HB5:=Lib.hid hbl;have HO5:=Lib.hid (own_mono ho hpin.out.below.size);(have y6:w5.cell? ⟨w.heap.size,5,none⟩ = some (.slice none 0 0):=by (have hbx:=hpin.out.box;rw [World.cell?_of_block (w:=wr) (((Below.refl _ wr).drew.trans hq).block w.heap.size (heap_lt hbx))];exact y5));have hap:=append_nothing ho 33;clear ho hq hbl) | (refine step_append_run rfl _ _ 33 rfl v' w5 hap ?_))
   obtain ⟨a5,c5,rfl⟩:=own_shape HO5.out
   go_wp2
   go_ret2
   exact ⟨rfl,HB5.out⟩
set_option maxRecDepth 100000 in
set_option maxHeartbeats 1000000 in
theorem repBatch_full (KK:Nat) (w:World) (r h:Nat) (v0 v2 v3 v4 v5 v6 pv sv:Value) (xs:List HsX) (hc:w.heap[r]? = some (.cells #[v0,.pointer (some ⟨h,0,none⟩),v2,v3,v4,v5,v6] 77 (0,0))) (H:HistG KK w h pv sv xs) (v:Value) (its:List RowA) (hr:RowsGV w v its) (hg:∀ i ∈ its,i.2.good) (hst:StOk its) (hne:its ≠ []) (hn:its.length ≤ 100000) (hlen:(recordG (xs.length + 1) its).length ≤ 700000) (hbig:16384 < (recordG (xs.length + 1) its).length) :
  Calls Tryz.prog 28 #[.pointer (some ⟨r,0,none⟩),v] w fun e w' => e = .returned (.tuple #[.slice none 0 0,.int .i64 12]) ∧ Below w.heap.size w w':=by
 have hf:=H.few
 have L:=Lib.hid (lastPt_g KK w h pv sv xs H)
 have HR:=Lib.hid hr
 obtain ⟨a,cap,rfl,-,-,-⟩:=rowsG_cells hr
 obtain ⟨N,hN⟩:∃ N,Hid (N = xs.length):=⟨xs.length,Lib.hid rfl⟩
 have BB:Hid (∀ W,Below w.heap.size w W → Calls Tryz.prog 60 #[.agg #[.int .i64 1,.int .i64 ((N:Int) + 1),.slice a its.length cap,.float .f64 0,.string ⟨#[]⟩,.slice none 0 0]] W fun e w' => e = .returned (.tuple #[.slice none 0 0,.int .i64 12]) ∧ Below W.heap.size W w'):=Lib.hid (fun W hW => by
  exact batchBytes_full W (N + 1) _ its (hr.below hW) hg hst hne hn (by omega) (by have:=hN.out;omega) (by rw [hN.out];exact hlen) (by rw [hN.out];exact hbig))
 rw [← hN.out] at hf
 have L2:Hid (Calls Tryz.prog 35 #[.pointer (some ⟨h,0,none⟩)] w fun e w' => ∃ y m,e = .returned (.agg #[.int .i64 N,.float .f64 y,.string m]) ∧ Below w.heap.size w w'):=Lib.hid (by rw [hN.out];exact L.out)
 have hfd:∀ y m W,(Instr.field 52 (.agg #[.int .i64 N,.float .f64 y,.string m]) 0).run Tryz.prog W = .ok (.int .i64 N) W:=fun y m W => by kernel_rfl
 have e1:IntKind.i64.wrap ((N:Int) + 1) = (N:Int) + 1:=IntWalk.i64_in _ (by omega)
 have c1:=cellAt hc 1
 simp only [List.getElem?_toArray,List.getElem?_cons_zero,List.getElem?_cons_succ] at c1
 obtain ⟨Q,hQ⟩:∃ Q:Ending → World → Prop,Q = fun e w' => e = .returned (.tuple #[.slice none 0 0,.int .i64 12]) ∧ Below w.heap.size w w':=⟨_,rfl⟩
 rw [← hQ]
 have hQ:=Lib.hid hQ
 clear H hc L hr hg hne hlen hbig hst
 go_enter Tryz.func28,Tryz.ntmps28
 go_wp2_with (first | (go_at_call 35;with_reducible refine L2.out.mono ?_;rintro e1 w1 ⟨yy,mm,rfl,hq⟩;have HB:=Lib.hid hq;clear hq) | (go_at_call 60;with_reducible refine (BB.out _ HB.out).mono ?_;rintro e1 w2 ⟨rfl,hq⟩;have HB2:=Lib.hid (HB.out.trans (hq.mono HB.out.size));clear hq))
 rw [hQ.out]
 exact ⟨rfl,HB2.out⟩
end Go.Proofs.YtaonlcgneemimaaGreatDoor
