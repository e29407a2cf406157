/- TopBatches: the contracts of AY10, AY11, AZ2, AB3, AC3; no condition. -/
import Derived.Test.YtaonlcgneemimaaGreatDoorB38
import Derived.Test.YtaonlcgneemimaaGreatDoorB35
import Derived.Test.YtaonlcgneemimaaGreatDoorB39
import Derived.Test.YtaonlcgneemimaaGreatDoorB37
import Derived.Test.YtaonlcgneemimaaGreatDoorB34
import Derived.Test.YtaonlcgneemimaaGreatDoorB40
namespace Go.Proofs.YtaonlcgneemimaaGreatDoor
open Go.RowKit
structure HistIG (w wr:World) (h:Nat) (pv0 sv0:Value) (K:Nat) (xs0:List HsX) (its:List RowA) (k:Nat) (pv sv:Value) (zs:List HsX):Prop where
 hist:HistG (kAll K (its.take k)) wr h pv sv (xs0 ++ zs)
 len:zs.length = k
 pts:zs.map HsX.pt = (its.take k).map rowPt
 st:∀ j z,zs[j]? = some z → z.y.x = stepAllG (lastG xs0) (its.take (j + 1)) ∧ ∀ b ∈ z.blocks,w.heap.size ≤ b
 fr:Frame (histM h pv0 sv0) w wr
 one:pv.ownBlock ≠ some 1
 ownp:∀ g,pv.ownBlock = some g → pv0.ownBlock = some g ∨ w.heap.size ≤ g
 owns:∀ g,sv.ownBlock = some g → sv0.ownBlock = some g ∨ w.heap.size ≤ g
theorem HistIG.start {K:Nat} {w:World} {h:Nat} {pv sv:Value} {xs:List HsX} {its:List RowA} (H:HistG K w h pv sv xs) (h1:pv.ownBlock ≠ some 1):HistIG w w h pv sv K xs its 0 pv sv [] :=
 ⟨by simpa [kAll] using H,rfl,by simp,fun j z hz => by simp at hz,Frame.refl _ _,h1,fun g hg => .inl hg,fun g hg => .inl hg⟩
theorem HistIG.last {K:Nat} {w wr:World} {h:Nat} {pv0 sv0 pv sv:Value} {xs0 zs:List HsX} {its:List RowA} {k:Nat} (H:HistIG w wr h pv0 sv0 K xs0 its k pv sv zs):lastG (xs0 ++ zs) = stepAllG (lastG xs0) (its.take k):=by
 rcases List.eq_nil_or_concat zs with rfl | ⟨l,z,hlz⟩
 ·have:=H.len
  simp at this
  subst this
  simp [stepAllG]
 ·rw [List.concat_eq_append] at hlz
  subst hlz
  have hl:=H.len
  have hz:(l ++ [z])[l.length]? = some z:=by simp
  have h1:=(H.st l.length z hz).1
  simp at hl
  subst hl
  rw [← h1]
  unfold lastG
  simp
theorem HistIG.step {K:Nat} {w wr w2:World} {h:Nat} {pv0 sv0 pv sv:Value} {xs0 zs:List HsX} {its:List RowA} {k:Nat} {i:RowA} (H:HistIG w wr h pv0 sv0 K xs0 its k pv sv zs) (hk:its[k]? = some i) (hA:AddPostG (kAll K (its.take k)) wr h pv sv (xs0 ++ zs) (rowPt i) i.2 w2):∃ pv' sv' zs',HistIG w w2 h pv0 sv0 K xs0 its (k + 1) pv' sv' zs':=by
 obtain ⟨pv',sv',y',h1,h2,h3,h4,h5,h6,h7⟩:=hA
 refine ⟨pv',sv',zs ++ [⟨y',(rowPt i).1,(rowPt i).2⟩],by rw [take_one_more _ _ _ hk,kAll_snoc];simpa using h1,by simp [H.len],by rw [take_one_more _ _ _ hk,List.map_append,List.map_append,H.pts];rfl,fun j z hz => ?_,H.fr.trans h4 (fun x hx => ?_),h5,fun g hg => ?_,fun g hg => ?_⟩
 ·by_cases hj:j < zs.length
  ·rw [List.getElem?_append_left hj] at hz
   exact H.st j z hz
  ·have hj0:j = zs.length:=by
    have:=(List.getElem?_eq_some_iff.1 hz).1
    simp at this
    omega
   subst hj0
   simp at hz
   subst hz
   refine ⟨?_,fun b hb => Nat.le_trans H.fr.size (h3 b hb)⟩
   show y'.x = _
   rw [h2,H.last,H.len,take_one_more _ _ _ hk,stepAllG_snoc]
 ·simp only [histM,List.mem_cons,List.mem_append,Option.mem_toList] at hx ⊢
  rcases hx with rfl | hx | hx
  ·exact .inl (.inl rfl)
  ·rcases H.ownp x hx with h | h
   ·exact .inl (.inr (.inl h))
   ·exact .inr h
  ·rcases H.owns x hx with h | h
   ·exact .inl (.inr (.inr h))
   ·exact .inr h
 ·rcases h6 with h6 | h6
  ·exact H.ownp g (h6 ▸ hg)
  ·exact .inr (Nat.le_trans H.fr.size (h6 g (by simpa using hg)))
 ·rcases h7 with h7 | h7
  ·exact H.owns g (h7 ▸ hg)
  ·exact .inr (Nat.le_trans H.fr.size (h7 g (by simpa using hg)))
theorem histM_typedG {K:Nat} {w:World} {h:Nat} {pv sv:Value} {xs:List HsX} (H:HistG K w h pv sv xs):Typed w (histM h pv sv) [115,52,73]:=fun k hk => by
 obtain ⟨a,t,h1,h2⟩:=histM_tyG H k hk
 exact .inl ⟨a,t,h1,by rcases h2 with rfl | rfl | rfl <;> simp⟩
theorem commit_histG {w w2 w3 w4:World} {r:Nat} {X:RepXG} {x':EngX} (H:RepG w r X) (hb:Below w.heap.size w w2) (hm:EngMove w2 X.e X.x w3 x') (f4:Frame [X.dm] w3 w4):HistG X.K w3 X.h X.pv X.sv X.xs ∧ HistG X.K w4 X.h X.pv X.sv X.xs:=by
 have H2:=H.below hb
 have T:=H2.eng.typed
 have a3:HistG X.K w3 X.h X.pv X.sv X.xs:=H2.hist.frame hm.fr (fun k hk hk2 => by
  obtain ⟨arr,t,h1,h2⟩:=histM_tyG H2.hist k hk
  exact T.out h1 (by rcases h2 with rfl | rfl | rfl <;> decide) hk2) (fun z hz k hk hk2 => (H.znot z hz k hk).1 (by simp [RepXG.mu,hk2])) (fun h1 => H.one.1 (by simp [RepXG.mu,h1])) (T.no (by decide))
 refine ⟨a3,a3.frame f4 (fun k hk hk2 => ?_) (fun z hz k hk hk2 => (H.znot z hz k hk).1 (by simp only [List.mem_singleton] at hk2;simp [RepXG.mu,hk2])) (fun h1 => H.one.1 (by simp only [List.mem_singleton] at h1;simp [RepXG.mu,h1])) (fun g hg arr he => ?_)⟩
 ·simp only [List.mem_singleton] at hk2
  subst hk2
  obtain ⟨arr,t,h1,h2⟩:=histM_tyG a3 _ hk
  have h3:MapX KI w3 X.dm X.dn X.df:=(H2.dmap.same (hm.fr.block _ H2.dmap.lt H.dne))
  exact h3.cells h1
 ·simp only [List.mem_singleton] at hg
  subst hg
  have h3:MapX KI w3 X.dm X.dn X.df:=(H2.dmap.same (hm.fr.block _ H2.dmap.lt H.dne))
  exact h3.cells he
def RepXG.done (X:RepXG) (x':EngX) (pv sv:Value) (zs:List HsX) (dn:Nat) (df:Int → Option Value):RepXG:={ X with x:=x',pv:=pv,sv:=sv,xs:=X.xs ++ zs,dn:=dn,df:=df,rv:=.slice none 0 0,its:=[],K:=X.Ky }
theorem commit_closeG {w w2 w3 w4 w5:World} {r:Nat} {X:RepXG} {x':EngX} {dn:Nat} {df:Int → Option Value} {pv sv:Value} {zs:List HsX} (H:RepG w r X) (hb:Below w.heap.size w w2) (hm:EngMove w2 X.e X.x w3 x') (hcb:x'.cb = X.x.cb) (hmap:MapX KI w4 X.dm dn df) (hdv:∀ id v,df id = some v → v = .bool true) (f4:Frame [X.dm] w3 w4)
  (hI:HistIG w4 w5 X.h X.pv X.sv X.K X.xs X.its X.its.length pv sv zs) :
  RepG (w5.setCell ⟨r,5,none⟩ (.slice none 0 0)) r (X.done x' pv sv zs dn df) ∧ Frame (X.mu r) w (w5.setCell ⟨r,5,none⟩ (.slice none 0 0)) ∧ (∀ k ∈ (X.done x' pv sv zs dn df).mu r,k ∈ X.mu r ∨ w.heap.size ≤ k) ∧ (∀ z ∈ zs,∀ k ∈ z.blocks,w.heap.size ≤ k):=by
 have H2:=H.below hb
 have T2:=H2.eng.typed
 obtain ⟨hh3,hh4⟩:=commit_histG H hb hm f4
 have hd3:MapX KI w3 X.dm X.dn X.df:=H2.dmap.same (hm.fr.block _ H2.dmap.lt H.dne)
 have F2:Frame (X.mu r) w w2:=Frame.of_below hb _
 have F3:Frame (X.mu r) w2 w3:=hm.fr.mono (fun k hk => .inl (by simp [RepXG.mu,hk]))
 have F4:Frame (X.mu r) w3 w4:=f4.mono (fun k hk => .inl (by simp only [List.mem_singleton] at hk;simp [RepXG.mu,hk]))
 have F5:Frame (X.mu r) w4 w5:=hI.fr.mono (fun k hk => .inl (by simp [RepXG.mu,hk]))
 have f6:Frame [r] w5 (w5.setCell ⟨r,5,none⟩ (.slice none 0 0)):=(Frame.refl [r] w5).setCell (p:=⟨r,5,none⟩) (.inl (by simp)) _
 have F6:Frame (X.mu r) w5 (w5.setCell ⟨r,5,none⟩ (.slice none 0 0)):=f6.mono (fun k hk => .inl (by simp only [List.mem_singleton] at hk;simp [RepXG.mu,hk]))
 have F:Frame (X.mu r) w (w5.setCell ⟨r,5,none⟩ (.slice none 0 0)):=(((F2.trans F3 (fun _ h => .inl h)).trans F4 (fun _ h => .inl h)).trans F5 (fun _ h => .inl h)).trans F6 (fun _ h => .inl h)
 have T:=H.ty2
 have hr2:=H2.cell
 have hr3:=hm.fr.heap hr2 (T2.out hr2 (by decide))
 have hrd:r ≠ X.dm:=fun h => hd3.cells (h ▸ hr3)
 have hr4:=f4.heap hr3 (by simpa using hrd)
 have TH4:=histM_typedG hh4
 have hr5:=hI.fr.heap hr4 (TH4.out hr4 (by decide))
 have hs4:w.heap.size ≤ w4.heap.size:=Nat.le_trans hb.size (Nat.le_trans hm.fr.size f4.size)
 have hmu:∀ k ∈ (X.done x' pv sv zs dn df).mu r,k ∈ X.mu r ∨ w.heap.size ≤ k:=by
  intro k hk
  simp only [RepXG.done,RepXG.mu,List.mem_cons,List.mem_append,histM,Option.mem_toList] at hk ⊢
  rcases hk with rfl | rfl | hk | rfl | hk | hk
  ·exact .inl (.inl rfl)
  ·exact .inl (.inr (.inl rfl))
  ·rcases hm.own k hk with h1 | h1
   ·exact .inl (.inr (.inr (.inl h1)))
   ·exact .inr (Nat.le_trans hb.size h1)
  ·exact .inl (.inr (.inr (.inr (.inl rfl))))
  ·rcases hI.ownp k hk with h1 | h1
   ·exact .inl (.inr (.inr (.inr (.inr (.inl h1)))))
   ·exact .inr (Nat.le_trans hs4 h1)
  ·rcases hI.owns k hk with h1 | h1
   ·exact .inl (.inr (.inr (.inr (.inr (.inr h1)))))
   ·exact .inr (Nat.le_trans hs4 h1)
 have hnot:∀ k,k < w.heap.size → k ∉ X.mu r → k ∉ (X.done x' pv sv zs dn df).mu r:=fun k h1 h2 h3 => by
  rcases hmu k h3 with h4 | h4
  ·exact h2 h4
  ·omega
 have h1lt:1 < w.heap.size:=by
  obtain ⟨m,hm1⟩:=H.hist.glob
  exact World.block_lt_of_cell? w ⟨1,0,none⟩ hm1
 have L1:=H.ty1.lt
 have M2:Frame (r :: X.dm :: histM X.h X.pv X.sv) w3 (w5.setCell ⟨r,5,none⟩ (.slice none 0 0)):=((f4.mono (M':=r :: X.dm :: histM X.h X.pv X.sv) (fun k hk => .inl (by simp only [List.mem_singleton] at hk;simp [hk]))).trans hI.fr (fun k hk => .inl (by simp [hk]))).trans f6 (fun k hk => .inl (by simp only [List.mem_singleton] at hk;simp [hk]))
 have T3:=hm.eng.typed
 have hdm3:X.dm ∉ x'.mut X.e:=fun h => by
  rcases hm.own _ h with h1 | h1
  ·exact H.dne h1
  ·have:=H2.dmap.lt
   omega
 have TH3:=histM_typedG hh3
 have heng:EngAt (w5.setCell ⟨r,5,none⟩ (.slice none 0 0)) X.e x':=hm.eng.frame M2 (fun k hk hk2 => by
  simp only [List.mem_cons] at hk2
  rcases hk2 with rfl | rfl | hk2
  ·exact T3.out hr3 (by decide) hk
  ·exact hdm3 hk
  ·obtain ⟨arr,t,h1,h2⟩:=histM_tyG hh3 k hk2
   exact T3.out h1 (by rcases h2 with rfl | rfl | rfl <;> decide) hk) (fun hk2 => by
  obtain ⟨ba,hba⟩:=hm.eng.space.blk
  simp only [List.mem_cons] at hk2
  rcases hk2 with hk2 | hk2 | hk2
  ·rw [hk2] at hba
   exact cells_ty hba hr3 (by decide) rfl
  ·rw [hk2] at hba
   exact hd3.cells hba
  ·exact TH3.out hba (by decide) hk2)
 have hhr:r ∉ histM X.h pv sv:=fun hk => by
  obtain ⟨arr,t,h1,h2⟩:=histM_tyG hI.hist r hk
  rw [hr5] at h1
  injection h1 with h1
  injection h1 with _ h3
  subst h3
  rcases h2 with h2 | h2 | h2 <;> exact absurd h2 (by decide)
 have hzn:∀ z ∈ zs,∀ k ∈ z.blocks,w4.heap.size ≤ k:=fun z hz k hk => by
  obtain ⟨j,hj,e⟩:=List.getElem_of_mem hz
  exact (hI.st j z (by rw [List.getElem?_eq_getElem hj,e])).2 k hk
 have hrlt:=heap_lt H.cell
 have hKy:kAll X.K (X.its.take X.its.length) = X.Ky:=by rw [List.take_length,H.ky]
 have hall:allPts (X.xs ++ zs) [] = allPts X.xs X.its:=by
  have:=hI.pts
  rw [List.take_length] at this
  unfold allPts
  rw [List.map_append,this]
  simp
 have hone6:∀ g ∈ [r],∀ arr,w5.heap[g]? ≠ some (.cells arr 134 (0,0)):=fun g hg arr he => by
  simp only [List.mem_singleton] at hg
  subst hg
  exact cells_ty hr5 he (by decide) rfl
 have hhist:HistG X.Ky (w5.setCell ⟨r,5,none⟩ (.slice none 0 0)) X.h pv sv (X.xs ++ zs):=hKy ▸ hI.hist.frame f6 (fun k hk h => by simp only [List.mem_singleton] at h;exact hhr (h ▸ hk)) (fun z hz k hk h => by
  simp only [List.mem_singleton] at h
  subst h
  rcases List.mem_append.1 hz with hz | hz
  ·exact (H.znot z hz _ hk).1 (by simp [RepXG.mu])
  ·have:=hzn z hz _ hk
   omega) (fun h => H.one.1 (by simp only [List.mem_singleton] at h;simp [RepXG.mu,h])) hone6
 have hdm6:MapX KI (w5.setCell ⟨r,5,none⟩ (.slice none 0 0)) X.dm dn df:=by
  have h5:MapX KI w5 X.dm dn df:=hmap.same (hI.fr.block _ hmap.lt (fun h => by
   obtain ⟨arr,t,h1,h2⟩:=histM_tyG hh4 _ h
   exact hmap.cells h1))
  exact h5.same (f6.block _ h5.lt (by simpa using (Ne.symm hrd)))
 refine ⟨⟨?_,heng,hhist,H.chunks.frame F (T.out H.chunks.cell (by decide)) H.cnot.1 H.cnot.2 H.fnot (T.no (by decide)),hdm6,hdv,⟨[],rfl,Sl.nil _ _ _,fun j s i h => by simp at h⟩,H.st.frame F H.ynot H.one.1 (T.no (by decide)),?_,trivial,rfl,fun i hi => by simp [RepXG.done] at hi,?_,⟨H.clock.1,?_⟩,⟨?_,H.one.2⟩,fun k hk => hnot k (H.st.lt k hk) (H.ynot k hk),fun z hz k hk => ?_,⟨hnot _ H.chunks.ml.lt H.cnot.1,hnot _ H.chunks.mb.lt H.cnot.2⟩,fun k v g hv hg => hnot g ((H.chunks.rows k v hv).1.lt g hg).2 (H.fnot k v g hv hg),hdm3⟩,F,hmu,fun z hz k hk => Nat.le_trans hs4 (hzn z hz k hk)⟩
 ·have:=setAt hr5 5 (.slice none 0 0)
  simpa [RepXG.done] using this
 ·show X.y.x = stepAllG (lastG (X.xs ++ zs)) []
  rw [H.yx]
  show _ = lastG (X.xs ++ zs)
  rw [hI.last,List.take_length]
 ·show PtsOk (allPts (X.xs ++ zs) [])
  rw [hall]
  exact H.pts
 ·show ∀ p ∈ allPts (X.xs ++ zs) [],_
  rw [hall]
  exact H.clock.2
 ·intro h
  rcases hmu 1 h with h | h
  ·exact H.one.1 h
  ·omega
 ·rcases List.mem_append.1 hz with hz | hz
  ·exact ⟨hnot k ((H.hist.each z hz).lt k hk) (H.znot z hz k hk).1,(H.znot z hz k hk).2⟩
  ·have hk4:=hzn z hz k hk
   refine ⟨fun hmk => ?_,fun h1 => by have:=L1 k h1;omega⟩
   have hzst:=hhist.each z (List.mem_append_right _ hz)
   have hkind:(∃ arr t,(w5.setCell ⟨r,5,none⟩ (.slice none 0 0)).heap[k]? = some (.cells arr t (0,0)) ∧ (t = 121 ∨ t = 170)) ∨ ∃ es cl,(w5.setCell ⟨r,5,none⟩ (.slice none 0 0)).heap[k]? = some (.map es cl):=by
    simp only [HsX.blocks,StXG.blocks,List.mem_cons,List.not_mem_nil,or_false] at hk
    rcases hk with rfl | rfl | rfl | rfl
    ·exact .inl ⟨_,_,hzst.at'.cell,.inl rfl⟩
    ·exact .inl ⟨_,_,hzst.at'.tree.cell,.inr rfl⟩
    ·exact .inr hzst.at'.tree.map.obj
    ·exact .inr hzst.at'.bodies.map.obj
   have clash:∀ (arr:Array Value) (t:TypeId),(w5.setCell ⟨r,5,none⟩ (.slice none 0 0)).heap[k]? = some (.cells arr t (0,0)) → t ≠ 121 → t ≠ 170 → False:=fun arr t h1 h2 h3 => by
    rcases hkind with ⟨a,u,h4,h5⟩ | ⟨es,cl,h4⟩
    ·rw [h1] at h4
     injection h4 with h4
     injection h4 with _ h6
     subst h6
     rcases h5 with h5 | h5
     ·exact h2 h5
     ·exact h3 h5
    ·rw [h1] at h4
     simp at h4
   simp only [RepXG.done,RepXG.mu,List.mem_cons,List.mem_append] at hmk
   rcases hmk with rfl | rfl | hmk | hmk
   ·omega
   ·have:=H.dmap.lt
    omega
   ·rcases heng.typed2 k hmk with h1 | ⟨arr,t,h1,h2⟩
    ·rw [hcb] at h1
     have:=(H.eng.disk.lt).2.2
     omega
    ·simp only [List.mem_cons,List.not_mem_nil,or_false] at h2
     refine clash arr t h1 ?_ ?_ <;> rcases h2 with rfl | rfl | rfl | rfl | rfl | rfl <;> decide
   ·obtain ⟨arr,t,h1,h2⟩:=histM_tyG hhist k hmk
    refine clash arr t h1 ?_ ?_ <;> rcases h2 with rfl | rfl | rfl <;> decide
end Go.Proofs.YtaonlcgneemimaaGreatDoor
namespace Go.Proofs.YtaonlcgneemimaaGreatDoor
open Go.RowKit
theorem PtsOk.pre {l l':List PtA} (h:PtsOk l) (hp:l' <+: l):PtsOk l':=by
 have e:∀ (j:Nat) a,l'[j]? = some a → l[j]? = some a:=fun j a ha => by
  obtain ⟨t,rfl⟩:=hp
  rw [List.getElem?_append_left (List.getElem?_eq_some_iff.1 ha).1]
  exact ha
 exact ⟨fun p hm => h.top p (hp.subset hm),fun j a b ha hb => h.rise j a b (e _ _ ha) (e _ _ hb),fun p hm => h.name p (hp.subset hm),fun j k a b ha hb => h.once j k a b (e _ _ ha) (e _ _ hb),fun p hm => h.small p (hp.subset hm)⟩
def CommitPostG (w:World) (r:Nat) (X:RepXG) (w':World):Prop :=
 ∃ (x':EngX) (pv sv:Value) (zs:List HsX) (dn:Nat) (df:Int → Option Value) (T:Nat),RepG w' r (X.done x' pv sv zs dn df) ∧ Frame (X.mu r) w w' ∧ (∀ k ∈ (X.done x' pv sv zs dn df).mu r,k ∈ X.mu r ∨ w.heap.size ≤ k) ∧ (∀ z ∈ zs,∀ k ∈ z.blocks,w.heap.size ≤ k) ∧ zs.length = X.its.length ∧ (∀ j z,zs[j]? = some z → z.y.x = stepAllG (lastG X.xs) (X.its.take (j + 1))) ∧ zs.map HsX.pt = X.its.map rowPt ∧ T ≤ 4 * X.P.length ∧ dn ≤ X.dn + X.P.length ∧
  EngGrew X.x x' 4 (manyN (recordG (X.xs.length + 1) X.its).length) T (needN X.x.ssJ.length X.x.nJ (manyN (recordG (X.xs.length + 1) X.its).length)) (needN X.x.ssC.length X.x.nC T)
def RoomG (X:RepXG):Prop:=X.x.ssJ = [] ∧ X.x.ssC = [] ∧ X.x.nJ = 0 ∧ X.x.nC = 0 ∧ X.P.length ≤ 50
theorem RowsGV.item {w:World} {v:Value} {its:List RowA} (h:RowsGV w v its) {ra:Option Addr} {n rcap:Nat} (hv:v = .slice ra n rcap) {k:Nat} {i:RowA} (hk:its[k]? = some i):∃ g off s,ra = some ⟨g,off,none⟩ ∧ Sl w 134 4 s i.2.parts.length (partsC i.2.parts) ∧ w.cell? ⟨g,off + k * 8,none⟩ = some (.float .f64 (stF i.1)) ∧ w.cell? ⟨g,off + k * 8 + 1,none⟩ = some (.int .i64 i.2.op) ∧ w.cell? ⟨g,off + k * 8 + 2,none⟩ = some (.string i.2.path) ∧ w.cell? ⟨g,off + k * 8 + 3,none⟩ = some (.string i.2.to) ∧ w.cell? ⟨g,off + k * 8 + 4,none⟩ = some (.int .i64 i.2.off) ∧ w.cell? ⟨g,off + k * 8 + 5,none⟩ = some (.int .i64 i.2.size) ∧ w.cell? ⟨g,off + k * 8 + 6,none⟩ = some (.slice none 0 0) ∧ w.cell? ⟨g,off + k * 8 + 7,none⟩ = some (s):=by
 obtain ⟨a,cap,e,-,-,hc⟩:=rowsG_cells h
 obtain ⟨g,off,s,h1,h2,h3,h4⟩:=hc k i hk
 rw [hv] at e
 injection e with e1 e2 e3
 exact ⟨g,off,s,e1.trans h1,h3,h4⟩
set_option maxRecDepth 100000 in
set_option maxHeartbeats 8000000 in
theorem commit_g (w:World) (r:Nat) (X:RepXG) (H:RepG w r X) (hne:X.its ≠ []) (hlen:(recordG (X.xs.length + 1) X.its).length ≤ 16384) (hfew:X.xs.length + X.its.length ≤ 9999) (hP:X.P.length ≤ 20000) (hdn:X.dn ≤ 500000) (hk:X.x.k ≤ 100000) (hnum:X.x.number + 4 ≤ 2147483647) :
  Calls Tryz.prog 10 #[.pointer (some ⟨r,0,none⟩)] w fun e w' => ∃ c:Int,e = .returned (.int .i64 c) ∧ (c = 0 → CommitPostG w r X w') ∧ (c ≠ 0 → Below w.heap.size w w') ∧ (RoomG X → c = 0):=by
 have HH:=Lib.hid H
 obtain ⟨ra,rcap,hrv,-,-,-⟩:=rowsG_cells H.rows
 obtain ⟨n,hn⟩:∃ n,Hid (n = X.its.length):=⟨_,Lib.hid rfl⟩
 rw [← hn.out] at hrv hfew
 have hn0:n ≠ 0:=by rw [hn.out];exact fun h => hne (List.eq_nil_of_length_eq_zero h)
 have dn0:((n:Int) == 0) = false:=by simpa using hn0
 have HRV:=Lib.hid hrv
 have HC:=Lib.hid H.cell
 rw [hrv] at HC
 have hst:StOk X.its:=stOk_of H.pts
 obtain ⟨Rc,hRc⟩:∃ R,Hid (R = recordG (X.xs.length + 1) X.its):=⟨_,Lib.hid rfl⟩
 obtain ⟨NP,hNP⟩:∃ N,Hid (N = X.P.length):=⟨_,Lib.hid rfl⟩
 rw [← hNP.out] at hP
 have BT:Hid (Calls Tryz.prog 28 #[.pointer (some ⟨r,0,none⟩),.slice ra n rcap] w fun e w' => ∃ v',e = .returned (.tuple #[v',.int .i64 0]) ∧ w'.ownsRow w.heap.size 5 1 v' Rc.length (u8s Rc) ∧ Below w.heap.size w w'):=Lib.hid (by
  rw [hRc.out]
  have:=H.rows
  rw [hrv] at this
  exact repBatch_g X.K w r X.h _ _ _ _ _ _ _ _ X.xs HC.out H.hist _ _ this (fun j hj => H.good j hj) hst hne (by have:=hn.out;omega) hlen)
 have hR1:1 ≤ Rc.length:=by rw [hRc.out];simp [recordG]
 have hR0:0 < Rc.length:=hR1
 have hR2:Rc.length ≤ 16384:=by rw [hRc.out];exact hlen
 have FR:Hid (∀ W,Below w.heap.size w W → Calls Tryz.prog 31 #[.pointer (some ⟨r,0,none⟩)] W fun e w' => ∃ v4 v5 ls ids,e = .returned (.tuple #[v4,v5]) ∧ Hid (RowsB w' v4 ls) ∧ Hid (∀ l ∈ ls,1 ≤ l.length ∧ l.length ≤ 200) ∧ ls.length ≤ NP ∧ Hid (Sl w' 3 1 v5 ids.length (ints ids)) ∧ Hid (∀ g,v5.ownBlock = some g → W.heap.size ≤ g) ∧ Hid (∀ id ∈ ids,1 ≤ id ∧ id ≤ NP) ∧ ids.length ≤ NP ∧ Below W.heap.size W w'):=Lib.hid (fun W hW => by
  refine (fresh_any W r X.c X.dm X.dn _ _ _ _ _ 0 X.P X.bl X.bb X.vs X.fb X.m X.sz X.df (Below.heap hW (Nat.le_refl _) HC.out) (HH.out.chunks.below hW) (keep_map HH.out.dmap hW) HH.out.dval).mono ?_
  rintro e w' ⟨v4,v5,ls,ids,h1,h2,h3,h4,h5,h6,h7,h8,h9,h10⟩
  rw [hNP.out]
  exact ⟨v4,v5,ls,ids,h1,h2,h3,h4,h6,h7,h8,h9,h10⟩)
 have EA:Hid (∀ W v4 ls v,Below w.heap.size w W → RowsB W v4 ls → (∀ l ∈ ls,1 ≤ l.length ∧ l.length ≤ 200) → ls.length ≤ NP → Sl W 5 1 v Rc.length (u8s Rc) → Calls Tryz.prog 32 #[.pointer (some ⟨X.e,0,none⟩),v4,v] W fun e w' => ∃ c:Int,e = .returned (.int .i64 c) ∧ Hid (RoomG X → c = 0) ∧ Hid (c ≠ 0 → Below W.heap.size W w') ∧ Hid (c = 0 → ∃ x' T,EngMove W X.e X.x w' x' ∧ T ≤ 4 * NP ∧ EngGrew X.x x' 4 (manyN Rc.length) T (needN X.x.ssJ.length X.x.nJ (manyN Rc.length)) (needN X.x.ssC.length X.x.nC T))):=Lib.hid (fun W v4 ls v hW h1 h2 h3 h4 => by
  have hT:=sumMany_few ls h2
  refine (append_g W X.e X.x (HH.out.eng.below hW) v4 ls h1 (fun l hl => ⟨(h2 l hl).1,by have:=(h2 l hl).2;omega⟩) v Rc h4 hR1 hR2 (by omega) hk hnum).mono ?_
  rintro e w' ⟨c,rfl,hx,hz,hroom⟩
  refine ⟨c,rfl,Lib.hid (fun hr => hroom.out ?_),hz,Lib.hid (fun hc => ?_)⟩
  ·obtain ⟨r1,r2,r3,r4,r5⟩:=hr
   have hfr:=HH.out.eng.frees
   have:=hNP.out
   rw [r1,r2] at hfr
   rw [r1,r2,r3,r4]
   simp only [List.length_nil] at hfr ⊢
   unfold needN manyN
   omega
  obtain ⟨x',h5,h6⟩:=hx.out hc
  exact ⟨x',sumMany ls,h5,by omega,h6⟩)
 obtain ⟨Q,hQ⟩:∃ Q,Hid (Q = CommitPostG w r X):=⟨_,Lib.hid rfl⟩
 rw [← hQ.out]
 have c0:=cellAt HC.out 0
 have c5:=cellAt HC.out 5
 simp only [List.getElem?_toArray,List.getElem?_cons_zero,List.getElem?_cons_succ] at c0 c5
 have KB:Hid (∀ W:World,Below w.heap.size w W → W.cell? ⟨r,0,none⟩ = some (.pointer (some ⟨X.e,0,none⟩)) ∧ W.cell? ⟨r,5,none⟩ = some (.slice ra n rcap)):=Lib.hid (fun W hW => ⟨cellAt (Below.heap hW (Nat.le_refl _) HC.out) 0,cellAt (Below.heap hW (Nat.le_refl _) HC.out) 5⟩)
 clear H hne hlen hk hnum hst hrv hn0
 go_enter Tryz.func10,Tryz.ntmps10
 go_upto_region 10 with (first | (go_at_call 28;with_reducible refine BT.out.mono ?_;rintro e1 w1 ⟨vb,rfl,ho,hq⟩;have O1:=Lib.hid ho;have B1:=Lib.hid hq;obtain ⟨ba,bcap,rfl⟩:=own_shape ho;have y0:=(KB.out _ hq).1;clear ho hq) | (go_at_call 31;with_reducible refine (FR.out _ B1.out).mono ?_;rintro e1 w2 ⟨v4,v5,ls,ids,rfl,R4,L4,hl4,S5,O5,M5,hl5,hq⟩;have B12:=Lib.hid hq;have B2:Hid (Below w.heap.size w w2):=Lib.hid (B1.out.trans (hq.mono B1.out.size));have z0:=(KB.out _ B2.out).1;obtain ⟨ia,icap,rfl,hicap,-,hsh⟩:=S5.out.shape;have SH:=Lib.hid hsh;have V2:Hid (Sl w2 5 1 (.slice ba Rc.length bcap) Rc.length (u8s Rc)):=Lib.hid ((Sl.of_own O1.out (u8s_one' _) (.inr hR0)).below hq);clear hq hsh) | (go_at_call 32;with_reducible refine (EA.out _ v4 ls _ B2.out R4.out L4.out hl4 V2.out).mono ?_;rintro e1 w3 ⟨ce,rfl,ER,EZ,EM⟩))
 by_cases hce:ce ≠ 0
 ·have dc1:(ce == 0) = false:=by simpa using hce
  have dc2:(ce != 0) = true:=by simpa using hce
  go_wp2_with fail
  rw [hQ.out]
  go_ret
  exact ⟨ce,rfl,fun h => absurd h hce,fun _ => B2.out.trans ((EZ.out hce).mono B2.out.size),fun h => absurd (ER.out h) hce⟩
 have hce:ce = 0:=by omega
 subst hce
 obtain ⟨x',T,hm,hT,hg⟩:=EM.out rfl
 have HM:=Lib.hid hm
 have HG:=Lib.hid hg
 have HT:=Lib.hid hT
 have B2o:=B2.out
 have hr3:Hid (w3.heap[r]? = _):=Lib.hid (hm.fr.heap (Below.heap B2o (Nat.le_refl _) HC.out) (HH.out.eng.typed.out HC.out (by decide)))
 have hd3:Hid (MapX KI w3 X.dm X.dn X.df):=Lib.hid ((keep_map HH.out.dmap B2o).same (hm.fr.block _ (keep_map HH.out.dmap B2o).lt HH.out.dne))
 have hrd:Hid (r ≠ X.dm):=Lib.hid (fun h => hd3.out.cells (h ▸ hr3.out))
 obtain ⟨NI,hNI⟩:∃ N,Hid (N = ids.length):=⟨_,Lib.hid rfl⟩
 rw [← hNI.out] at hicap hl5 ⊢
 have RC:Hid (∀ W,Frame [X.dm] w3 W → W.cell? ⟨r,3,none⟩ = some (.map (some X.dm)) ∧ W.cell? ⟨r,5,none⟩ = some (.slice ra n rcap)):=Lib.hid (fun W hW => by
  have h:=hW.heap hr3.out (by simpa using hrd.out)
  exact ⟨cellAt h 3,cellAt h 5⟩)
 have IDC:Hid (∀ W,Frame [X.dm] w3 W → ∀ (k:Nat) (id:Int),ids[k]? = some id → ∃ g off,ia = some ⟨g,off,none⟩ ∧ W.cell? ⟨g,off + k,none⟩ = some (.int .i64 id)):=Lib.hid (fun W hW k id hid => by
  have hkl:=(List.getElem?_eq_some_iff.1 hid).1
  obtain ⟨g,off,he,hgl,hc⟩:=SH.out k hkl
  have h0:=hc 0 (.int .i64 id) (by decide) (by simp [ints,hid])
  rw [Nat.mul_one,Nat.add_zero] at h0
  refine ⟨g,off,he,?_⟩
  have hge:w1.heap.size ≤ g:=O5.out g (by rw [he];rfl)
  have hn1:g ∉ X.x.mut X.e:=fun h => by
   have:=HH.out.eng.typed.lt g h
   have:=B1.out.size
   omega
  have hn2:g ≠ X.dm:=fun h => by
   have:=HH.out.dmap.lt
   have:=B1.out.size
   omega
  rw [hW.cell (p:=⟨g,off + k,none⟩) (Nat.lt_of_lt_of_le hgl HM.out.fr.size) (by simpa using hn2),HM.out.fr.cell (p:=⟨g,off + k,none⟩) hgl hn1]
  exact h0)
 have hr3c:=(RC.out w3 (Frame.refl _ _)).1
 clear hm hg hT EM ER B2o y0 z0 hrd
 go_wp2_with fail
 go_loopw [8,50] (fun _ ti wr => ∃ k:Nat,k ≤ NI ∧ ti = .int .i64 k ∧ Hid (∃ dn df,NoteI w3 wr X.dm X.dn k dn df)) (fun _ i _ => NI - (intOf i).toNat)
 case atStart => exact ⟨0,by omega,rfl,Lib.hid ⟨X.dn,X.df,hd3.out,HH.out.dval,Nat.le_refl _,Frame.refl _ _⟩⟩
 case round =>
 obtain ⟨k,hk,rfl,hI⟩:=hrel
 obtain ⟨dn1,df1,hI⟩:=hI.out
 have HI:=Lib.hid hI
 obtain ⟨y3,y5⟩:=RC.out _ hI.fr
 clear hI
 by_cases hlt:k < NI
 ·obtain ⟨id,hid⟩:∃ id,ids[k]? = some id:=⟨_,List.getElem?_eq_getElem (by have:=hNI.out;omega)⟩
  obtain ⟨g,off,rfl,hc⟩:=IDC.out _ HI.out.fr k id hid
  have hmem:=M5.out id (List.mem_of_getElem? hid)
  obtain ⟨w9,hrun,hN9⟩:=HI.out.step (by omega) id (by omega)
  have HN9:=Lib.hid hN9
  clear hN9 hmem hid
  go_wp2_with fail
  go_roundw
  case rel => exact ⟨k + 1,by omega,by go_num,HN9⟩
  case measure => simp [intOf];omega
 ·have hkN:NI = k:=by omega
  subst hkN
  obtain ⟨w4,hw4⟩:∃ x:World,x = wr:=⟨_,rfl⟩
  subst hw4
  have hh4:=(commit_histG HH.out B2.out HM.out HI.out.fr).2
  have hr4:Hid (w4.heap[r]? = _):=Lib.hid (HI.out.fr.heap hr3.out (by simpa using (fun h => hd3.out.cells (h ▸ hr3.out):r ≠ X.dm)))
  have HST:Hid (HistIG w4 w4 X.h X.pv X.sv X.K X.xs X.its 0 X.pv X.sv []):=Lib.hid (HistIG.start hh4 (fun h => HH.out.one.1 (by simp [RepXG.mu,histM,h])))
  have R4H:Hid (∀ W,Frame (histM X.h X.pv X.sv) w4 W → W.heap[r]? = some (.cells #[.pointer (some ⟨X.e,0,none⟩),.pointer (some ⟨X.h,0,none⟩),.pointer (some ⟨X.c,0,none⟩),.map (some X.dm),.float .f64 (stF X.now),.slice ra n rcap,.pointer (some ⟨X.y.s,0,none⟩)] 77 (0,0))):=Lib.hid (fun W hW => hW.heap hr4.out ((histM_typedG hh4).out hr4.out (by decide)))
  have MU:Hid (∀ W,Frame (histM X.h X.pv X.sv) w4 W → Frame (X.mu r) w W):=Lib.hid (fun W hW => by
   have F2:Frame (X.mu r) w w2:=Frame.of_below B2.out _
   have F3:Frame (X.mu r) w2 w3:=HM.out.fr.mono (fun k hk => .inl (by simp [RepXG.mu,hk]))
   have F4:Frame (X.mu r) w3 w4:=HI.out.fr.mono (fun k hk => .inl (by simp only [List.mem_singleton] at hk;simp [RepXG.mu,hk]))
   have F5:Frame (X.mu r) w4 W:=hW.mono (fun k hk => .inl (by simp [RepXG.mu,hk]))
   exact ((F2.trans F3 (fun _ h => .inl h)).trans F4 (fun _ h => .inl h)).trans F5 (fun _ h => .inl h))
  have RV:Hid (∀ W,Frame (histM X.h X.pv X.sv) w4 W → RowsGV W (.slice ra n rcap) X.its):=Lib.hid (fun W hW => by
   have:=HH.out.rows.frame (MU.out W hW) (HH.out.ty2.no (by decide)) (HH.out.ty2.no (by decide))
   rw [HRV.out] at this
   exact this)
  clear hh4
  go_wp2_with fail
  go_loopw [10,65] (fun _ ti wr => ∃ k:Nat,k ≤ n ∧ ti = .int .i64 k ∧ Hid (∃ pv sv zs,HistIG w4 wr X.h X.pv X.sv X.K X.xs X.its k pv sv zs)) (fun _ i _ => n - (intOf i).toNat)
  case atStart => exact ⟨0,by omega,rfl,Lib.hid ⟨_,_,_,HST.out⟩⟩
  case round =>
  obtain ⟨k2,hk2,rfl,hJ⟩:=hrel
  obtain ⟨pv,sv,zs,hJ⟩:=hJ.out
  have HJ:=Lib.hid hJ
  have hrr:=R4H.out _ hJ.fr
  by_cases hlt2:k2 < n
  ·obtain ⟨i,hi⟩:∃ i,X.its[k2]? = some i:=⟨_,List.getElem?_eq_getElem (by have:=hn.out;omega)⟩
   obtain ⟨g,off,s,rfl,hs,q0,q1,q2,q3,q4,q5,q6,q7⟩:=(RV.out _ hJ.fr).item rfl hi
   obtain ⟨sa,sc,rfl,-,-,-⟩:=hs.shape
   obtain ⟨m,hm⟩:∃ m,Hid (m = (X.xs ++ zs).length):=⟨_,Lib.hid rfl⟩
   have hml:m ≤ 9999:=by
    have h1:=hm.out
    have h2:=hJ.len
    rw [List.length_append] at h1
    omega
   have HS:=Lib.hid hs
   have hig:=HH.out.good i (List.mem_of_getElem? hi)
   have hok:=okAllG_at _ _ _ HH.out.ok k2 i hi
   rw [← hJ.last] at hok
   have hpre:PtsOk ((X.xs ++ zs).map HsX.pt ++ [(i.1,markOf i.2)]):=by
    refine HH.out.pts.pre ?_
    unfold allPts
    rw [List.map_append,hJ.pts,List.append_assoc]
    refine (List.prefix_append_right_inj _).2 ?_
    have:(X.its.take (k2 + 1)).map rowPt = (X.its.take k2).map rowPt ++ [(i.1,markOf i.2)]:=by rw [take_one_more _ _ _ hi,List.map_append];rfl
    rw [← this]
    exact (List.take_prefix _ _).map _
   have HSTEP:Hid (∀ W,Below wr.heap.size wr W → Calls Tryz.prog 33 #[.pointer (some ⟨X.h,0,none⟩),.agg #[.int .i64 ((m:Int) + 1),.float .f64 (stF i.1),.string (markOf i.2)],.agg #[.int .i64 i.2.op,.string i.2.path,.string i.2.to,.int .i64 i.2.off,.int .i64 i.2.size,.slice none 0 0,.slice sa i.2.parts.length sc]] W fun e w' => e = .returned (.int .i64 0) ∧ Hid (∃ pv' sv' zs',HistIG w4 w' X.h X.pv X.sv X.K X.xs X.its (k2 + 1) pv' sv' zs') ∧ Hid (Frame (histM X.h pv sv) W w')):=Lib.hid (fun W hW => by
    have:=histAdd_g _ W X.h pv sv (X.xs ++ zs) (HJ.out.hist.below hW) HJ.out.one (by have:=hm.out;omega) i.1 (markOf i.2) hpre i.2 hok hig (.slice sa i.2.parts.length sc) (HS.out.below hW)
    rw [← hm.out] at this
    refine this.mono ?_
    rintro e w' ⟨rfl,hA⟩
    have hJW:HistIG w4 W X.h X.pv X.sv X.K X.xs X.its k2 pv sv zs:=⟨HJ.out.hist.below hW,HJ.out.len,HJ.out.pts,HJ.out.st,HJ.out.fr.then_below hW,HJ.out.one,HJ.out.ownp,HJ.out.owns⟩
    refine ⟨rfl,Lib.hid (hJW.step hi hA),?_⟩
    obtain ⟨pv',sv',y',h1,h2,h3,h4,-⟩:=hA
    exact Lib.hid h4)
   have LP:Hid (∀ W,Below wr.heap.size wr W → Calls Tryz.prog 35 #[.pointer (some ⟨X.h,0,none⟩)] W fun e w' => ∃ ly lm,e = .returned (.agg #[.int .i64 m,.float .f64 ly,.string lm]) ∧ Below W.heap.size W w'):=Lib.hid (fun W hW => by
    have:=lastPt_g _ W X.h pv sv (X.xs ++ zs) (HJ.out.hist.below hW)
    rw [← hm.out] at this
    exact this)
   have PT:Hid (∀ W,Calls Tryz.prog 34 #[.int .i64 ((m:Int) + 1),.agg #[.float .f64 (stF i.1),.int .i64 i.2.op,.string i.2.path,.string i.2.to,.int .i64 i.2.off,.int .i64 i.2.size,.slice none 0 0,.slice sa i.2.parts.length sc]] W fun e w' => e = .returned (.agg #[.int .i64 ((m:Int) + 1),.float .f64 (stF i.1),.string (markOf i.2)]) ∧ Below W.heap.size W w'):=Lib.hid (fun W => point_g W _ _ i.2 _ ⟨_,_,_,rfl⟩)
   obtain ⟨W1,hW1⟩:∃ W1,Hid (W1 = wr.alloc (.cells #[.float .f64 (stF i.1),.int .i64 i.2.op,.string i.2.path,.string i.2.to,.int .i64 i.2.off,.int .i64 i.2.size,.slice none 0 0,.slice sa i.2.parts.length sc] 86)):=⟨_,Lib.hid rfl⟩
   have Bx:Hid (Below wr.heap.size wr W1):=Lib.hid (by rw [hW1.out];exact crc_below _ _)
   have hs1:W1.heap.size = wr.heap.size + 1:=by rw [hW1.out];simp
   have hrx:Hid (W1.heap[r]? = _ ∧ W1.heap[wr.heap.size]? = some (.cells #[.float .f64 (stF i.1),.int .i64 i.2.op,.string i.2.path,.string i.2.to,.int .i64 i.2.off,.int .i64 i.2.size,.slice none 0 0,.slice sa i.2.parts.length sc] 86 (0,0))):=Lib.hid ⟨Below.heap Bx.out (Nat.le_refl _) hrr,by rw [hW1.out];exact heap_new _ _⟩
   have K20:Hid (∀ W:World,Below W1.heap.size W1 W → W.cell? ⟨r,1,none⟩ = some (.pointer (some ⟨X.h,0,none⟩)) ∧ W.cell? ⟨wr.heap.size,0,none⟩ = some (.float .f64 (stF i.1)) ∧ W.cell? ⟨wr.heap.size,1,none⟩ = some (.int .i64 i.2.op) ∧ W.cell? ⟨wr.heap.size,2,none⟩ = some (.string i.2.path) ∧ W.cell? ⟨wr.heap.size,3,none⟩ = some (.string i.2.to) ∧ W.cell? ⟨wr.heap.size,4,none⟩ = some (.int .i64 i.2.off) ∧ W.cell? ⟨wr.heap.size,5,none⟩ = some (.int .i64 i.2.size) ∧ W.cell? ⟨wr.heap.size,6,none⟩ = some (.slice none 0 0) ∧ W.cell? ⟨wr.heap.size,7,none⟩ = some (.slice sa i.2.parts.length sc)):=Lib.hid (fun W hW => by
    have h1:=Below.heap hW (Nat.le_refl _) hrx.out.1
    have h2:=Below.heap hW (Nat.le_refl _) hrx.out.2
    exact ⟨cellAt h1 1,cellAt h2 0,cellAt h2 1,cellAt h2 2,cellAt h2 3,cellAt h2 4,cellAt h2 5,cellAt h2 6,cellAt h2 7⟩)
   have TY:=HJ.out.hist
   have hno:Hid (r ∉ histM X.h pv sv ∧ wr.heap.size ∉ histM X.h pv sv):=Lib.hid ⟨(histM_typedG TY).out hrr (by decide),fun h => by have:=(histM_typedG TY).lt _ h;omega⟩
   have K21:Hid (∀ W W':World,Below W1.heap.size W1 W → Frame (histM X.h pv sv) W W' → W'.cell? ⟨r,1,none⟩ = some (.pointer (some ⟨X.h,0,none⟩)) ∧ W'.cell? ⟨wr.heap.size,0,none⟩ = some (.float .f64 (stF i.1)) ∧ W'.cell? ⟨wr.heap.size,1,none⟩ = some (.int .i64 i.2.op) ∧ W'.cell? ⟨wr.heap.size,2,none⟩ = some (.string i.2.path) ∧ W'.cell? ⟨wr.heap.size,3,none⟩ = some (.string i.2.to) ∧ W'.cell? ⟨wr.heap.size,4,none⟩ = some (.int .i64 i.2.off) ∧ W'.cell? ⟨wr.heap.size,5,none⟩ = some (.int .i64 i.2.size) ∧ W'.cell? ⟨wr.heap.size,6,none⟩ = some (.slice none 0 0) ∧ W'.cell? ⟨wr.heap.size,7,none⟩ = some (.slice sa i.2.parts.length sc)):=Lib.hid (fun W W' hW hf => by
    have h1:=hf.heap (Below.heap hW (Nat.le_refl _) hrx.out.1) hno.out.1
    have h2:=hf.heap (Below.heap hW (Nat.le_refl _) hrx.out.2) hno.out.2
    exact ⟨cellAt h1 1,cellAt h2 0,cellAt h2 1,cellAt h2 2,cellAt h2 3,cellAt h2 4,cellAt h2 5,cellAt h2 6,cellAt h2 7⟩)
   have hfd:∀ y mm W,(Instr.field 52 (.agg #[.int .i64 m,.float .f64 y,.string mm]) 0).run Tryz.prog W = .ok (.int .i64 m) W:=fun y mm W => by kernel_rfl
   have hsf:=fun (W:World) (p:Addr) (k:Nat) => run_store Tryz.prog W p (.float .f64 k) .plain rfl
   have ew:IntKind.i64.wrap ((m:Int) + 1) = (m:Int) + 1:=IntWalk.i64_in _ (by omega)
   have hw1:=hW1.out
   have R1:Hid (Below W1.heap.size W1 W1.drew):=Lib.hid (Below.refl _ _).drew
   have R1w:Hid (Below wr.heap.size wr W1.drew):=Lib.hid Bx.out.drew
   clear hJ hs hig hok hpre TY hrr hi hs1
   go_upto_region 20 with fail
   rw [← hw1]
   clear hw1 hsf
   go_region_held3 (fun W => W.cell? ⟨r,1,none⟩ = some (.pointer (some ⟨X.h,0,none⟩)) ∧ W.cell? ⟨wr.heap.size,0,none⟩ = some (.float .f64 (stF i.1)) ∧ W.cell? ⟨wr.heap.size,1,none⟩ = some (.int .i64 i.2.op) ∧ W.cell? ⟨wr.heap.size,2,none⟩ = some (.string i.2.path) ∧ W.cell? ⟨wr.heap.size,3,none⟩ = some (.string i.2.to) ∧ W.cell? ⟨wr.heap.size,4,none⟩ = some (.int .i64 i.2.off) ∧ W.cell? ⟨wr.heap.size,5,none⟩ = some (.int .i64 i.2.size) ∧ W.cell? ⟨wr.heap.size,6,none⟩ = some (.slice none 0 0) ∧ W.cell? ⟨wr.heap.size,7,none⟩ = some (.slice sa i.2.parts.length sc)) (first | exact K20.out _ R1.out | exact K20.out _ H1.out | exact K20.out _ H2.out | exact K21.out _ _ H2.out HF.out) (first | (go_at_call 35;with_reducible refine (LP.out _ R1w.out).mono ?_;rintro e1 w5 ⟨ly,lm,rfl,hq⟩;have H1:Hid (Below W1.heap.size W1 w5):=Lib.hid (R1.out.trans (hq.mono R1.out.size));clear hq) | (go_at_call 34;with_reducible refine (PT.out _).mono ?_;rintro e1 w6 ⟨rfl,hq⟩;have H2:Hid (Below W1.heap.size W1 w6):=Lib.hid (H1.out.trans (hq.mono H1.out.size));have H2w:Hid (Below wr.heap.size wr w6):=Lib.hid (Bx.out.trans (H2.out.mono Bx.out.size));clear hq) | (go_at_call 33;with_reducible refine (HSTEP.out _ H2w.out).mono ?_;rintro e1 w7 ⟨rfl,HZ,HF⟩))
   go_wp2_with fail
   go_roundw
   case rel => exact ⟨k2 + 1,by omega,by go_num,HZ⟩
   case measure => simp [intOf];omega
  ·have hk2n:n = k2:=by omega
   subst hk2n
   have z5:=cellAt hrr 5
   have f5:=frozenAt hrr 5
   have HRR:=Lib.hid hrr
   clear hJ hrr
   go_wp2_with fail
   rw [hQ.out]
   go_ret
   refine ⟨0,rfl,fun _ => ?_,fun h => absurd rfl h,fun _ => rfl⟩
   have hJ2:=HJ.out
   rw [hn.out] at hJ2
   obtain ⟨a1,a2,a3,a4⟩:=commit_closeG HH.out B2.out HM.out HG.out.cb HI.out.map HI.out.val HI.out.fr hJ2
   have hf:=HI.out.few
   have h1:=hNP.out
   have h2:=HT.out
   have h3:=HG.out
   rw [hRc.out] at h3
   exact ⟨x',pv,sv,zs,dn1,df1,T,a1,a2,a3,a4,hJ2.len,fun j z hz => (hJ2.st j z hz).1,(by have:=hJ2.pts;rwa [List.take_length] at this),by omega,by omega,h3⟩
end Go.Proofs.YtaonlcgneemimaaGreatDoor
namespace Go.Proofs.YtaonlcgneemimaaGreatDoor
open Go.RowKit
set_option maxRecDepth 100000 in
set_option maxHeartbeats 4000000 in
theorem readFile_g (w:World) (r:Nat) (X:RepXG) (H:RepG w r X) (j:Nat) (z:HsX) (hj:X.xs[j]? = some z) (p:ByteArray) (hps:p.size ≤ 1000000) (id bz0:Int) (hst:statG z.y.x p = ((id,false,bz0),0)) (bd:BodyA) (hT:z.y.x.T p = some (id,false)) (hS:z.y.x.S id = some bd) (hbs:bz0 = bd.size) (hw:wholeB X.P bd) (off n:Int) (h0:0 ≤ off) (h1:off ≤ 1099511627776) (h2:0 ≤ n) (h3:n ≤ 4096) :
  Calls Tryz.prog 11 #[.pointer (some ⟨r,0,none⟩),.int .i64 ((j:Int) + 1),.string p,.int .i64 off,.int .i64 n] w fun e w' => ∃ v',e = .returned (.tuple #[v',.int .i64 0]) ∧ Sl w' 5 1 v' (readB X.P bd off n).length (u8s (readB X.P bd off n)) ∧ Below w.heap.size w w':=by
 have HH:=Lib.hid H
 have hok:=(H.hist.each z (List.mem_of_getElem? hj)).ok
 obtain ⟨-,-,-,hmay,hfew⟩:=(H.hist.each z (List.mem_of_getElem? hj)).at'.bodies.held id bd hS
 have hidr:=hok.ids _ _ _ hT
 have hn2:=hok.next1
 have SA:Hid (Calls Tryz.prog 17 #[.pointer (some ⟨r,0,none⟩),.int .i64 ((j:Int) + 1),.string p] w fun e w' => e = .returned (.tuple #[.agg #[.int .i64 id,.bool false,.int .i64 bd.size],.int .i64 0]) ∧ Below w.heap.size w w'):=Lib.hid (by
  have h:=repStat_g w r X H j z hj p hps
  rw [hst,hbs] at h
  exact h)
 have SP:Hid (∀ W,Below w.heap.size w W → Calls Tryz.prog 36 #[.pointer (some ⟨r,0,none⟩),.int .i64 ((j:Int) + 1)] W fun e w' => ∃ y':StXG,e = .returned (.tuple #[.pointer (some ⟨y'.s,0,none⟩),.int .i64 0]) ∧ Hid (StGt w' X.K y') ∧ Hid (y'.x = z.y.x) ∧ Below W.heap.size W w'):=Lib.hid (fun W hW => by
  refine (repState_g W r X (HH.out.below hW) j z hj).mono ?_
  rintro e w' ⟨y',a1,a2,a3,a4⟩
  exact ⟨y',a1,Lib.hid a2,Lib.hid a3,a4⟩)
 obtain ⟨bz,hbz⟩:∃ b,Hid (b = bd.size):=⟨_,rfl⟩
 obtain ⟨np,hnp⟩:∃ b,Hid (b = bd.parts.length):=⟨_,rfl⟩
 have BP:Hid (∀ (W:World) (y':StXG),Hid (StGt W X.K y') → Hid (y'.x = z.y.x) → Calls Tryz.prog 37 #[.pointer (some ⟨y'.s,0,none⟩),.int .i64 id] W fun e w' => ∃ ba bc,e = .returned (.tuple #[.agg #[.int .i64 bz,.slice ba np bc],.bool true]) ∧ Hid (BodyV w' (.agg #[.int .i64 bz,.slice ba np bc]) bd) ∧ Below W.heap.size W w'):=Lib.hid (fun W y' hW hx => by
  refine (bodyS_g W X.K y' hW.out id bd (hx.out ▸ hS) (by omega)).mono ?_
  rintro e w' ⟨v,a1,a2,a3⟩
  have a22:=a2
  obtain ⟨bs,hbv,hbs⟩:=a2
  obtain ⟨ba,bc,rfl,-,-,-⟩:=hbs.shape
  subst hbv
  rw [← hbz.out,← hnp.out] at *
  exact ⟨ba,bc,a1,Lib.hid a22,a3⟩)
 obtain ⟨L,hL⟩:∃ L,Hid (L = readB X.P bd off n):=⟨_,rfl⟩
 have RD:Hid (∀ (W:World) (v:Value),Below w.heap.size w W → Hid (BodyV W v bd) → Calls Tryz.prog 38 #[v,.pointer (some ⟨X.c,0,none⟩),.int .i64 off,.int .i64 n] W fun e w' => ∃ v',e = .returned (.tuple #[v',.int .i64 0]) ∧ Sl w' 5 1 v' L.length (u8s L) ∧ Below W.heap.size W w'):=Lib.hid (fun W v hW hv => by
  rw [hL.out]
  exact bodyRead_any W v bd hv.out hmay hfew 0 X.c X.P X.bl X.bb X.vs X.fb X.m X.sz (HH.out.chunks.below hW) hw off n h0 h1 h2 h3)
 rw [← hL.out]
 rw [← hbz.out] at SA
 have KC:Hid (∀ W:World,Below w.heap.size w W → W.cell? ⟨r,2,none⟩ = some (.pointer (some ⟨X.c,0,none⟩))):=Lib.hid (fun W hW => cellAt (Below.heap hW (Nat.le_refl _) HH.out.cell) 2)
 clear H hT hS hst hbs hw hj hmay hfew hok h0 h1 h2 h3 hidr hn2
 go_enter Tryz.func11,Tryz.ntmps11
 go_upto_region 8 with (first | (go_at_call 17;with_reducible refine SA.out.mono ?_;rintro e1 w1 ⟨rfl,hq⟩;have Q1:=Lib.hid hq;have BX1:=Lib.hid (fun o => Q1.out.alloc Q1.out.size o);clear hq) | (go_at_call 36;with_reducible refine (SP.out _ (BX1.out _)).mono ?_;rintro e1 w2 ⟨y',rfl,S2,X2,hq⟩;have Q2:=Lib.hid ((BX1.out _).trans (hq.mono (BX1.out _).size));have x:=Below.heap hq (Nat.le_refl _) (heap_new w1 (.cells #[.int .i64 id,.bool false,.int .i64 bz] 54));have x0:=cellAt x 0;have x1:=cellAt x 1;clear x hq) | (go_at_call 37;with_reducible refine (BP.out _ y' S2 X2).mono ?_;rintro e1 w3 ⟨ba,bc,rfl,V3,hq⟩;have Q3:Hid (Below w.heap.size w w3):=Lib.hid (Q2.out.trans (hq.mono Q2.out.size));clear hq))
 obtain ⟨W4,hW4⟩:∃ W4,Hid (W4 = w3.alloc (.cells #[.int .i64 bz,.slice ba np bc] 100)):=⟨_,Lib.hid rfl⟩
 have B34:Hid (Below w3.heap.size w3 W4):=Lib.hid (by rw [hW4.out];exact crc_below _ _)
 have Q4:Hid (Below w.heap.size w W4.drew):=Lib.hid (Q3.out.trans (B34.out.mono Q3.out.size)).drew
 have V4:Hid (BodyV W4.drew (.agg #[.int .i64 bz,.slice ba np bc]) bd):=Lib.hid (V3.out.kept (fun k arr hk => Below.heap B34.out.drew (Nat.le_refl _) hk))
 have xb:W4.heap[w3.heap.size]? = some (.cells #[.int .i64 bz,.slice ba np bc] 100 (0,0)):=by rw [hW4.out];exact heap_new _ _
 have K8:Hid (∀ W:World,Below W4.heap.size W4 W → W.cell? ⟨r,2,none⟩ = some (.pointer (some ⟨X.c,0,none⟩)) ∧ W.cell? ⟨w3.heap.size,0,none⟩ = some (.int .i64 bz) ∧ W.cell? ⟨w3.heap.size,1,none⟩ = some (.slice ba np bc)):=Lib.hid (fun W hW => by
  have h:=Below.heap hW (Nat.le_refl _) xb
  have hb:=(Q3.out.trans (B34.out.mono Q3.out.size))
  exact ⟨KC.out W (hb.trans (hW.mono hb.size)),cellAt h 0,cellAt h 1⟩)
 have R4:Hid (Below W4.heap.size W4 W4.drew):=Lib.hid (Below.refl _ _).drew
 have hw4:=hW4.out
 clear xb x0 x1
 rw [← hw4]
 clear hw4
 go_region_held3 (fun W => W.cell? ⟨r,2,none⟩ = some (.pointer (some ⟨X.c,0,none⟩)) ∧ W.cell? ⟨w3.heap.size,0,none⟩ = some (.int .i64 bz) ∧ W.cell? ⟨w3.heap.size,1,none⟩ = some (.slice ba np bc)) (first | exact K8.out _ R4.out | exact K8.out _ R5.out) (first | (go_at_call 38;with_reducible refine (RD.out _ _ Q4.out V4).mono ?_;rintro e1 w5 ⟨v',rfl,hsl,hq⟩;have S5:=Lib.hid hsl;have Q5:=Lib.hid (Q4.out.trans (hq.mono Q4.out.size));have R5:=Lib.hid (R4.out.trans (hq.mono R4.out.size));obtain ⟨va,vc,rfl,-,-,-⟩:=hsl.shape;clear hsl hq))
 go_wp2_with fail
 go_ret2
 exact ⟨_,rfl,S5.out,Q5.out⟩
set_option maxRecDepth 100000 in
set_option maxHeartbeats 4000000 in
theorem readNo_g (w:World) (r:Nat) (j:Nat) (p:ByteArray) (id bz:Int) (d:Bool) (er off n:Int) (hcase:er ≠ 0 ∨ d = true) (SA0:Calls Tryz.prog 17 #[.pointer (some ⟨r,0,none⟩),.int .i64 ((j:Int) + 1),.string p] w fun e w' => e = .returned (.tuple #[.agg #[.int .i64 id,.bool d,.int .i64 bz],.int .i64 er]) ∧ Below w.heap.size w w') :
  Calls Tryz.prog 11 #[.pointer (some ⟨r,0,none⟩),.int .i64 ((j:Int) + 1),.string p,.int .i64 off,.int .i64 n] w fun e w' => e = .returned (.tuple #[.slice none 0 0,.int .i64 (if er ≠ 0 then er else 6)]) ∧ Below w.heap.size w w':=by
 have SA:=Lib.hid SA0
 clear SA0
 by_cases hre:er ≠ 0
 ·rw [if_pos hre]
  have d1:(er != 0) = true:=by simpa using hre
  have d2:(er == 0) = false:=by simpa using hre
  go_enter Tryz.func11,Tryz.ntmps11
  go_wp2_with (go_at_call 17;with_reducible refine SA.out.mono ?_;rintro e1 w1 ⟨rfl,hq⟩;have Q1:=Lib.hid hq;have BX1:=Lib.hid (fun o => Q1.out.alloc Q1.out.size o);clear hq)
  go_ret2
  exact ⟨rfl,BX1.out _⟩
 ·rw [if_neg hre]
  have hre:er = 0:=by simpa using hre
  have hd:d = true:=hcase.elim (fun h => absurd hre h) (fun h => h)
  subst hre
  subst hd
  go_enter Tryz.func11,Tryz.ntmps11
  go_wp2_with (go_at_call 17;with_reducible refine SA.out.mono ?_;rintro e1 w1 ⟨rfl,hq⟩;have Q1:=Lib.hid hq;have BX1:=Lib.hid (fun o => Q1.out.alloc Q1.out.size o);clear hq)
  go_ret2
  exact ⟨rfl,BX1.out _⟩
theorem repRead_g (w:World) (r:Nat) (X:RepXG) (H:RepG w r X) (j:Nat) (z:HsX) (hj:X.xs[j]? = some z) (hw:WholeG X.P z.y.x) (p:ByteArray) (hps:p.size ≤ 1000000) (off n:Int) (h0:0 ≤ off) (h1:off ≤ 1099511627776) (h2:0 ≤ n) (h3:n ≤ 4096) :
  Calls Tryz.prog 11 #[.pointer (some ⟨r,0,none⟩),.int .i64 ((j:Int) + 1),.string p,.int .i64 off,.int .i64 n] w fun e w' => ∃ v',e = .returned (.tuple #[v',.int .i64 (readG X.P z.y.x p off n).2]) ∧ Sl w' 5 1 v' (readG X.P z.y.x p off n).1.length (u8s (readG X.P z.y.x p off n).1) ∧ Below w.heap.size w w':=by
 obtain ⟨⟨⟨id,d,bz⟩,er⟩,hst⟩:∃ R,statG z.y.x p = R:=⟨_,rfl⟩
 have SA:=repStat_g w r X H j z hj p hps
 rw [hst] at SA
 by_cases hc:er ≠ 0 ∨ d = true
 ·have e1:readG X.P z.y.x p off n = ([],if er ≠ 0 then er else 6):=by
   unfold readG
   rw [hst]
   simp only
   by_cases c:er ≠ 0
   ·rw [if_pos c,if_pos c]
   ·rw [if_neg c,if_neg c,if_pos (hc.resolve_left c)]
  rw [e1]
  refine (readNo_g w r j p id bz d er off n hc SA).mono ?_
  rintro e w' ⟨rfl,hq⟩
  exact ⟨_,rfl,Sl.nil _ _ _,hq⟩
 ·simp only [not_or,Bool.not_eq_true] at hc
  obtain ⟨hc1,rfl⟩:=hc
  have hc1:er = 0:=by omega
  subst hc1
  obtain ⟨bd,b1,b2,b3,b4⟩:=stat_file (H.hist.each z (List.mem_of_getElem? hj)).ok hst
  have e1:readG X.P z.y.x p off n = (readB X.P bd off n,0):=by
   unfold readG
   rw [hst]
   simp [b4]
  rw [e1]
  exact readFile_g w r X H j z hj p hps id bz hst bd b1 b2 b3 (hw id bd b2) off n h0 h1 h2 h3
end Go.Proofs.YtaonlcgneemimaaGreatDoor
namespace Go.Proofs.YtaonlcgneemimaaGreatDoor
open Go.RowKit
structure NewRepG (w:World) (d l cb:Nat) (r:Nat) (X:RepXG) (w':World):Prop where
 rep:RepG w' r X
 fr:Frame [d,l,cb] w w'
 xs:X.xs = []
 yx:X.y.x = AbsG.new
 now:X.now = 0
 K:X.K = 0
 Ky:X.Ky = 0
 its:X.its = []
 P:X.P = []
 dn:X.dn = 0
 number:X.x.number = 2
 k:X.x.k = 0
 ssJ:X.x.ssJ = []
 ssC:X.x.ssC = []
 nJ:X.x.nJ = 0
 nC:X.x.nC = 0
 own:∀ y ∈ X.mu r,y = d ∨ y = l ∨ y = cb ∨ w.heap.size ≤ y
 own1:∀ y ∈ X.m1 r,w.heap.size ≤ y
 own2:(∀ k ∈ X.y.blocks,w.heap.size ≤ k) ∧ w.heap.size ≤ X.bl ∧ w.heap.size ≤ X.bb ∧ w.heap.size ≤ X.c ∧ w.heap.size ≤ X.x.b ∧ X.fb = fun _ => none
theorem newRepG_close {w w1 w2 w3 w5:World} {d l cb eb:Nat} {x:EngX} {y:StXG} (h1:d ≠ 1 ∧ l ≠ 1 ∧ cb ≠ 1) (hg:1 < w.heap.size) (F:FormatPost w d l cb eb x w1) (hh:HistG 0 w2 w1.heap.size (.slice none 0 0) (.slice none 0 0) []) (b2:Below w1.heap.size w1 w2) (hc:ChunksAt w3 w2.heap.size (w2.heap.size + 2) [] w2.heap.size (w2.heap.size + 1) [] (fun _ => none) 0 0) (b3:Below w2.heap.size w2 w3)
  (hs:StGt w5 0 y) (hx:y.x = AbsG.new) (hy:∀ k ∈ y.blocks,w3.heap.size + 1 ≤ k) (b5:Below (w3.heap.size + 1) (w3.alloc (.map #[] 0)) w5) :
  NewRepG w d l cb w5.heap.size ⟨0,0,0,eb,x,w1.heap.size,.slice none 0 0,.slice none 0 0,[],w2.heap.size + 2,[],w2.heap.size,w2.heap.size + 1,[],fun _ => none,0,0,w3.heap.size,0,fun _ => none,.slice none 0 0,[],y⟩
   (w5.alloc (.cells #[.pointer (some ⟨eb,0,none⟩),.pointer (some ⟨w1.heap.size,0,none⟩),.pointer (some ⟨w2.heap.size + 2,0,none⟩),.map (some w3.heap.size),.float .f64 0,.slice none 0 0,.pointer (some ⟨y.s,0,none⟩)] 77)):=by
 have s1:=F.fr.size
 have s2:=b2.size
 have s3:=b3.size
 have sh:=heap_lt hh.cell
 have sc:=heap_lt hc.cell
 have s5:w3.heap.size + 1 ≤ w5.heap.size:=by have:=b5.size;simpa using this
 have b4:Below w3.heap.size w3 (w3.alloc (.map #[] 0)):=crc_below _ _
 have b35:Below w3.heap.size w3 w5:=b4.trans (b5.mono (by omega))
 have b6:Below w5.heap.size w5 (w5.alloc (.cells #[.pointer (some ⟨eb,0,none⟩),.pointer (some ⟨w1.heap.size,0,none⟩),.pointer (some ⟨w2.heap.size + 2,0,none⟩),.map (some w3.heap.size),.float .f64 0,.slice none 0 0,.pointer (some ⟨y.s,0,none⟩)] 77)):=crc_below _ _
 have b36:Below w3.heap.size w3 _:=b35.trans (b6.mono b35.size)
 have b26:Below w2.heap.size w2 _:=b3.trans (b36.mono b3.size)
 have b16:Below w1.heap.size w1 _:=b2.trans (b26.mono b2.size)
 have LE:=F.eng.typed.lt
 have hyl:=hs.lt
 have hmu:∀ k,k ∈ RepXG.mu ⟨0,0,0,eb,x,w1.heap.size,.slice none 0 0,.slice none 0 0,[],w2.heap.size + 2,[],w2.heap.size,w2.heap.size + 1,[],fun _ => none,0,0,w3.heap.size,0,fun _ => none,.slice none 0 0,[],y⟩ w5.heap.size → k = w5.heap.size ∨ k = w3.heap.size ∨ (k ∈ x.mut eb ∧ k < w1.heap.size) ∨ k = w1.heap.size:=by
  intro k hk
  simp only [RepXG.mu,histM,Value.ownBlock,List.mem_cons,List.mem_append,Option.toList_none,List.not_mem_nil,or_false] at hk
  rcases hk with h | h | h | h
  ·exact .inl h
  ·exact .inr (.inl h)
  ·exact .inr (.inr (.inl ⟨h,LE k h⟩))
  ·exact .inr (.inr (.inr h))
 have hmut:∀ k ∈ x.mut eb,k ≠ 1:=fun k hk h => by
  rcases F.own k hk with h2 | h2 | h2 | h2
  ·exact h1.1 (h2 ▸ h)
  ·exact h1.2.1 (h2 ▸ h)
  ·exact h1.2.2 (h2 ▸ h)
  ·omega
 have hm1:∀ k,k ∈ RepXG.m1 ⟨0,0,0,eb,x,w1.heap.size,.slice none 0 0,.slice none 0 0,[],w2.heap.size + 2,[],w2.heap.size,w2.heap.size + 1,[],fun _ => none,0,0,w3.heap.size,0,fun _ => none,.slice none 0 0,[],y⟩ w5.heap.size → k = w5.heap.size ∨ k ∈ y.blocks:=by
  intro k hk
  simp only [RepXG.m1,StXG.blocks,List.mem_cons,List.not_mem_nil,or_false] at hk ⊢
  rcases hk with h | h | h | h
  ·exact .inl h
  ·exact .inr (.inr (.inl h))
  ·exact .inr (.inr (.inr (.inl h)))
  ·exact .inr (.inr (.inr (.inr h)))
 refine ⟨⟨by rw [stF_zero];exact heap_new _ _,F.eng.below b16,hh.below b26,(hc.below b36).weak (Nat.zero_le _),?_,fun id v h => by simp at h,⟨[],rfl,Sl.nil _ _ _,fun j s i h => by simp at h⟩,hs.below b6,hx,trivial,rfl,fun i hi => by simp at hi,PtsOk.nil,⟨by show 0 ≤ 33;decide,fun p hp => by simp [allPts] at hp⟩,⟨fun h => ?_,fun h => ?_⟩,fun k hk h => ?_,fun z hz => by simp at hz,⟨fun h => ?_,fun h => ?_⟩,fun k v g hv => by simp at hv,fun h => ?_⟩,F.fr.then_below b16,rfl,hx,rfl,rfl,rfl,rfl,rfl,rfl,F.number,F.k,F.ssJ,F.ssC,F.nJ,F.nC,fun k hk => ?_,fun k hk => ?_,fun k hk => by have:=hy k hk;omega,by show w.heap.size ≤ w2.heap.size;omega,by show w.heap.size ≤ w2.heap.size + 1;omega,by show w.heap.size ≤ w2.heap.size + 2;omega,F.b,rfl⟩
 ·have hm:MapX KI (w3.alloc (.map #[] 0)) w3.heap.size 0 (fun _ => none):=MapX.made KI w3
  have hm5:MapX KI w5 w3.heap.size 0 (fun _ => none):=hm.same (b5.block _ (by omega))
  exact hm5.same (b6.block _ (by omega))
 ·rcases hmu 1 h with h | h | ⟨h,-⟩ | h
  ·omega
  ·omega
  ·exact hmut 1 h rfl
  ·omega
 ·rcases hm1 1 h with h | h
  ·omega
  ·have:=hy 1 h
   omega
 ·have h2:=hy k hk
  have h3:=hyl k hk
  rcases hmu k h with h | h | ⟨-,h⟩ | h <;> omega
 ·rcases hmu _ h with h | h | ⟨-,h⟩ | h <;> simp only at h <;> omega
 ·rcases hmu _ h with h | h | ⟨-,h⟩ | h <;> simp only at h <;> omega
 ·have:=LE _ h
  simp only at this
  omega
 ·rcases hmu k hk with h | h | ⟨h,-⟩ | h
  ·exact .inr (.inr (.inr (by omega)))
  ·exact .inr (.inr (.inr (by omega)))
  ·exact F.own k h
  ·exact .inr (.inr (.inr (by omega)))
 ·rcases hm1 k hk with h | h
  ·omega
  ·have:=hy k h
   omega
set_option maxRecDepth 100000 in
set_option maxHeartbeats 2000000 in
theorem repFormat_g (w:World) (d l cb k:Nat) (HD:DiskAt w d l cb 776 k) (hk:k ≤ 900000) (h1:d ≠ 1 ∧ l ≠ 1 ∧ cb ≠ 1) (hg:∃ m,w.cell? ⟨1,0,none⟩ = some (.int .i64 m)) :
  Calls Tryz.prog 8 #[.pointer (some ⟨d,0,none⟩)] w fun e w' => ∃ r X,e = .returned (.tuple #[.pointer (some ⟨r,0,none⟩),.int .i64 0]) ∧ NewRepG w d l cb r X w':=by
 have FM:=Lib.hid (format_any w d l cb k HD hk)
 have h1lt:1 < w.heap.size:=by
  obtain ⟨m,hm1⟩:=hg
  exact World.block_lt_of_cell? w ⟨1,0,none⟩ hm1
 have FM2:Hid (Calls Tryz.prog 19 #[.pointer (some ⟨d,0,none⟩)] w fun e w' => ∃ (eb:Nat) (x:EngX),e = .returned (.tuple #[.pointer (some ⟨eb,0,none⟩),.int .i64 0]) ∧ Hid (FormatPost w d l cb eb x w') ∧ Hid (∃ m,w'.cell? ⟨1,0,none⟩ = some (.int .i64 m))):=Lib.hid (by
  refine FM.out.mono ?_
  rintro e w' ⟨eb,x,rfl,hp⟩
  refine ⟨eb,x,rfl,Lib.hid hp,Lib.hid ?_⟩
  obtain ⟨m,hm1⟩:=hg
  exact ⟨m,(hp.fr.cell (p:=⟨1,0,none⟩) h1lt (by simp only [List.mem_cons,List.not_mem_nil,or_false];omega)).trans hm1⟩)
 have GB:Hid (∀ (W W':World),Hid (∃ m,W.cell? ⟨1,0,none⟩ = some (.int .i64 m)) → Below W.heap.size W W' → Hid (∃ m,W'.cell? ⟨1,0,none⟩ = some (.int .i64 m))):=Lib.hid (fun W W' hW hb => Lib.hid (by
  obtain ⟨m,hm1⟩:=hW.out
  exact ⟨m,(hb.cell (p:=⟨1,0,none⟩) (World.block_lt_of_cell? W ⟨1,0,none⟩ hm1)).trans hm1⟩))
 have hmk:=fun t w => run_makeMap (P:=Tryz.prog) t w
 clear HD FM hg
 go_enter Tryz.func8,Tryz.ntmps8
 go_wp2_with (first | (go_at_call 19;with_reducible refine FM2.out.mono ?_;rintro e1 w1 ⟨eb,x,rfl,F1,G1⟩) | (go_at_call 20;with_reducible refine (newHist_g 0 w1 G1.out).mono ?_;rintro e1 w2 ⟨rfl,hh,hq⟩;have H2:=Lib.hid hh;have B2:=Lib.hid hq;have G2:=GB.out _ _ G1 hq;clear hh hq) | (go_at_call 21;with_reducible refine (newChunks_any w2).mono ?_;rintro e1 w3 ⟨rfl,hc,hq⟩;have C3:=Lib.hid hc;have B3:=Lib.hid hq;have G3:=GB.out _ _ G2 hq;have G4:=GB.out _ (w3.alloc (.map #[] 0)) G3 (crc_below _ _);clear hc hq) | (go_at_call 22;with_reducible refine (newS_g (w3.alloc (.map #[] 0)) G4.out 0).mono ?_;rintro e1 w5 ⟨y,rfl,hs,hx,hy,hq⟩;have S5:=Lib.hid hs;have X5:=Lib.hid hx;have Y5:=Lib.hid hy;have B5:=Lib.hid hq;clear hs hx hy hq))
 have e4:(w3.alloc (.map #[] 0)).heap.size = w3.heap.size + 1:=by simp
 refine bodyPost_ret (v:=.tuple #[.pointer (some ⟨w5.heap.size,0,none⟩),.int .i64 0]) (by simp [results,Tryz.results8,go_sem]) rfl ?_
 exact ⟨_,_,rfl,newRepG_close h1 h1lt F1.out H2.out B2.out C3.out B3.out S5.out X5.out (fun k hk => by rw [← e4];exact Y5.out k hk) (e4 ▸ B5.out)⟩
end Go.Proofs.YtaonlcgneemimaaGreatDoor
namespace Go.Proofs.YtaonlcgneemimaaGreatDoor
open Go.RowKit
structure RepI (w:World) (r:Nat) (X:RepXG) (R:List RowA) (P:List (List Int)) (m j:Nat):Prop where
 rep:RepG w r X
 hP:X.P = P
 hm:m ≤ R.length
 pts:X.xs.map HsX.pt = (R.take m).map rowPt
 st:∀ k z,X.xs[k]? = some z → z.y.x = stepAllG AbsG.new (R.take (k + 1))
 its:X.its = R.drop m
 now:X.now = j
 K:X.K = kAll 0 (R.take m)
 eng:X.x.k = 0 ∧ X.x.number ≤ 2 + 4 * m ∧ X.dn ≤ 4000 * m
 short:R.drop m ≠ [] → (recordG (m + 1) (R.drop m)).length ≤ 16384
theorem RepI.len {w:World} {r:Nat} {X:RepXG} {R:List RowA} {P:List (List Int)} {m j:Nat} (h:RepI w r X R P m j):X.xs.length = m:=by
 have:=congrArg List.length h.pts
 simp only [List.length_map,List.length_take] at this
 have:=h.hm
 omega
theorem lastG_snoc (l:List HsX) (z:HsX):lastG (l ++ [z]) = z.y.x:=by simp [lastG]
theorem RepI.last {w:World} {r:Nat} {X:RepXG} {R:List RowA} {P:List (List Int)} {m j:Nat} (h:RepI w r X R P m j):lastG X.xs = stepAllG AbsG.new (R.take m):=by
 have hl:=h.len
 rcases List.eq_nil_or_concat X.xs with e | ⟨l,z,e⟩
 ·rw [e] at hl ⊢
  simp at hl
  subst hl
  simp [lastG,stepAllG]
 ·rw [List.concat_eq_append] at e
  have hz:X.xs[l.length]? = some z:=by rw [e];simp
  have h1:=h.st _ _ hz
  rw [e] at hl ⊢
  simp at hl
  rw [lastG_snoc,h1,hl]
theorem stepAllG_append (x:AbsG) (a b:List RowA):stepAllG (stepAllG x a) b = stepAllG x (a ++ b):=by
 unfold stepAllG
 rw [List.foldl_append]
theorem kAll_append (K:Nat) (a b:List RowA):kAll (kAll K a) b = kAll K (a ++ b):=by
 unfold kAll
 rw [List.foldl_append]
theorem RepI.yx {w:World} {r:Nat} {X:RepXG} {R:List RowA} {P:List (List Int)} {m j:Nat} (h:RepI w r X R P m j):X.y.x = stepAllG AbsG.new R:=by
 rw [h.rep.yx,h.last,h.its,stepAllG_append,List.take_append_drop]
theorem RepI.Ky {w:World} {r:Nat} {X:RepXG} {R:List RowA} {P:List (List Int)} {m j:Nat} (h:RepI w r X R P m j):X.Ky = kAll 0 R:=by
 rw [h.rep.ky,h.K,h.its,kAll_append,List.take_append_drop]
theorem RepI.all {w:World} {r:Nat} {X:RepXG} {R:List RowA} {P:List (List Int)} {m j:Nat} (h:RepI w r X R P m j):allPts X.xs X.its = R.map rowPt:=by
 unfold allPts
 rw [h.pts,h.its,← List.map_append,List.take_append_drop]
theorem RepI.below {w w':World} {r:Nat} {X:RepXG} {R:List RowA} {P:List (List Int)} {m j:Nat} (h:RepI w r X R P m j) (hb:Below w.heap.size w w'):RepI w' r X R P m j:=⟨h.rep.below hb,h.hP,h.hm,h.pts,h.st,h.its,h.now,h.K,h.eng,h.short⟩
theorem RepI.with {w w':World} {r:Nat} {X:RepXG} {R:List RowA} {P:List (List Int)} {m j:Nat} (h:RepI w r X R P m j) (hr:RepG w' r X):RepI w' r X R P m j:=⟨hr,h.hP,h.hm,h.pts,h.st,h.its,h.now,h.K,h.eng,h.short⟩
theorem RowsP.more {R:List RowA} {P:List (List Int)} {j:Nat} (h:RowsP R P j) (hj:j + 1 ≤ 30) {t:Nat} (ht:t ≤ j) (hck0:∀ r ∈ R,r.1 ≤ t) {e:EvR} (hc:refuseC R e = 0) (hd:e.data.length = e.dn):RowsP (R ++ [(t,evItem P e.ev e.data)]) (evP P e.ev e.data) (j + 1) ∧ OkG (stepAllG AbsG.new R) (kAll 0 R) (evItem P e.ev e.data) ∧ (evItem P e.ev e.data).good ∧ EvNice e.ev e.data.length ∧ (e.ev.op = 8 → e.ev.path ≠ ⟨#[]⟩ ∧ markedB (R.map rowPt) e.ev.path = false) ∧ PtsOk (R.map rowPt ++ [(t,markOf (evItem P e.ev e.data))]):=by
 have hck:checkG (stepAllG AbsG.new R).T (stepAllG AbsG.new R).n e.ev.op e.ev.path e.ev.to e.ev.off e.ev.size e.dn = 0:=by
  unfold refuseC at hc
  split at hc
  ·rename_i h1
   exact absurd hc h1
  ·rename_i h1
   simpa using h1
 have hmk:¬ (e.ev.op = 8 ∧ markedB (R.map rowPt) e.ev.path = true):=by
  unfold refuseC at hc
  rw [if_neg (by simpa using hck)] at hc
  intro hh
  rw [if_pos hh] at hc
  cases hc
 rw [← hd] at hck
 have hn:=ev_nice hck
 have hl:=h.len
 have hp:=h.plen
 have hj0:=h.j30
 have hwr:e.ev.op = 3 → e.data.length ≤ 1024:=fun o => (hn.wr o).2.2
 have hgood:=evItem_good (P:=P) h.nodup (by omega) hn
 have hK:=kAll_le R 0 h.parts
 have hN:=stepAll_next R AbsG.new
 have hN1:AbsG.new.next = 1:=rfl
 have hok:=evItem_ok (K:=kAll 0 R) (P:=P) h.nodup (by omega) hck (by omega) (by omega)
 have hmark:∀ p,p ∈ R.map rowPt → p.1 ≤ t:=fun p hp => by
  obtain ⟨r,hr,rfl⟩:=List.mem_map.1 hp
  exact hck0 r hr
 have hne:e.ev.op = 8 → e.ev.path ≠ ⟨#[]⟩:=fun o e0 => by
  have h1:=nameOk_size (hn.nm o)
  rw [e0] at h1
  have:(⟨#[]⟩:ByteArray).size = 0:=rfl
  omega
 have hmB:e.ev.op = 8 → markedB (R.map rowPt) e.ev.path = false:=fun o => by
  cases hx:markedB (R.map rowPt) e.ev.path with
  | false => rfl
  | true => exact absurd ⟨o,hx⟩ hmk
 have hmo:markOf (evItem P e.ev e.data) = if e.ev.op = 8 then e.ev.path else ⟨#[]⟩:=rfl
 have hpts:PtsOk (R.map rowPt ++ [(t,markOf (evItem P e.ev e.data))]):=by
  refine ⟨fun p hp => ?_,fun k a b ha hb => ?_,fun p hp hx => ?_,fun k l a b ha hb hkl hx => ?_,fun p hp => ?_⟩
  ·rcases List.mem_append.1 hp with hp | hp
   ·exact h.pts.top p hp
   ·simp only [List.mem_singleton] at hp
    subst hp
    show t ≤ 33
    omega
  ·by_cases hk:k + 1 < (R.map rowPt).length
   ·rw [List.getElem?_append_left hk] at hb
    rw [List.getElem?_append_left (by omega)] at ha
    exact h.pts.rise k a b ha hb
   ·have hk1:k + 1 = (R.map rowPt).length:=by
     have:=(List.getElem?_eq_some_iff.1 hb).1
     simp only [List.length_append,List.length_singleton] at this
     omega
    rw [List.getElem?_append_left (by omega)] at ha
    rw [hk1,List.getElem?_append_right (Nat.le_refl _)] at hb
    simp at hb
    subst hb
    exact hmark a (List.mem_of_getElem? ha)
  ·rcases List.mem_append.1 hp with hp | hp
   ·exact h.pts.name p hp hx
   ·simp only [List.mem_singleton] at hp
    subst hp
    rw [hmo] at hx ⊢
    simp only at hx
    split at hx
    ·rename_i o
     simp only [o,if_true]
     exact hn.nm o
    ·exact absurd rfl hx
  ·by_cases hl2:l < (R.map rowPt).length
   ·rw [List.getElem?_append_left hl2] at hb
    rw [List.getElem?_append_left (by omega)] at ha
    exact h.pts.once k l a b ha hb hkl hx
   ·have hl1:l = (R.map rowPt).length:=by
     have:=(List.getElem?_eq_some_iff.1 hb).1
     simp only [List.length_append,List.length_singleton] at this
     omega
    rw [List.getElem?_append_left (by omega)] at ha
    rw [hl1,List.getElem?_append_right (Nat.le_refl _)] at hb
    simp at hb
    subst hb
    rw [hmo] at hx ⊢
    simp only at hx ⊢
    by_cases o:e.ev.op = 8
    ·rw [if_pos o]
     intro heq
     have h1:=hmB o
     unfold markedB at h1
     rw [List.any_eq_false] at h1
     exact h1 a (List.mem_of_getElem? ha) (by rw [heq];simp)
    ·rw [if_neg o] at hx
     exact absurd rfl hx
  ·rcases List.mem_append.1 hp with hp | hp
   ·exact h.pts.small p hp
   ·simp only [List.mem_singleton] at hp
    subst hp
    rw [hmo]
    simp only
    split
    ·rename_i o
     have:=nameOk_size (hn.nm o)
     omega
    ·decide
 refine ⟨⟨by simp;omega,hj,?_,?_,fun k => ?_,fun r hr => ?_,fun r hr => ?_,?_,?_,fun r hr => ?_⟩,hok,hgood,hn,fun o => ⟨hne o,hmB o⟩,hpts⟩
 ·unfold evP
  split
  ·exact putAll_nodup _ _ h.nodup
  ·exact h.nodup
 ·have:=evP_len P e.ev e.data hwr
  omega
 ·by_cases hk:k ≤ R.length
  ·rw [List.take_append_of_le_length hk]
   exact (h.whole k).pre (evP_pre P e.ev e.data)
  ·rw [List.take_of_length_le (by simp;omega),stepAllG_snoc]
   have:=h.whole R.length
   rw [List.take_length] at this
   exact (this.pre (evP_pre P e.ev e.data)).step (evParts_in h.nodup e.ev e.data)
 ·rcases List.mem_append.1 hr with hr | hr
  ·exact h.parts r hr
  ·simp only [List.mem_singleton] at hr
   subst hr
   exact evParts_few P e.ev e.data hwr
 ·rcases List.mem_append.1 hr with hr | hr
  ·exact h.good r hr
  ·simp only [List.mem_singleton] at hr
   subst hr
   exact hgood
 ·exact okAllG_snoc _ _ _ _ h.ok hok
 ·rw [List.map_append]
  exact hpts
 ·rcases List.mem_append.1 hr with hr | hr
  ·exact Nat.le_succ_of_le (h.clock r hr)
  ·simp only [List.mem_singleton] at hr
   subst hr
   exact Nat.le_succ_of_le ht
theorem record_long (seq:Nat) (its:List RowA) (hs:seq ≤ 9223372036854775807) (hg:∀ i ∈ its,i.2.good ∧ i.2.parts.length ≤ 128) (hl:its.length ≤ 31):(recordG seq its).length ≤ 700000:=by
 have h1:∀ l:List RowA,(∀ i ∈ l,i.2.good ∧ i.2.parts.length ≤ 128) → (l.flatMap rowGB).length ≤ 4000 * l.length:=fun l => by
  induction l with
  | nil => intro _;simp
  | cons a l ih =>
   intro h
   have h2:=ih (fun i hi => h i (List.mem_cons_of_mem _ hi))
   obtain ⟨h3,h4⟩:=h a (by simp)
   have h5:=itemB_len a.2 h3
   simp only [List.flatMap_cons,List.length_append,List.length_cons,rowGB,leB_length] at h2 ⊢
   omega
 have h2:=h1 its hg
 have h3:=numB_len 8 seq (by omega)
 have h4:=numB_len 8 its.length (by omega)
 unfold recordG
 simp only [List.length_append,List.length_singleton]
 omega
theorem record_less (R:List RowA) (x:RowA) (m:Nat) (hR:R.length ≤ 30):(recordG (m + 1) (R.drop m ++ [x])).length ≤ (recordG (0 + 1) (R.drop 0 ++ [x])).length ∨ R.length < m:=by
 by_cases hm:m ≤ R.length
 ·left
  unfold recordG
  have e1:numB (m + 1) = [((m + 1:Nat):Int)]:=numB_lo (by omega)
  have e2:numB (0 + 1) = [((0 + 1:Nat):Int)]:=numB_lo (by omega)
  have e3:numB (R.drop m ++ [x]).length = [(((R.drop m ++ [x]).length:Nat):Int)]:=numB_lo (by simp;omega)
  have e4:numB (R.drop 0 ++ [x]).length = [(((R.drop 0 ++ [x]).length:Nat):Int)]:=numB_lo (by simp;omega)
  rw [e1,e2,e3,e4]
  simp only [List.length_append,List.length_singleton,List.flatMap_append,List.drop_zero]
  have h:=congrArg (fun l => (List.flatMap rowGB l).length) (List.take_append_drop m R)
  simp only [List.flatMap_append,List.length_append] at h
  omega
 ·right
  omega
end Go.Proofs.YtaonlcgneemimaaGreatDoor
