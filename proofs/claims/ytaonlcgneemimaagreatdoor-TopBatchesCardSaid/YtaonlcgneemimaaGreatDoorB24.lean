/- TopBatches: the contracts of AP1, AR1, AR2, AB2; no condition. -/
import Derived.Test.YtaonlcgneemimaaGreatDoorB09
import Derived.Test.YtaonlcgneemimaaGreatDoorB16
import Derived.BigQuiet
namespace Go.Proofs.YtaonlcgneemimaaGreatDoor
open Go.RowKit
abbrev PtA:=Nat × ByteArray
def ptC (n:Nat) (p:PtA):List Value:=[.int .i64 ((n:Int) + 1),.float .f64 (stF p.1),.string p.2]
def ptsGC:Nat → List PtA → List Value
 | _,[] => []
 | n,p :: l => ptC n p ++ ptsGC (n + 1) l
theorem ptsGC_snoc:∀ (l:List PtA) (n:Nat) (p:PtA),ptsGC n (l ++ [p]) = ptsGC n l ++ ptC (n + l.length) p
 | [],n,p => by simp [ptsGC]
 | q :: l,n,p => by
  simp only [List.cons_append,ptsGC,ptsGC_snoc l (n + 1) p,List.length_cons,List.append_assoc]
  rw [show n + 1 + l.length = n + (l.length + 1) by omega]
theorem ptsGC_one:∀ (l:List PtA) (n:Nat),∀ u ∈ ptsGC n l,u.oneCell' = true
 | [],n,u,h => by simp [ptsGC] at h
 | q :: l,n,u,h => by
  simp only [ptsGC,ptC,List.mem_append,List.mem_cons,List.not_mem_nil,or_false] at h
  rcases h with (rfl | rfl | rfl) | h
  ·rfl
  ·rfl
  ·rfl
  ·exact ptsGC_one l _ u h
theorem ptsGC_get:∀ (l:List PtA) (n i:Nat) (p:PtA),l[i]? = some p → (ptsGC n l)[i * 3]? = some (.int .i64 (((n + i:Nat):Int) + 1)) ∧ (ptsGC n l)[i * 3 + 1]? = some (.float .f64 (stF p.1)) ∧ (ptsGC n l)[i * 3 + 2]? = some (.string p.2)
 | [],n,i,p,h => by simp at h
 | q :: l,n,0,p,h => by
  simp at h;subst h
  exact ⟨rfl,rfl,rfl⟩
 | q :: l,n,i + 1,p,h => by
  have ih:=ptsGC_get l (n + 1) i p (by simpa using h)
  rw [show n + 1 + i = n + (i + 1) by omega] at ih
  have e:∀ k,(ptsGC n (q :: l))[(i + 1) * 3 + k]? = (ptsGC (n + 1) l)[i * 3 + k]?:=fun k => by
   show (ptC n q ++ ptsGC (n + 1) l)[(i + 1) * 3 + k]? = _
   rw [List.getElem?_append_right (by simp [ptC];omega)]
   congr 1
   simp [ptC];omega
  exact ⟨(e 0).trans ih.1,(e 1).trans ih.2.1,(e 2).trans ih.2.2⟩
def PtsGV (w:World) (v:Value) (l:List PtA):Prop:=Sl w 52 3 v l.length (ptsGC 0 l)
theorem ptsG_cells {w:World} {v:Value} {l:List PtA} (h:PtsGV w v l):∃ a cap,v = .slice a l.length cap ∧ l.length ≤ cap ∧ (a = none → l.length = 0) ∧ ∀ j p,l[j]? = some p → ∃ g off,a = some ⟨g,off,none⟩ ∧ g < w.heap.size ∧ w.cell? ⟨g,off + j * 3,none⟩ = some (.int .i64 ((j:Int) + 1)) ∧ w.cell? ⟨g,off + j * 3 + 1,none⟩ = some (.float .f64 (stF p.1)) ∧ w.cell? ⟨g,off + j * 3 + 2,none⟩ = some (.string p.2):=by
 obtain ⟨a,cap,rfl,hc,ha,hj⟩:=Sl.shape h
 refine ⟨a,cap,rfl,hc,ha,fun j p hp => ?_⟩
 have hlt:=(List.getElem?_eq_some_iff.1 hp).1
 obtain ⟨g,off,rfl,hg,hk⟩:=hj j hlt
 have hg3:=ptsGC_get l 0 j p hp
 rw [Nat.zero_add] at hg3
 exact ⟨g,off,rfl,hg,hk 0 _ (by decide) hg3.1,hk 1 _ (by decide) hg3.2.1,hk 2 _ (by decide) hg3.2.2⟩
structure PtsOk (l:List PtA):Prop where
 top:∀ p ∈ l,p.1 ≤ 33
 rise:∀ (j:Nat) a b,l[j]? = some a → l[j + 1]? = some b → a.1 ≤ b.1
 name:∀ p ∈ l,p.2 ≠ ⟨#[]⟩ → nameOk p.2 = true
 once:∀ (j k:Nat) a b,l[j]? = some a → l[k]? = some b → j < k → b.2 ≠ ⟨#[]⟩ → a.2 ≠ b.2
 small:∀ p ∈ l,p.2.size ≤ 16
def SeenM (l:List PtA) (k:Nat) (f:ByteArray → Option Value):Prop:=∀ m,f m ≠ none → ∃ j p,j < k ∧ l[j]? = some p ∧ p.2 = m
theorem toList_nil {p:ByteArray} (h:p ≠ ⟨#[]⟩):¬ p.toList = []:=fun e => h (by
 rw [Lib.toList_data] at e
 cases p with
 | mk d =>
  have:d = #[]:=by simpa using e
  rw [this])
theorem zero4p:∀ w,(zeroValue 4).run Tryz.prog w = .ok (.bool false) w:=Tryz.zeroValue4
theorem SeenM.next {l:List PtA} {k:Nat} {f:ByteArray → Option Value} (h:SeenM l k f) {p:PtA} (hp:l[k]? = some p) (v:Option Value):SeenM l (k + 1) (fput f p.2 v):=fun m hm => by
 unfold fput at hm
 by_cases c:m = p.2
 ·exact ⟨k,p,by omega,hp,c.symm⟩
 ·rw [if_neg c] at hm
  obtain ⟨j,q,h1,h2,h3⟩:=h m hm
  exact ⟨j,q,by omega,h2,h3⟩
theorem SeenM.none {l:List PtA} {k:Nat} {f:ByteArray → Option Value} (h:SeenM l k f) (hl:PtsOk l) {p:PtA} (hp:l[k]? = some p) (hne:p.2 ≠ ⟨#[]⟩):f p.2 = none:=by
 cases hf:f p.2 with
 | none => rfl
 | some v =>
  obtain ⟨j,q,h1,h2,h3⟩:=h p.2 (by rw [hf];simp)
  exact absurd h3 (hl.once j k q p h2 hp h1 hne)
set_option maxRecDepth 100000 in
set_option maxHeartbeats 4000000 in
theorem pointsMay_g (w:World) (v:Value) (l:List PtA) (h:PtsGV w v l) (hl:PtsOk l) (hn:l.length ≤ 100000) :
  Calls Tryz.prog 125 #[v] w fun e w' => e = .returned (.bool true) ∧ Below w.heap.size w w':=by
 obtain ⟨a,cap,rfl,hcap,-,hcells⟩:=ptsG_cells h
 have HC:=Lib.hid hcells
 have HL:=Lib.hid hl
 obtain ⟨n,hN⟩:∃ n,Hid (n = l.length):=⟨_,Lib.hid rfl⟩
 rw [← hN.out] at hn hcap ⊢
 have hmk:=fun t w => run_makeMap (P:=Tryz.prog) t w
 have hsf:=fun (W:World) (p:Addr) (k:Nat) => run_store Tryz.prog W p (.float .f64 k) .plain rfl
 clear h hcells hl
 go_enter Tryz.func125,Tryz.ntmps125
 go_wp2
 go_loopw [3,4,11] (fun t3 t4 ti wr => ∃ k nm m:Nat,∃ f,k ≤ n ∧ nm ≤ k ∧ ti = .int .i64 k ∧ t3 = .int .i64 k ∧ t4 = .float .f64 (stF m) ∧ m ≤ 33 ∧ Hid (∀ p,l[k]? = some p → m ≤ p.1) ∧ Hid (SeenM l k f) ∧ Hid (MapX KS wr w.heap.size nm f) ∧ Hid (Below w.heap.size w wr)) (fun _ _ i _ => n - (intOf i).toNat)
 case atStart => exact ⟨0,0,0,fun _ => none,by omega,by omega,rfl,rfl,by rw [stF_zero],by omega,Lib.hid (fun _ _ => Nat.zero_le _),Lib.hid (fun m hm => absurd rfl hm),MapX.made KS w,(Below.refl _ _).alloc (Nat.le_refl _) _⟩
 case round =>
  obtain ⟨k,nm,m,f,hk,hnm,rfl,rfl,rfl,hm33,hmle,hseen,hmap,hbel⟩:=hrel
  by_cases hlt:k < n
  ·obtain ⟨p,hp⟩:∃ p,l[k]? = some p:=⟨_,List.getElem?_eq_getElem (by have:=hN.out;omega)⟩
   obtain ⟨g,off,rfl,hg,c0,c1,c2⟩:=HC.out k p hp
   obtain ⟨st,mk⟩:=p
   simp only at c1 c2
   have t:∀ o u,w.cell? ⟨g,o,none⟩ = some u → wr.cell? ⟨g,o,none⟩ = some u:=fun o u h => by
    rw [hbel.out.cell (p:=⟨g,o,none⟩) hg]
    exact h
   have q0:=t _ _ c0
   have q1:=t _ _ c1
   have q2:=t _ _ c2
   have d1:decide ((k:Int) + 1 ≤ k) = false:=by simp;omega
   have hs33:st ≤ 33:=HL.out.top _ (List.mem_of_getElem? hp)
   have HNX:Hid (∀ j,l[k + 1]? = some j → st ≤ j.1):=Lib.hid (fun j hj => HL.out.rise k _ j hp hj)
   have hmi:m ≤ st:=hmle.out _ hp
   have hf0:=st_lss_table ⟨st,by omega⟩ ⟨m,by omega⟩
   have hf1:decide (st < m) = false:=by simp;omega
   simp only at hf0
   rw [hf1] at hf0
   have hml:=hmap.out.lt
   have hgood:KS.good mk:=by
    have:=HL.out.small _ (List.mem_of_getElem? hp)
    show mk.size ≤ maxLen
    unfold maxLen
    simp only at this
    omega
   have HN2:=Lib.hid (heap_new wr (.cells #[.int .i64 ((k:Int) + 1),.float .f64 (stF st),.string mk] 52))
   have HSEE:Hid (SeenM l (k + 1) (fput f mk (some (.bool true)))):=Lib.hid (hseen.out.next hp _)
   have HST:Hid (∀ q,∃ w3,(Instr.mapUpdate 254 (.map (some w.heap.size)) (.string mk) (.bool true)).run Tryz.prog ((wr.alloc (.cells #[.int .i64 ((k:Int) + 1),.float .f64 (stF st),.string mk] 52)).drewN q) = .ok () w3 ∧ Hid (MapX KS w3 w.heap.size (if (f mk).isSome then nm else nm + 1) (fput f mk (some (.bool true)))) ∧ Hid (w3.heap[wr.heap.size]? = some (.cells #[.int .i64 ((k:Int) + 1),.float .f64 (stF st),.string mk] 52 (0,0))) ∧ Hid (Below w.heap.size w w3)):=Lib.hid (fun q => by
    have hm2:MapX KS ((wr.alloc (.cells #[.int .i64 ((k:Int) + 1),.float .f64 (stF st),.string mk] 52)).drewN q) w.heap.size nm f:=hmap.out.same (Below.heap_alloc wr _ _ hml)
    obtain ⟨w3,hrun,hm3,ht3⟩:=hm2.store Tryz.underlying254 (by unfold maxLen;omega) hgood (.bool true)
    refine ⟨w3,hrun,Lib.hid hm3,Lib.hid (turned_keep ht3 HN2.out (fun e => by omega)),Lib.hid ?_⟩
    exact (below_drewN (hbel.out.alloc hbel.out.size (.cells #[.int .i64 ((k:Int) + 1),.float .f64 (stF st),.string mk] 52)) q).grown ht3.grown (by have:=hbel.out.size;show w.heap.size ≤ (wr.alloc (.cells #[.int .i64 ((k:Int) + 1),.float .f64 (stF st),.string mk] 52)).heap.size;simp;omega) (fun k' hk' => by cases hk';exact Nat.le_refl _))
   have HK:Hid (∀ W:World,W.heap[wr.heap.size]? = some (.cells #[.int .i64 ((k:Int) + 1),.float .f64 (stF st),.string mk] 52 (0,0)) → W.cell? ⟨wr.heap.size,0,none⟩ = some (.int .i64 ((k:Int) + 1)) ∧ W.cell? ⟨wr.heap.size,1,none⟩ = some (.float .f64 (stF st)) ∧ W.cell? ⟨wr.heap.size,2,none⟩ = some (.string mk)):=Lib.hid (fun W h => ⟨cellAt h 0,cellAt h 1,cellAt h 2⟩)
   by_cases he:mk = ⟨#[]⟩
   ·subst he
    obtain ⟨w3,hrun,HM3,HN3,HB3⟩:=HST.out 1
    rw [← World.drew_is_drewN] at hrun
    clear c0 c1 c2 t hmi hf1 hmle hgood hseen hp
    go_wp2_with (first | (go_at_call 82;refine (ageMay_g _ st hs33).mono ?_;rintro e w1 ⟨rfl,hw⟩;have hw:=hw.symm;subst hw) | (go_at_call 167;refine (signbit_g _ st hs33).mono ?_;rintro e w1 ⟨rfl,hw⟩;have hw:=hw.symm;subst hw))
    go_region_held3 (fun W => W.cell? ⟨wr.heap.size,0,none⟩ = some (.int .i64 ((k:Int) + 1)) ∧ W.cell? ⟨wr.heap.size,1,none⟩ = some (.float .f64 (stF st)) ∧ W.cell? ⟨wr.heap.size,2,none⟩ = some (.string ⟨#[]⟩)) (first | exact HK.out _ HN2.out | exact HK.out _ HN3.out) (first | fail)
    go_wp2_with fail
    go_roundw
    case rel => exact ⟨k + 1,_,st,_,by omega,(by split <;> omega),by go_num,by go_num,rfl,hs33,HNX,HSEE,HM3,HB3⟩
    case measure => simp [intOf];omega
   ·have hfn:=hseen.out.none HL.out hp he
    have hnm2:nameOk mk = true:=HL.out.name _ (List.mem_of_getElem? hp) he
    have he2:=toList_nil he
    have hbs:mk.size ≤ 9223372036854775807:=by have:=HL.out.small _ (List.mem_of_getElem? hp);simp only at this;omega
    have CN:Hid (∀ W,Calls Tryz.prog 54 #[.string mk] W fun e w' => e = .returned (.bool true) ∧ ∃ q,w' = W.drewN q):=Lib.hid (fun W => by rw [← hnm2];exact name_any mk hbs W)
    have HLK:Hid (∀ q,(Instr.lookup 254 (.map (some w.heap.size)) (.string mk) false).run Tryz.prog ((wr.alloc (.cells #[.int .i64 ((k:Int) + 1),.float .f64 (stF st),.string mk] 52)).drewN q) = .ok (.bool false) ((wr.alloc (.cells #[.int .i64 ((k:Int) + 1),.float .f64 (stF st),.string mk] 52)).drewN q)):=Lib.hid (fun q => by
     have hm2:MapX KS ((wr.alloc (.cells #[.int .i64 ((k:Int) + 1),.float .f64 (stF st),.string mk] 52)).drewN q) w.heap.size nm f:=hmap.out.same (Below.heap_alloc wr _ _ hml)
     have h:=(hm2.look Tryz.underlying254 (zero4p _) hgood).2
     rw [hfn] at h
     exact h)
    clear c0 c1 c2 t hmi hf1 hmle hgood hseen hp hfn hnm2 hbs he
    go_wp2_with (first | (go_at_call 82;refine (ageMay_g _ st hs33).mono ?_;rintro e w1 ⟨rfl,hw⟩;have hw:=hw.symm;subst hw) | (go_at_call 167;refine (signbit_g _ st hs33).mono ?_;rintro e w1 ⟨rfl,hw⟩;have hw:=hw.symm;subst hw) | (go_at_call 54;refine (CN.out _).mono ?_;rintro e w1 ⟨rfl,q,hw⟩;subst hw;have hlk:=HLK.out q;obtain ⟨w3,hrun,HM3,HN3,HB3⟩:=HST.out (q + 1)))
    go_region_held3 (fun W => W.cell? ⟨wr.heap.size,0,none⟩ = some (.int .i64 ((k:Int) + 1)) ∧ W.cell? ⟨wr.heap.size,1,none⟩ = some (.float .f64 (stF st)) ∧ W.cell? ⟨wr.heap.size,2,none⟩ = some (.string mk)) (first | exact HK.out _ HN2.out | exact HK.out _ HN3.out) (first | fail)
    go_wp2_with fail
    go_roundw
    case rel => exact ⟨k + 1,_,st,_,by omega,(by split <;> omega),by go_num,by go_num,rfl,hs33,HNX,HSEE,HM3,HB3⟩
    case measure => simp [intOf];omega
  ·go_wp2
   go_ret
   exact ⟨rfl,hbel.out⟩
end Go.Proofs.YtaonlcgneemimaaGreatDoor
namespace Go.Proofs.YtaonlcgneemimaaGreatDoor
open Go.RowKit
abbrev RowA:=Nat × ItemA
def StOk (l:List RowA):Prop:=(∀ r ∈ l,r.1 ≤ 33) ∧ ∀ (j:Nat) a b,l[j]? = some a → l[j + 1]? = some b → a.1 ≤ b.1
def rowGC (s:Value) (r:RowA):List Value:=[.float .f64 (stF r.1),.int .i64 r.2.op,.string r.2.path,.string r.2.to,.int .i64 r.2.off,.int .i64 r.2.size,.slice none 0 0,s]
def rowsGC:List Value → List RowA → List Value
 | s :: ss,i :: is => rowGC s i ++ rowsGC ss is
 | _,_ => []
def RowsGV (w:World) (v:Value) (its:List RowA):Prop :=
 ∃ ps:List Value,ps.length = its.length ∧ Sl w 86 8 v its.length (rowsGC ps its) ∧ ∀ (j:Nat) s i,ps[j]? = some s → its[j]? = some i → Sl w 134 4 s i.2.parts.length (partsC i.2.parts)
theorem rowsGC_get:∀ (ps:List Value) (its:List RowA) (j:Nat) (s:Value) (i:RowA),ps[j]? = some s → its[j]? = some i → ∀ k,k < 8 → (rowsGC ps its)[j * 8 + k]? = (rowGC s i)[k]?
 | [],its,j,s,i,h,_,k,_ => by simp at h
 | p :: ps,[],j,s,i,_,h,k,_ => by simp at h
 | p :: ps,q :: its,0,s,i,h,h',k,hk => by
  simp at h h';subst h;subst h'
  unfold rowsGC
  rw [Nat.zero_mul,Nat.zero_add,List.getElem?_append_left (by simp [rowGC];omega)]
 | p :: ps,q :: its,j + 1,s,i,h,h',k,hk => by
  have:=rowsGC_get ps its j s i (by simpa using h) (by simpa using h') k hk
  unfold rowsGC
  rw [List.getElem?_append_right (by simp [rowGC];omega),← this]
  congr 1
  simp [rowGC];omega
theorem RowsGV.below {w w':World} {v:Value} {its:List RowA} (h:RowsGV w v its) (hb:Below w.heap.size w w'):RowsGV w' v its:=by
 obtain ⟨ps,h1,h2,h3⟩:=h
 exact ⟨ps,h1,h2.below hb,fun j s i a b => (h3 j s i a b).below hb⟩
theorem rowsG_cells {w:World} {v:Value} {its:List RowA} (h:RowsGV w v its):∃ a cap,v = .slice a its.length cap ∧ its.length ≤ cap ∧ (a = none → its.length = 0) ∧ ∀ j i,its[j]? = some i → ∃ g off s,a = some ⟨g,off,none⟩ ∧ g < w.heap.size ∧ Sl w 134 4 s i.2.parts.length (partsC i.2.parts) ∧
  (w.cell? ⟨g,off + j * 8,none⟩ = some (.float .f64 (stF i.1)) ∧ w.cell? ⟨g,off + j * 8 + 1,none⟩ = some (.int .i64 i.2.op) ∧ w.cell? ⟨g,off + j * 8 + 2,none⟩ = some (.string i.2.path) ∧ w.cell? ⟨g,off + j * 8 + 3,none⟩ = some (.string i.2.to) ∧ w.cell? ⟨g,off + j * 8 + 4,none⟩ = some (.int .i64 i.2.off) ∧ w.cell? ⟨g,off + j * 8 + 5,none⟩ = some (.int .i64 i.2.size) ∧ w.cell? ⟨g,off + j * 8 + 6,none⟩ = some (.slice none 0 0) ∧ w.cell? ⟨g,off + j * 8 + 7,none⟩ = some s):=by
 obtain ⟨ps,hl,hs,hp⟩:=h
 obtain ⟨a,cap,rfl,hc,ha,hj⟩:=hs.shape
 refine ⟨a,cap,rfl,hc,ha,fun j i hi => ?_⟩
 have hlt:=(List.getElem?_eq_some_iff.1 hi).1
 obtain ⟨s,hs'⟩:∃ s,ps[j]? = some s:=⟨_,List.getElem?_eq_getElem (by omega)⟩
 obtain ⟨g,off,rfl,hg,hk⟩:=hj j hlt
 have hc:=rowsGC_get ps its j s i hs' hi
 refine ⟨g,off,s,rfl,hg,hp j s i hs' hi,?_⟩
 exact ⟨hk 0 _ (by decide) (hc 0 (by decide)),hk 1 _ (by decide) (hc 1 (by decide)),hk 2 _ (by decide) (hc 2 (by decide)),hk 3 _ (by decide) (hc 3 (by decide)),hk 4 _ (by decide) (hc 4 (by decide)),hk 5 _ (by decide) (hc 5 (by decide)),hk 6 _ (by decide) (hc 6 (by decide)),hk 7 _ (by decide) (hc 7 (by decide))⟩
set_option maxRecDepth 100000 in
set_option maxHeartbeats 2000000 in
theorem rows_g (w:World) (v:Value) (its:List RowA) (h:RowsGV w v its) (hg:∀ i ∈ its,i.2.good) (hst:StOk its) (hne:its ≠ []) (hn:its.length ≤ 100000) :
  Calls Tryz.prog 151 #[v] w fun e w' => e = .returned (.bool true) ∧ Below w.heap.size w w':=by
 obtain ⟨a,cap,rfl,hcap,-,hcells⟩:=rowsG_cells h
 have HC:=Lib.hid hcells
 have HG:=Lib.hid hg
 have hpos:decide (0 < its.length) = true:=by have:=List.length_pos_iff.2 hne;simp;omega
 have HST:=Lib.hid hst
 have hsf:=fun (W:World) (p:Addr) (k:Nat) => run_store Tryz.prog W p (.float .f64 k) .plain rfl
 clear h hcells hg hst
 go_enter Tryz.func151,Tryz.ntmps151
 go_wp2
 go_loopw [3,8] (fun t3 ti wr => ∃ k m:Nat,k ≤ its.length ∧ ti = .int .i64 k ∧ t3 = .float .f64 (stF m) ∧ m ≤ 33 ∧ Hid (∀ i,its[k]? = some i → m ≤ i.1) ∧ Hid (Below w.heap.size w wr)) (fun _ i _ => its.length - (intOf i).toNat)
 case atStart => exact ⟨0,0,by omega,rfl,by rw [stF_zero],by omega,Lib.hid (fun _ _ => Nat.zero_le _),Below.refl _ _⟩
 case round =>
  obtain ⟨k,m,hk,rfl,rfl,hm33,hmle,hbel⟩:=hrel
  by_cases hlt:k < its.length
  ·obtain ⟨i,hi⟩:∃ i,its[k]? = some i:=⟨_,List.getElem?_eq_getElem hlt⟩
   have HGI:=Lib.hid (HG.out i (List.mem_of_getElem? hi))
   have hi33:=HST.out.1 i (List.mem_of_getElem? hi)
   have HNX:Hid (∀ j,its[k + 1]? = some j → i.1 ≤ j.1):=Lib.hid (fun j hj => HST.out.2 k i j hi hj)
   have hmi:m ≤ i.1:=hmle.out i hi
   have hf0:=st_lss_table ⟨i.1,by omega⟩ ⟨m,by omega⟩
   have hf1:decide (i.1 < m) = false:=by simp;omega
   simp only at hf0
   rw [hf1] at hf0
   obtain ⟨g,off,s,rfl,hg,hs,c0,c1,c2,c3,c4,c5,c6,c7⟩:=HC.out k i hi
   have t:∀ o u,w.cell? ⟨g,o,none⟩ = some u → wr.cell? ⟨g,o,none⟩ = some u:=fun o u h => by
    rw [hbel.out.cell (p:=⟨g,o,none⟩) hg]
    exact h
   have q0:=t _ _ c0
   have q1:=t _ _ c1
   have q2:=t _ _ c2
   have q3:=t _ _ c3
   have q4:=t _ _ c4
   have q5:=t _ _ c5
   have q6:=t _ _ c6
   have q7:=t _ _ c7
   obtain ⟨sa,sc,rfl,-⟩:=parts_cells hs
   have HI:=Lib.hid (show ItemC wr [.int .i64 i.2.op,.string i.2.path,.string i.2.to,.int .i64 i.2.off,.int .i64 i.2.size,.slice none 0 0,.slice sa i.2.parts.length sc] i.2 from ⟨_,rfl,hs.below hbel.out⟩)
   clear c0 c1 c2 c3 c4 c5 c6 c7 t hs hi hmi hf1 hmle
   go_wp2_with (first | (go_at_call 150;refine (stamp_g _ i.1 hi33).mono ?_;rintro e w1 ⟨rfl,hw⟩;have hw:=hw.symm;subst hw) | (go_at_call 75;refine (itemMay_any i.2 _ _ (HI.out.below ((Below.refl _ _).alloc (Nat.le_refl _) _)) HGI.out).mono ?_;rintro e w2 ⟨rfl,hq⟩;have HQ:=Lib.hid hq;have e0:w2.cell? ⟨wr.heap.size,0,none⟩ = some (.float .f64 (stF i.1)):=cellAt (Below.heap hq (Nat.le_refl _) (heap_new wr _)) 0;clear hq))
   go_roundw
   case rel => exact ⟨k + 1,i.1,by omega,by go_num,rfl,hi33,HNX,(hbel.out.alloc hbel.out.size _).trans (HQ.out.mono (by have:=hbel.out.size;simp;omega))⟩
   case measure => simp [intOf];omega
  ·go_wp2
   go_ret
   refine ⟨?_,hbel.out⟩
   rw [← hpos]
   rfl
set_option maxRecDepth 100000 in
set_option maxHeartbeats 2000000 in
theorem batchMay_g (w:World) (seq:Int) (v:Value) (its:List RowA) (h:RowsGV w v its) (hg:∀ i ∈ its,i.2.good) (hst:StOk its) (hne:its ≠ []) (hn:its.length ≤ 100000) (h1:1 ≤ seq) (h2:seq ≤ 4611686018427387904) :
  Calls Tryz.prog 108 #[.agg (RecC seq v).toArray] w fun e w' => e = .returned (.bool true) ∧ Below w.heap.size w w':=by
 have HR:=Lib.hid h
 have HG:=Lib.hid hg
 obtain ⟨a,cap,rfl,hcap,-,-⟩:=rowsG_cells h
 have d1:decide (seq < 1) = false:=by simp;omega
 have d2:decide (4611686018427387904 < seq) = false:=by simp;omega
 have hf:=f_eql
 have HST:=Lib.hid hst
 have HNE:=Lib.hid hne
 clear h hg hne hst
 unfold RecC
 go_enter Tryz.func108,Tryz.ntmps108
 go_wp2_with (first | (go_at_call 150;refine (stamp0 _).mono ?_;rintro e w1 ⟨rfl,hw⟩;have hw:=hw.symm;subst hw) | (go_at_call 151;refine (rows_g _ _ its (HR.out.below ((Below.refl _ _).alloc (Nat.le_refl _) _)) HG.out HST.out HNE.out hn).mono ?_;rintro e w2 ⟨rfl,hq⟩;have HQ:=Lib.hid hq;have hx:=Below.heap hq (Nat.le_refl _) (heap_new w _);have e3:w2.cell? ⟨w.heap.size,3,none⟩ = some (.float .f64 0):=cellAt hx 3;have e4:w2.cell? ⟨w.heap.size,4,none⟩ = some (.string ⟨#[]⟩):=cellAt hx 4;have e5:w2.cell? ⟨w.heap.size,5,none⟩ = some (.slice none 0 0):=cellAt hx 5;clear hq hx))
 go_ret
 exact ⟨rfl,((Below.refl _ w).alloc (Nat.le_refl _) _).trans (HQ.out.mono (by simp))⟩
end Go.Proofs.YtaonlcgneemimaaGreatDoor
namespace Go.Proofs.YtaonlcgneemimaaGreatDoor
open Go.RowKit
def rowGB (r:RowA):List Int:=leB 8 (stF r.1) ++ itemB r.2
def recordG (seq:Nat) (its:List RowA):List Int:=[1] ++ numB seq ++ numB its.length ++ its.flatMap rowGB
theorem rowsGB_le {its:List RowA} {k:Nat}:((its.take k).flatMap rowGB).length ≤ (its.flatMap rowGB).length:=by
 have h:=congrArg (fun l => (List.flatMap rowGB l).length) (List.take_append_drop k its)
 simp only [List.flatMap_append,List.length_append] at h
 omega
set_option maxRecDepth 100000 in
set_option maxHeartbeats 4000000 in
theorem batchBytes_g (w:World) (seq:Nat) (v:Value) (its:List RowA) (h:RowsGV w v its) (hg:∀ i ∈ its,i.2.good) (hst:StOk its) (hne:its ≠ []) (hn:its.length ≤ 100000) (h1:1 ≤ seq) (h2:seq ≤ 4611686018427387904) (hlen:(recordG seq its).length ≤ 16384) :
  Calls Tryz.prog 60 #[.agg (RecC seq v).toArray] w fun e w' => ∃ v',e = .returned (.tuple #[v',.int .i64 0]) ∧ w'.ownsRow w.heap.size 5 1 v' (recordG seq its).length (u8s (recordG seq its)) ∧ Below w.heap.size w w':=by
 have HR:=Lib.hid h
 have HG:=Lib.hid hg
 have HNE:=Lib.hid hne
 have HST:=Lib.hid hst
 have HLEN:=Lib.hid hlen
 obtain ⟨ra,rc,rfl,hcap,-,hcells⟩:=rowsG_cells h
 have HC:=Lib.hid hcells
 have N9:=Lib.hid (numB_len 8 seq (by omega))
 have N8:=Lib.hid (numB_len 8 its.length (by omega))
 obtain ⟨pre,hpre⟩:∃ pre,Hid (pre = [(1:Int)] ++ numB seq ++ numB its.length):=⟨_,rfl⟩
 have HREC:=Lib.hid (show recordG seq its = pre ++ its.flatMap rowGB by rw [hpre.out];rfl)
 clear h hg hne hlen hcells hst
 unfold RecC
 go_enter Tryz.func60,Tryz.ntmps60
 go_wp2_with (first
  | (go_at_call 108;refine (batchMay_g _ seq _ its (HR.out.below ((Below.refl _ w).alloc (Nat.le_refl _) _)) HG.out HST.out HNE.out hn (by omega) (by omega)).mono ?_;rintro e w1 ⟨rfl,hq⟩;have HB1:=Lib.hid (((Below.refl w.heap.size w).alloc (Nat.le_refl _) _).trans (hq.mono (by simp)));have HX1:=Lib.hid (Below.heap hq (Nat.le_refl _) (heap_new w (.cells #[.int .i64 1,.int .i64 seq,.slice ra its.length rc,.float .f64 0,.string ⟨#[]⟩,.slice none 0 0] 137)));have HP0:=Lib.hid (PenRec.mk (cs:=[.int .i64 1,.int .i64 seq,.slice ra its.length rc,.float .f64 0,.string ⟨#[]⟩,.slice none 0 0]) ((pen_new w1).mono HB1.out.size) (HB1.out.alloc HB1.out.size (.cells #[.slice none 0 0] 197)) (heap_old HX1.out _));obtain ⟨x00,x01,x02,-⟩:=HP0.out.facts;clear hq)
  | (go_at_call 109;with_reducible refine (byte_k _ _ _ _ (by simp) _ HP0.out.pen).mono ?_;rintro e w2 ⟨rfl,hq,hb',hk'⟩;have HP1:=Lib.hid (HP0.out.step hq hb' hk');obtain ⟨x10,x11,x12,-⟩:=HP1.out.facts;clear hq hb' hk')
  | (go_at_call 110;with_reducible refine (num_k _ _ _ seq (by omega) (by simp) _ HP1.out.pen).mono ?_;rintro e w3 ⟨rfl,hq,hb',hk'⟩;have HP2:=Lib.hid (HP1.out.step hq hb' hk');obtain ⟨x20,x21,x22,-⟩:=HP2.out.facts;clear hq hb' hk')
  | (go_at_call 110;with_reducible refine (num_k _ _ _ its.length (by omega) (by have:=N9.out;simp;omega) _ HP2.out.pen).mono ?_;rintro e w4 ⟨rfl,hq,hb',hk'⟩;have HP3:=Lib.hid (HP2.out.step hq hb' hk');obtain ⟨x30,x31,x32,-⟩:=HP3.out.facts;clear hq hb' hk'))
 simp only [List.nil_append] at HP3
 rw [← hpre.out] at HP3
 have HTOT:=Lib.hid (show (pre ++ its.flatMap rowGB).length ≤ 16384 by have:=HLEN.out;rwa [HREC.out] at this)
 have hsf:=fun (W:World) (p:Addr) (k:Nat) => run_store Tryz.prog W p (.float .f64 k) .plain rfl
 go_loopw [33] (fun ti wr => ∃ k:Nat,k ≤ its.length ∧ ti = .int .i64 k ∧ Hid (PenRec w wr w1.heap.size (pre ++ (its.take k).flatMap rowGB) w.heap.size [.int .i64 1,.int .i64 seq,.slice ra its.length rc,.float .f64 0,.string ⟨#[]⟩,.slice none 0 0])) (fun i _ => its.length - (intOf i).toNat)
 case atStart => exact ⟨0,by omega,rfl,by simpa using HP3⟩
 case round =>
  obtain ⟨k,hk,rfl,hpin⟩:=hrel
  by_cases hlt:k < its.length
  ·obtain ⟨i,hi⟩:∃ i,its[k]? = some i:=⟨_,List.getElem?_eq_getElem hlt⟩
   have HGI:=Lib.hid (HG.out i (List.mem_of_getElem? hi))
   have HSM:=Lib.hid (st_small (HST.out.1 i (List.mem_of_getElem? hi)))
   obtain ⟨g,off,s,rfl,hg,hs,c0,c1,c2,c3,c4,c5,c6,c7⟩:=HC.out k i hi
   have t:∀ o u,w.cell? ⟨g,o,none⟩ = some u → wr.cell? ⟨g,o,none⟩ = some u:=fun o u h => by
    rw [hpin.out.below.cell (p:=⟨g,o,none⟩) hg]
    exact h
   have q0:=t _ _ c0
   have q1:=t _ _ c1
   have q2:=t _ _ c2
   have q3:=t _ _ c3
   have q4:=t _ _ c4
   have q5:=t _ _ c5
   have q6:=t _ _ c6
   have q7:=t _ _ c7
   obtain ⟨sa,sc,rfl,-⟩:=parts_cells hs
   have HI:=Lib.hid (show ItemC w [.int .i64 i.2.op,.string i.2.path,.string i.2.to,.int .i64 i.2.off,.int .i64 i.2.size,.slice none 0 0,.slice sa i.2.parts.length sc] i.2 from ⟨_,rfl,hs⟩)
   have HSUC:=Lib.hid (show (its.take (k + 1)).flatMap rowGB = (its.take k).flatMap rowGB ++ (leB 8 (stF i.1) ++ itemB i.2) by
    rw [List.take_add_one,hi]
    simp [rowGB])
   have HLK:=Lib.hid (show (pre ++ (its.take k).flatMap rowGB).length ≤ 16384 by
    have h1:=HTOT.out
    have h2:=rowsGB_le (its:=its) (k:=k)
    simp only [List.length_append] at *;omega)
   have HPA:=Lib.hid (hpin.out.alloc (.cells #[.float .f64 (stF i.1),.int .i64 i.2.op,.string i.2.path,.string i.2.to,.int .i64 i.2.off,.int .i64 i.2.size,.slice none 0 0,.slice sa i.2.parts.length sc] 86))
   have HBX:=Lib.hid (heap_new wr (.cells #[.float .f64 (stF i.1),.int .i64 i.2.op,.string i.2.path,.string i.2.to,.int .i64 i.2.off,.int .i64 i.2.size,.slice none 0 0,.slice sa i.2.parts.length sc] 86))
   have HNE2:=Lib.hid (hpin.out.ne)
   clear c0 c1 c2 c3 c4 c5 c6 c7 t hs hi
   go_wp2_with (first
    | (go_at_call 111;with_reducible refine (float_k _ _ _ (stF i.1) (by have:=HSM.out;omega) (by have:=HLK.out;omega) _ HPA.out.pen).mono ?_;rintro e wa ⟨rfl,hq,hb',hk'⟩;have HPa:=Lib.hid (HPA.out.step hq hb' hk');have hba:=keep_at hk' HBX.out HNE2.out (fun arr e => by injection e with _ e;exact absurd e (by decide));have z1:=cellAt hba 1;have z2:=cellAt hba 2;have z3:=cellAt hba 3;have z4:=cellAt hba 4;have z5:=cellAt hba 5;have z6:=cellAt hba 6;have z7:=cellAt hba 7;clear hq hb' hk' hba)
    | (go_at_call 112;refine (itemWrite_any w _ _ _ _ i.2 HI.out HGI.out HPa.out.below HPa.out.pen (by have:=HLK.out;rw [List.length_append,leB_length];omega)).mono ?_;rintro e wb ⟨rfl,hq,hb',hk'⟩;have HPb:=Lib.hid (HPa.out.step hq hb' hk');clear hq hb' hk'))
   go_roundw
   case rel =>
    refine ⟨k + 1,by omega,by go_num,?_⟩
    rw [HSUC.out]
    show PenRec _ _ _ _ _ _
    have h:=HPb.out
    simpa only [List.append_assoc] using h
   case measure => simp [intOf];omega
  ·have hkl:k = its.length:=by omega
   subst hkl
   rw [List.take_length,← HREC.out] at hpin
   obtain ⟨-,-,-,y5⟩:=hpin.out.facts
   have h0:0 < (recordG seq its).length:=by simp [recordG]
   have d9:decide ((16384:Int) < (recordG seq its).length) = false:=by have:=HLEN.out;simp;omega
   have H0:=Lib.hid h0
   go_wp2_with fail
   go_region_held3 (fun w' => w'.cell? ⟨w.heap.size,5,none⟩ = some (.slice none 0 0)) (first | exact y5 | exact y6) (first | (go_at_call 114;refine (penBytes_any w.heap.size _ _ (by have:=HLEN.out;omega) H0.out _ (hpin.out.pen.below ((Below.refl _ _).drew))).mono ?_;rintro e w5 ⟨v',rfl,ho,hq⟩;have hbl:=hpin.out.below.trans (((Below.refl _ wr).drew.trans hq).mono hpin.out.below.size);have HB5:=Lib.hid hbl;have HO5:=Lib.hid (own_mono ho hpin.out.below.size);(have y6:w5.cell? ⟨w.heap.size,5,none⟩ = some (.slice none 0 0):=by (have hbx:=hpin.out.box;rw [World.cell?_of_block (w:=wr) (((Below.refl _ wr).drew.trans hq).block w.heap.size (heap_lt hbx))];exact y5));have hap:=append_nothing ho 33;clear ho hq hbl) | (refine step_append_run rfl _ _ 33 rfl v' w5 hap ?_))
   obtain ⟨a5,c5,rfl⟩:=own_shape HO5.out
   go_wp2
   go_ret2
   exact ⟨_,rfl,HO5.out,HB5.out⟩
end Go.Proofs.YtaonlcgneemimaaGreatDoor
namespace Go.Proofs.YtaonlcgneemimaaGreatDoor
open Go.RowKit
set_option maxRecDepth 100000 in
set_option maxHeartbeats 4000000 in
theorem samePoints_g (w:World) (v1 v2:Value) (l:List PtA) (h1:PtsGV w v1 l) (h2:PtsGV w v2 l) (hn:l.length ≤ 100000) (htop:∀ p ∈ l,p.1 ≤ 33) :
  Calls Tryz.prog 15 #[v1,v2] w fun e w' => e = .returned (.bool true) ∧ Below w.heap.size w w':=by
 obtain ⟨a1,cap1,rfl,hcap1,-,hc1⟩:=ptsG_cells h1
 obtain ⟨a2,cap2,rfl,hcap2,-,hc2⟩:=ptsG_cells h2
 have HC1:=Lib.hid hc1
 have HC2:=Lib.hid hc2
 have HT:=Lib.hid htop
 obtain ⟨n,hN⟩:∃ n,Hid (n = l.length):=⟨_,Lib.hid rfl⟩
 rw [← hN.out] at hn hcap1 hcap2 ⊢
 clear h1 h2 hc1 hc2 htop
 go_enter Tryz.func15,Tryz.ntmps15
 go_wp2
 go_loopw [5] (fun ti wr => ∃ k:Nat,k ≤ n ∧ ti = .int .i64 k ∧ Hid (Below w.heap.size w wr)) (fun ti _ => n - (intOf ti).toNat)
 case atStart => exact ⟨0,by omega,rfl,Below.refl _ _⟩
 case round =>
  obtain ⟨k,hk,rfl,hbel⟩:=hrel
  by_cases hlt:k < n
  ·obtain ⟨⟨st,mk⟩,hp⟩:∃ p,l[k]? = some p:=⟨_,List.getElem?_eq_getElem (by have:=hN.out;omega)⟩
   obtain ⟨g,off,rfl,hg,c0,c1,c2⟩:=HC1.out k _ hp
   obtain ⟨g',off',rfl,hg',d0,d1,d2⟩:=HC2.out k _ hp
   simp only at c1 c2 d1 d2
   have hs:=HT.out _ (List.mem_of_getElem? hp)
   simp only at hs
   have t:∀ b o u,b < w.heap.size → w.cell? ⟨b,o,none⟩ = some u → wr.cell? ⟨b,o,none⟩ = some u:=fun b o u hb h => by
    rw [hbel.out.cell (p:=⟨b,o,none⟩) hb]
    exact h
   have q0:=t _ _ _ hg c0
   have q1:=t _ _ _ hg c1
   have q2:=t _ _ _ hg c2
   have r0:=t _ _ _ hg' d0
   have r1:=t _ _ _ hg' d1
   have r2:=t _ _ _ hg' d2
   have hfb:=run_fbits (stF st)
   have hbl:=hbel.out.size
   have HD:Hid (∀ q,Below w.heap.size w (wr.drewN q)):=Lib.hid (fun q => below_drewN hbel.out q)
   have HD1:Hid (Below w.heap.size w wr.drew):=Lib.hid hbel.out.drew
   clear c0 c1 c2 d0 d1 d2 t hp hs
   go_wp2_with fail
   go_quiet (fail)
   go_wp2_with fail
   go_roundw
   case rel => exact ⟨k + 1,by omega,by go_num,by first | exact HD1 | exact Lib.hid (HD.out _)⟩
   case measure => simp [intOf];omega
  ·go_wp2
   go_ret
   exact ⟨rfl,hbel.out⟩
end Go.Proofs.YtaonlcgneemimaaGreatDoor
