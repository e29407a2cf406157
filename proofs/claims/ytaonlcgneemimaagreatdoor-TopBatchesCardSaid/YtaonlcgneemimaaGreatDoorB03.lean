/- TopBatches: the contracts of Q4, K1, K2, A1, B1, B2, Q5, B3, B4, A2; no condition. -/
import Derived.Deep.AppendSrc
import Derived.Test.YtaonlcgneemimaaGreatDoorB02
namespace Go
section
variable {P:Program}
theorem run_append_own_str (w:World) (base:Nat) (t tx ty e:TypeId) (i:TypeInfo) (z:Value) (ht:P.underlying t = some (.slice e)) (hi:P.info? e = some i) (hz:i.zero = some z)
  (hsize:i.size = 1) (hby:i.bytes = 1) (hzs:z.cells.size = 1)
  (v:Value) (n:Nat) (xs:List Value) (hown:w.ownsRow base e 1 v n xs) (hk:P.underlying tx = some .string) (s:ByteArray) (h63:n + s.size ≤ 1000000) (hbase:base ≤ w.heap.size) :
  ∃ v' w',(Builtin.append_ #[t,tx] ty #[v,.string s]).run P w = .ok v' w' ∧ w'.ownsRow base e 1 v' (n + s.size) (xs ++ byteCells s) ∧ w.grownBy w' v.ownBlock:=by
 have hl:(byteCells s).length = s.size:=byteCells_length s
 have hs:Src P i.size tx (.string s) s.size (byteCells s) w:=by rw [hsize];exact Src.ofString w hk s
 have hlen:(xs ++ byteCells s).length = (n + s.size) * 1:=by rw [List.length_append,hown.1,hl];omega
 have grown:∀ (old:Nat),old < n + s.size → ∀ (row:Option Nat),
   (w.drew.alloc (.cells ((xs ++ byteCells s).toArray ++ Builtin.zeroCells z.cells (grownCap w (n + s.size) old e - (n + s.size))) e)).ownsRow base e 1
    (.slice (some ⟨w.heap.size,0,none⟩) (n + s.size) (grownCap w (n + s.size) old e)) (n + s.size) (xs ++ byteCells s) ∧
   w.grownBy (w.drew.alloc (.cells ((xs ++ byteCells s).toArray ++ Builtin.zeroCells z.cells (grownCap w (n + s.size) old e - (n + s.size))) e)) row:=by
  intro old ho row
  have hge:=grownCap_ge w (n + s.size) old e
  have hcm:grownCap w (n + s.size) old e ≤ maxLen:=grownCap_le_maxLen w (n + s.size) old e (by unfold maxLen;omega)
  refine ⟨⟨hlen,.inr ⟨w.heap.size,_,_,rfl,hbase,heap_alloc_new w.drew _,hge,hcm,?_,?_⟩⟩,⟨rfl,rfl,rfl,by simp,fun k hk _ => (by first | exact heap_alloc_old w.drew _ hk | exact heap_alloc_old w.drew _ _ hk)⟩⟩
  ·simp only [Array.size_append,List.size_toArray,size_zeroCells,hzs,hlen]
   omega
  ·simp only [Array.toList_append]
   rw [← hlen]
   exact List.take_left
 rcases hown.2 with ⟨rfl,rfl⟩ | ⟨g,cap,cur,rfl,hbg,hg,hnc,hcm,hcs,htake⟩
 ·have hx:xs = []:=List.eq_nil_of_length_eq_zero (by simpa using hown.1)
  subst hx
  by_cases hm:s.size = 0
  ·have hn:byteCells s = []:=List.eq_nil_of_length_eq_zero (by omega)
   refine ⟨.slice none 0 0,w,?_,?_,World.grownBy.refl _ _⟩
   ·simp [Builtin.append_,run_underlying ht,run_underlying hk,sizeOf,typeInfo,hi,hs.len,hm,Builtin.firstCells]
   ·rw [hn,hm];exact World.ownsRow_nil w base e 1
  ·have hr:=run_append_grow_src (P:=P) w t tx ty e i z ht hi hz none 0 0 [] (by simp [Builtin.firstCells]) (.string s) s.size (byteCells s) hs (by omega) (by omega) (growslice_fits (by omega) (by rw [hby];omega))
   have hgr:=grown 0 (by omega) (Value.ownBlock (.slice none 0 0))
   exact ⟨_,_,hr,hgr.1,hgr.2⟩
 ·by_cases hroom:n + s.size ≤ cap
  ·have hfit:n * 1 + (byteCells s).length ≤ cur.size:=by rw [hl,hcs];omega
   have hst:=run_storeCells_at P g (n * 1) e (byteCells s) 0 cur w hg (by simpa using hfit) hs.one
   simp only [Nat.add_zero] at hst
   have hr:(Builtin.append_ #[t,tx] ty #[.slice (some ⟨g,0,none⟩) n cap,.string s]).run P w = .ok (.slice (some ⟨g,0,none⟩) (n + s.size) cap) (w.setRow g (cur.toList.take (n * 1) ++ byteCells s ++ cur.toList.drop (n * 1 + (byteCells s).length)).toArray):=by
    have hcc:=hs.cells
    rw [hsize] at hcc
    simp at hst hcc
    simp [Builtin.append_,run_underlying ht,run_underlying hk,sizeOf,typeInfo,hi,hsize,hs.len,hroom,hcc,Addr.add_lit,hst]
   refine ⟨_,_,hr,⟨hlen,.inr ⟨g,cap,_,rfl,hbg,setRow_heap w g cur _ e _ hg,hroom,hcm,?_,?_⟩⟩,⟨rfl,rfl,rfl,by simp,fun k _ hk => setRow_other w g k _ (fun e => hk (by simp [Value.ownBlock,e]))⟩⟩
   ·simp only [List.size_toArray,List.length_append,List.length_take,List.length_drop,Array.length_toList]
    omega
   ·rw [htake,← hlen]
    exact List.take_left
  ·have hr:=run_append_grow_src (P:=P) w t tx ty e i z ht hi hz (some ⟨g,0,none⟩) n cap xs (by rw [hsize];exact run_firstCells_some w.drew 1 n ⟨g,0,none⟩ n cap xs hown.1 (by simpa using hown.cells (g:=g) rfl)) (.string s) s.size (byteCells s) hs (by omega) (by omega) (growslice_fits (by omega) (by rw [hby];omega))
   have hgr:=grown cap (by omega) (Value.ownBlock (.slice (some ⟨g,0,none⟩) n cap))
   exact ⟨_,_,hr,hgr.1,hgr.2⟩
end
end Go
namespace Go.Proofs.YtaonlcgneemimaaGreatDoor
open Go.RowKit
def Sl (w:World) (e sz:Nat) (v:Value) (n:Nat) (xs:List Value):Prop :=
 xs.length = n * sz ∧ (∀ u ∈ xs,u.oneCell' = true) ∧ ((v = .slice none 0 0 ∧ n = 0) ∨ ∃ g off cap arr,v = .slice (some ⟨g,off,none⟩) n cap ∧ 0 < n ∧ n ≤ cap ∧ cap ≤ maxLen ∧ w.heap[g]? = some (.cells arr e (0,0)) ∧ ∀ j u,xs[j]? = some u → arr[off + j]? = some u)
theorem Sl.nil (w:World) (e sz:Nat):Sl w e sz (.slice none 0 0) 0 []:=⟨by simp,by simp,.inl ⟨rfl,rfl⟩⟩
theorem Sl.of_own {w:World} {B e sz n:Nat} {v:Value} {xs:List Value} (h:w.ownsRow B e sz v n xs) (h1:∀ u ∈ xs,u.oneCell' = true) (h0:v = .slice none 0 0 ∨ 0 < n):Sl w e sz v n xs:=by
 refine ⟨h.1,h1,?_⟩
 rcases h.2 with ⟨hv,hn⟩ | ⟨g,cap,cur,hv,hB,hg,hc,hm,hs,ht⟩
 ·exact .inl ⟨hv,hn⟩
 ·rcases h0 with h0 | h0
  ·rw [h0] at hv;simp at hv
  ·refine .inr ⟨g,0,cap,cur,hv,h0,hc,hm,hg,fun j u hj => ?_⟩
   rw [← ht] at hj
   have hlt:j < n * sz:=by
    have:=(List.getElem?_eq_some_iff.1 hj).1
    simp at this;omega
   rw [List.getElem?_take_of_lt hlt] at hj
   simpa using hj
theorem Sl.same {w w':World} {e sz n:Nat} {v:Value} {xs:List Value} (h:Sl w e sz v n xs) (hv:∀ g off cap,v = .slice (some ⟨g,off,none⟩) n cap → w'.heap[g]? = w.heap[g]?):Sl w' e sz v n xs:=by
 refine ⟨h.1,h.2.1,?_⟩
 rcases h.2.2 with h0 | ⟨g,off,cap,arr,e1,e2,e3,e4,e5,e6⟩
 ·exact .inl h0
 ·exact .inr ⟨g,off,cap,arr,e1,e2,e3,e4,(hv g off cap e1).trans e5,e6⟩
theorem wp_append_sl {P:Program} {w:World} {ops:Array Oper} {rest:List Oper} {o:Oper} {a:Act} {Q:Exit → Act → World → Prop} (hgd:o.guard = none) (s x:Operand) (t:TypeId)
  (ho:o.op = .call { callee:=.builtin .append,args:=#[s,x],argTypes:=#[t,t] })
  (base:Nat) (e:TypeId) (i:TypeInfo) (z:Value) (size bytes:Nat) (ht:P.underlying t = some (.slice e)) (hi:P.info? e = some i) (hz:i.zero = some z)
  (hsize:i.size = size) (hby:i.bytes = bytes) (hzs:z.cells.size = size) (hsz:0 < size)
  (v:Value) (n:Nat) (xs:List Value) (hs:a.eval s = v) (hown:w.ownsRow base e size v n xs)
  (vx:Value) (m:Nat) (news:List Value) (hx:a.eval x = vx) (hsl:Sl w e size vx m news)
  (h63:n + m ≤ 1000000) (hbytes:bytes ≤ 100000) (hbase:base ≤ w.heap.size)
  (h:∀ v' w',w'.ownsRow base e size v' (n + m) (xs ++ news) → w.grownBy w' v.ownBlock → (v' = .slice none 0 0 ↔ v = .slice none 0 0 ∧ m = 0) → (v'.ownBlock = v.ownBlock ∨ v'.ownBlock = some w.heap.size) → wpList P ops Q rest (a.put o.dst v') w') :
  wpList P ops Q (o :: rest) a w:=by
 obtain ⟨hl,h1,hv⟩:=hsl
 rcases hv with ⟨rfl,rfl⟩ | ⟨g,off,cap,arr,rfl,e2,e3,e4,e5,e6⟩
 ·obtain rfl:news = []:=List.eq_nil_of_length_eq_zero (by simpa using hl)
  refine wpList_plain hgd fun K hK => ?_
  have hr:=run_append_owned_none (P:=P) w base t o.type e i size ht hi v n xs hown
  unfold Oper.wp execOp
  simp only [ho,resolve,invoke,builtin,Sem.run_bind,Sem.run_pure,Result.andThen_ok,List.map_toArray,List.map_cons,List.map_nil,hs,hx,hr]
  exact hK _ _ (h v w (by simpa using hown) (World.grownBy.refl _ _) (by simp) (.inl rfl))
 ·refine wpList_append_own_at w hgd s x t ho base e i z size bytes ht hi hz hsize hby hzs hsz v n xs hs hown ⟨g,off,none⟩ m cap news hx hl ?_ h1 (by unfold maxLen;omega) ?_ hbase h
  ·intro j u hj
   have h6:=e6 j u hj
   rw [show (⟨g,off,none⟩:Addr).add j = ⟨g,off + j,none⟩ by unfold Addr.add;split <;> simp_all]
   unfold World.cell?
   simp [e5,h6]
  ·have:(n + m) * bytes ≤ 1000000 * 100000:=Nat.mul_le_mul h63 hbytes
   omega
structure Frame (M:List Nat) (w w':World):Prop where
 os:w'.os = w.os
 tape:w'.tape = w.tape
 output:w'.output = w.output
 size:w.heap.size ≤ w'.heap.size
 block:∀ k,k < w.heap.size → k ∉ M → w'.heap[k]? = w.heap[k]?
theorem Frame.refl (M:List Nat) (w:World):Frame M w w:=⟨rfl,rfl,rfl,Nat.le_refl _,fun _ _ _ => rfl⟩
theorem Frame.of_below {w w':World} (h:Below w.heap.size w w') (M:List Nat):Frame M w w':=⟨h.os,h.tape,h.output,h.size,fun k hk _ => h.block k hk⟩
theorem Frame.below {w w':World} (h:Frame [] w w'):Below w.heap.size w w':=⟨h.os,h.tape,h.output,h.size,fun k hk => h.block k hk (by simp)⟩
theorem Frame.trans {M M':List Nat} {a b c:World} (h:Frame M a b) (k:Frame M' b c) (hM:∀ x ∈ M',x ∈ M ∨ a.heap.size ≤ x):Frame M a c :=
 ⟨k.os.trans h.os,k.tape.trans h.tape,k.output.trans h.output,Nat.le_trans h.size k.size,fun i hi hn => (k.block i (Nat.lt_of_lt_of_le hi h.size) (fun hx => by rcases hM i hx with h1 | h1;exact hn h1;omega)).trans (h.block i hi hn)⟩
theorem Frame.mono {M M':List Nat} {w w':World} (h:Frame M w w') (hM:∀ x ∈ M,x ∈ M' ∨ w.heap.size ≤ x):Frame M' w w' :=
 ⟨h.os,h.tape,h.output,h.size,fun k hk hn => h.block k hk (fun hx => by rcases hM k hx with h1 | h1;exact hn h1;omega)⟩
theorem Frame.then_below {M:List Nat} {a b c:World} (h:Frame M a b) (k:Below b.heap.size b c):Frame M a c:=h.trans (Frame.of_below k []) (by simp)
theorem Frame.alloc {M:List Nat} {a w:World} (h:Frame M a w) (o:Obj):Frame M a (w.alloc o):=h.then_below ((Below.refl _ _).alloc (Nat.le_refl _) _)
theorem Frame.drew {M:List Nat} {a w:World} (h:Frame M a w):Frame M a w.drew:=⟨h.os,h.tape,h.output,h.size,h.block⟩
theorem Frame.setCell {M:List Nat} {a w:World} (h:Frame M a w) {p:Addr} (hp:p.block ∈ M ∨ a.heap.size ≤ p.block) (u:Value):Frame M a (w.setCell p u) :=
 h.trans (M':=[p.block]) ⟨rfl,rfl,rfl,by simp [World.setCell],fun k _ hk => Below.heap_setCell _ _ _ _ (by simpa using hk)⟩ (by simpa using hp)
theorem Frame.grown {M:List Nat} {a w w':World} {row:Option Nat} (h:Frame M a w) (hg:w.grownBy w' row) (hr:∀ k,row = some k → k ∈ M ∨ a.heap.size ≤ k):Frame M a w':=by
 refine ⟨hg.os.trans h.os,hg.tape.trans h.tape,hg.output.trans h.output,Nat.le_trans h.size hg.size,fun i hi hn => (hg.block i (Nat.lt_of_lt_of_le hi h.size) (fun e => ?_)).trans (h.block i hi hn)⟩
 rcases hr i e.symm with h1 | h1
 ·exact hn h1
 ·omega
theorem Frame.turned {M:List Nat} {a w w':World} {b:Nat} (h:Frame M a w) (hg:w.mapTurned w' b) (hb:b ∈ M ∨ a.heap.size ≤ b):Frame M a w' :=
 h.grown hg.grown (by intro k hk;cases hk;exact hb)
theorem Frame.cell {M:List Nat} {w w':World} (h:Frame M w w') {p:Addr} (hp:p.block < w.heap.size) (hn:p.block ∉ M):w'.cell? p = w.cell? p:=World.cell?_of_block (w:=w) (h.block p.block hp hn)
theorem Sl.frame {M:List Nat} {w w':World} {e sz n:Nat} {v:Value} {xs:List Value} (h:Sl w e sz v n xs) (hf:Frame M w w') (hM:∀ g ∈ M,∀ arr,w.heap[g]? ≠ some (.cells arr e (0,0))):Sl w' e sz v n xs:=by
 refine ⟨h.1,h.2.1,?_⟩
 rcases h.2.2 with h0 | ⟨g,off,cap,arr,e1,e2,e3,e4,e5,e6⟩
 ·exact .inl h0
 ·have hlt:g < w.heap.size:=(Array.getElem?_eq_some_iff.1 e5).1
  exact .inr ⟨g,off,cap,arr,e1,e2,e3,e4,(hf.block g hlt (fun hg => hM g hg arr e5)).trans e5,e6⟩
theorem Sl.below {w w':World} {e sz n:Nat} {v:Value} {xs:List Value} (h:Sl w e sz v n xs) (hf:Below w.heap.size w w'):Sl w' e sz v n xs:=h.frame (Frame.of_below hf []) (by simp)
theorem heap_lt {w:World} {a:Nat} {o:Obj} (h:w.heap[a]? = some o):a < w.heap.size:=(Array.getElem?_eq_some_iff.1 h).1
theorem Below.heap {B a:Nat} {w w':World} {o:Obj} (h:Below B w w') (hB:w.heap.size ≤ B) (ha:w.heap[a]? = some o):w'.heap[a]? = some o:=(h.block a (Nat.lt_of_lt_of_le (heap_lt ha) hB)).trans ha
theorem Frame.heap {M:List Nat} {a:Nat} {w w':World} {o:Obj} (h:Frame M w w') (ha:w.heap[a]? = some o) (hn:a ∉ M):w'.heap[a]? = some o:=(h.block a (heap_lt ha) hn).trans ha
theorem Sl.shape {w:World} {e sz n:Nat} {v:Value} {xs:List Value} (h:Sl w e sz v n xs):∃ a cap,v = .slice a n cap ∧ n ≤ cap ∧ (a = none → n = 0) ∧ ∀ j,j < n → ∃ g off,a = some ⟨g,off,none⟩ ∧ g < w.heap.size ∧ ∀ k u,k < sz → xs[j * sz + k]? = some u → w.cell? ⟨g,off + j * sz + k,none⟩ = some u:=by
 rcases h.2.2 with ⟨rfl,rfl⟩ | ⟨g,off,cap,arr,rfl,e2,e3,e4,e5,e6⟩
 ·exact ⟨_,_,rfl,Nat.le_refl _,fun _ => rfl,fun j hj => by omega⟩
 ·refine ⟨_,_,rfl,e3,fun h => by simp at h,fun j _ => ⟨g,off,rfl,heap_lt e5,fun k u _ hu => ?_⟩⟩
  have h6:=e6 _ u hu
  unfold World.cell?
  simp only [e5]
  rw [show off + j * sz + k = off + (j * sz + k) by omega]
  simpa using h6
end Go.Proofs.YtaonlcgneemimaaGreatDoor
namespace Go.Proofs.YtaonlcgneemimaaGreatDoor
open Go.RowKit
theorem cellAt {w:World} {a t:Nat} {arr:Array Value} (h:w.heap[a]? = some (.cells arr t (0,0))) (i:Nat):w.cell? ⟨a,i,none⟩ = arr[i]?:=by unfold World.cell?;simp only [h];rfl
theorem frozenAt {w:World} {a t:Nat} {arr:Array Value} (h:w.heap[a]? = some (.cells arr t (0,0))) (i:Nat):w.frozen? ⟨a,i,none⟩ = false:=by unfold World.frozen?;simp [h]
theorem setAt {w:World} {a t:Nat} {arr:Array Value} (h:w.heap[a]? = some (.cells arr t (0,0))) (i:Nat) (u:Value):(w.setCell ⟨a,i,none⟩ u).heap[a]? = some (.cells (arr.setIfInBounds i u) t (0,0)):=by
 unfold World.setCell
 simp [Array.getElem?_modify,h]
theorem heap_set_ne {w:World} {a b i:Nat} (u:Value) (h:b ≠ a):(w.setCell ⟨a,i,none⟩ u).heap[b]? = w.heap[b]?:=Below.heap_setCell _ _ _ _ h
theorem heap_new (w:World) (o:Obj):(w.alloc o).heap[w.heap.size]? = some o:=(MapKept.heap_alloc w o).1
theorem heap_old {w:World} {a:Nat} {o:Obj} (h:w.heap[a]? = some o) (x:Obj):(w.alloc x).heap[a]? = some o:=(Below.heap_alloc w x a (heap_lt h)).trans h
theorem own_neq {w:World} {B e size n a t:Nat} {arr:Array Value} {v:Value} {xs:List Value} (h:w.ownsRow B e size v n xs) (ha:w.heap[a]? = some (.cells arr t (0,0))) (ht:e ≠ t):v.ownBlock ≠ some a:=by
 rcases h.2 with ⟨rfl,_⟩ | ⟨g,cap,cur,rfl,_,hg,_⟩
 ·simp [Value.ownBlock]
 ·intro e
  simp only [Value.ownBlock,Option.some.injEq] at e
  subst e
  rw [ha] at hg
  injection hg with hg
  injection hg with _ h2
  exact ht h2.symm
theorem grown_heap {w w':World} {a:Nat} {o:Obj} {row:Option Nat} (hg:w.grownBy w' row) (h:w.heap[a]? = some o) (hne:row ≠ some a):w'.heap[a]? = some o:=(hg.block a (heap_lt h) (fun e => hne e.symm)).trans h
theorem cells_new (w:World) (arr:Array Value) (t:TypeId):∀ j u,arr.toList[j]? = some u → (w.alloc (.cells arr t)).cell? ((⟨w.heap.size,0,none⟩:Addr).add j) = some u:=by
 intro j u hj
 rw [show (⟨w.heap.size,0,none⟩:Addr).add j = ⟨w.heap.size,j,none⟩ by unfold Addr.add;split <;> simp_all,cellAt (heap_new w _)]
 simpa using hj
theorem cells_new' (w:World) (arr:Array Value) (t:TypeId) (n:Nat) (hn:n = w.heap.size):∀ j u,arr.toList[j]? = some u → (w.alloc (.cells arr t)).cell? ((⟨n,0,none⟩:Addr).add j) = some u:=by
 subst hn
 exact cells_new w arr t
theorem own_setCell {w:World} {B e size n a i:Nat} {v u:Value} {xs:List Value} (h:w.ownsRow B e size v n xs) (hne:v.ownBlock ≠ some a):(w.setCell ⟨a,i,none⟩ u).ownsRow B e size v n xs:=by
 refine h.kept (row:=some a) ⟨rfl,rfl,rfl,by simp [World.setCell],fun k _ hk => Below.heap_setCell _ _ _ _ (fun e => hk (by simp at e;rw [e]))⟩ (.inr hne)
end Go.Proofs.YtaonlcgneemimaaGreatDoor
namespace Go.Proofs.YtaonlcgneemimaaGreatDoor
structure PartA where
 off:Int
 len:Int
 chunk:Int
 pos:Int
structure BodyA where
 size:Int
 parts:List PartA
def PartA.fits (p:PartA):Prop:=1 ≤ p.len ∧ p.len ≤ 64 ∧ 1 ≤ p.chunk ∧ p.chunk ≤ 4611686018427387904 ∧ 0 ≤ p.pos ∧ p.pos ≤ 64 - p.len
def PartA.cells (p:PartA):List Value:=[.int .i64 p.off,.int .i64 p.len,.int .i64 p.chunk,.int .i64 p.pos]
def PartA.val (p:PartA):Value:=.agg #[.int .i64 p.off,.int .i64 p.len,.int .i64 p.chunk,.int .i64 p.pos]
def partsC (l:List PartA):List Value:=l.flatMap PartA.cells
def mayParts (size:Int):Int → List PartA → Prop
 | _,[] => True
 | k,p :: l => p.fits ∧ k ≤ p.off ∧ p.off ≤ size - p.len ∧ mayParts size (p.off + p.len) l
def BodyA.may (b:BodyA):Prop:=0 ≤ b.size ∧ b.size ≤ 1099511627776 ∧ mayParts b.size 0 b.parts
def aheadP (k:Int) (p:PartA):Option PartA:=if k ≤ p.off then none else some { p with len:=min p.len (k - p.off) }
def behindP (k:Int) (p:PartA):Option PartA :=
 if p.off + p.len ≤ k then none else if 0 < k - p.off then some { off:=k,len:=p.len - (k - p.off),chunk:=p.chunk,pos:=p.pos + (k - p.off) } else some p
def placeP:Int → List PartA → List PartA
 | _,[] => []
 | k,p :: l => { p with off:=k } :: placeP (k + p.len) l
def sumLen:List PartA → Int
 | [] => 0
 | p :: l => p.len + sumLen l
noncomputable def writeB (b:BodyA) (off:Int) (l:List PartA):BodyA :=
 match l with
 | [] => b
 | _ => ⟨max b.size (off + sumLen l),b.parts.filterMap (aheadP off) ++ placeP off l ++ b.parts.filterMap (behindP (off + sumLen l))⟩
def truncB (b:BodyA) (size:Int):BodyA:=⟨size,b.parts.filterMap (aheadP size)⟩
theorem partsC_cons (p:PartA) (l:List PartA):partsC (p :: l) = p.cells ++ partsC l:=by simp [partsC]
theorem partsC_append (a b:List PartA):partsC (a ++ b) = partsC a ++ partsC b:=by simp [partsC]
theorem partsC_one (l:List PartA):∀ u ∈ partsC l,u.oneCell' = true:=by
 intro u hu
 obtain ⟨p,_,h⟩:=List.mem_flatMap.1 hu
 simp [PartA.cells] at h
 rcases h with rfl | rfl | rfl | rfl <;> rfl
theorem partsC_get:∀ (l:List PartA) (i:Nat) (p:PartA),l[i]? = some p → (partsC l)[i * 4]? = some (.int .i64 p.off) ∧ (partsC l)[i * 4 + 1]? = some (.int .i64 p.len) ∧ (partsC l)[i * 4 + 2]? = some (.int .i64 p.chunk) ∧ (partsC l)[i * 4 + 3]? = some (.int .i64 p.pos)
 | [],i,p,h => by simp at h
 | q :: l,0,p,h => by
  simp at h;subst h
  rw [partsC_cons]
  simp [PartA.cells]
 | q :: l,i + 1,p,h => by
  have:=partsC_get l i p (by simpa using h)
  rw [partsC_cons]
  have e:∀ k,(q.cells ++ partsC l)[(i + 1) * 4 + k]? = (partsC l)[i * 4 + k]?:=by
   intro k
   rw [List.getElem?_append_right (by simp [PartA.cells];omega)]
   congr 1
   simp [PartA.cells];omega
  exact ⟨(e 0).trans this.1,(e 1).trans this.2.1,(e 2).trans this.2.2.1,(e 3).trans this.2.2.2⟩
theorem mayParts_mem {size:Int}:∀ {k:Int} {l:List PartA},mayParts size k l → ∀ p ∈ l,p.fits ∧ k ≤ p.off ∧ p.off ≤ size - p.len
 | _,[],_,p,hp => by simp at hp
 | k,q :: l,h,p,hp => by
  obtain ⟨h1,h2,h3,h4⟩:=h
  rcases List.mem_cons.1 hp with rfl | hp
  ·exact ⟨h1,h2,h3⟩
  ·have:=mayParts_mem h4 p hp
   refine ⟨this.1,?_,this.2.2⟩
   have:=h1.1
   omega
theorem sumLen_nonneg:∀ {l:List PartA},(∀ p ∈ l,p.fits) → 0 ≤ sumLen l
 | [],_ => by simp [sumLen]
 | p :: l,h => by
  have h1:=(h p (by simp)).1
  have h2:=sumLen_nonneg (l:=l) (fun q hq => h q (by simp [hq]))
  simp [sumLen];omega
theorem sumLen_append (a b:List PartA):sumLen (a ++ b) = sumLen a + sumLen b:=by
 induction a with
 | nil => simp [sumLen]
 | cons p l ih => simp [sumLen,ih];omega
theorem placeP_length:∀ (l:List PartA) (k:Int),(placeP k l).length = l.length
 | [],_ => rfl
 | p :: l,k => by simp [placeP,placeP_length l]
theorem placeP_append:∀ (a b:List PartA) (k:Int),placeP k (a ++ b) = placeP k a ++ placeP (k + sumLen a) b
 | [],b,k => by simp [placeP,sumLen]
 | p :: a,b,k => by
  simp only [List.cons_append,placeP,sumLen,placeP_append a b]
  rw [show k + p.len + sumLen a = k + (p.len + sumLen a) by omega]
end Go.Proofs.YtaonlcgneemimaaGreatDoor
namespace Go.Proofs.YtaonlcgneemimaaGreatDoor
open Go.RowKit
set_option maxRecDepth 100000 in
set_option maxHeartbeats 1000000 in
theorem fits_any (p:PartA) (h:p.fits) (w:World):Calls Tryz.prog 130 #[p.val] w fun e w' => e = .returned (.bool true) ∧ w' = w.alloc (.cells #[.int .i64 p.off,.int .i64 p.len,.int .i64 p.chunk,.int .i64 p.pos] 134):=by
 obtain ⟨h1,h2,h3,h4,h5,h6⟩:=h
 have d1:decide (1 ≤ p.len) = true:=by simpa using h1
 have d2:decide (p.len ≤ 64) = true:=by simpa using h2
 have d3:decide (1 ≤ p.chunk) = true:=by simpa using h3
 have d4:decide (p.chunk ≤ 4611686018427387904) = true:=by simpa using h4
 have d5:decide (0 ≤ p.pos) = true:=by simpa using h5
 have d6:decide (p.pos ≤ 64 - p.len) = true:=by simpa using h6
 unfold PartA.val
 go_enter Tryz.func130,Tryz.ntmps130
 go_wp2
 go_ret
 exact ⟨rfl,rfl⟩
set_option maxRecDepth 100000 in
set_option maxHeartbeats 1000000 in
theorem end_any (p:PartA) (h0:0 ≤ p.off) (h1:p.off ≤ 2199023255552) (h2:0 ≤ p.len) (h3:p.len ≤ 2199023255552) (w:World):Calls Tryz.prog 131 #[p.val] w fun e w' => e = .returned (.int .i64 (p.off + p.len)) ∧ w' = w.alloc (.cells #[.int .i64 p.off,.int .i64 p.len,.int .i64 p.chunk,.int .i64 p.pos] 134):=by
 have e1:=IntWalk.wrap64_in (p.off + p.len) (by omega)
 unfold PartA.val
 go_enter Tryz.func131,Tryz.ntmps131
 go_wp2
 go_ret
 exact ⟨rfl,rfl⟩
def optPart:Option PartA → Value
 | none => .tuple #[.agg #[.int .i64 0,.int .i64 0,.int .i64 0,.int .i64 0],.bool false]
 | some p => .tuple #[p.val,.bool true]
set_option maxRecDepth 100000 in
set_option maxHeartbeats 1000000 in
theorem ahead_any (p:PartA) (k:Int) (h0:0 ≤ p.off) (h1:p.off ≤ 2199023255552) (hk:0 ≤ k) (hk2:k ≤ 2199023255552) (w:World) :
  Calls Tryz.prog 80 #[p.val,.int .i64 k] w fun e w' => e = .returned (optPart (aheadP k p)) ∧ ∃ o1 o2,w' = (w.alloc o1).alloc o2:=by
 have e1:=IntWalk.wrap64_in (k - p.off) (by omega)
 unfold PartA.val
 by_cases c:k ≤ p.off
 ·have HP:=Lib.hid (show aheadP k p = none by unfold aheadP;rw [if_pos c])
  go_enter Tryz.func80,Tryz.ntmps80
  go_wp2
  try simp only [Exit.inBlock,Exit.then]
  refine bodyPost_ret (v:=optPart none) (by simp [results,Tryz.results80,go_sem,optPart]) rfl ?_
  rw [HP.out]
  exact ⟨rfl,_,_,rfl⟩
 ·have HP:=Lib.hid (show aheadP k p = some { p with len:=min p.len (k - p.off) } by unfold aheadP;rw [if_neg c])
  have d:decide (k ≤ p.off) = false:=by simpa using c
  by_cases c2:k - p.off < p.len
  ·have HQ:=Lib.hid (show min p.len (k - p.off) = k - p.off by omega)
   go_enter Tryz.func80,Tryz.ntmps80
   go_wp2
   try simp only [Exit.inBlock,Exit.then]
   refine bodyPost_ret (v:=optPart (some { p with len:=k - p.off })) (by simp [results,Tryz.results80,go_sem,optPart,PartA.val]) rfl ?_
   rw [HP.out,HQ.out]
   exact ⟨rfl,_,_,rfl⟩
  ·have HQ:=Lib.hid (show min p.len (k - p.off) = p.len by omega)
   go_enter Tryz.func80,Tryz.ntmps80
   go_wp2
   try simp only [Exit.inBlock,Exit.then]
   refine bodyPost_ret (v:=optPart (some p)) (by simp [results,Tryz.results80,go_sem,optPart,PartA.val]) rfl ?_
   rw [HP.out,HQ.out]
   exact ⟨rfl,_,_,rfl⟩
set_option maxRecDepth 100000 in
set_option maxHeartbeats 1000000 in
theorem behind_any (p:PartA) (k:Int) (h0:0 ≤ p.off) (h1:p.off ≤ 2199023255552) (h2:0 ≤ p.len) (h3:p.len ≤ 64) (h4:0 ≤ p.pos) (h5:p.pos ≤ 64) (hk:0 ≤ k) (hk2:k ≤ 2199023255552) (w:World) :
  Calls Tryz.prog 81 #[p.val,.int .i64 k] w fun e w' => e = .returned (optPart (behindP k p)) ∧ ∃ o1 o2 o3,w' = ((w.alloc o1).alloc o2).alloc o3:=by
 have e1:=IntWalk.wrap64_in (k - p.off) (by omega)
 have HE:=Lib.hid (fun w => end_any p h0 h1 h2 (by omega) w)
 unfold PartA.val at HE ⊢
 by_cases c:p.off + p.len ≤ k
 ·have HP:=Lib.hid (show behindP k p = none by unfold behindP;rw [if_pos c])
  go_enter Tryz.func81,Tryz.ntmps81
  go_wp2_with (go_at_call 131;refine (HE.out _).mono ?_;rintro e w1 ⟨rfl,rfl⟩)
  try simp only [Exit.inBlock,Exit.then]
  refine bodyPost_ret (v:=optPart none) (by simp [results,Tryz.results81,go_sem,optPart]) rfl ?_
  rw [HP.out]
  exact ⟨rfl,_,_,_,rfl⟩
 ·have d:decide (p.off + p.len ≤ k) = false:=by simpa using c
  by_cases c2:p.off < k
  ·have e2:=IntWalk.wrap64_in (p.pos + (k - p.off)) (by omega)
   have e3:=IntWalk.wrap64_in (p.len - (k - p.off)) (by omega)
   have HP:=Lib.hid (show behindP k p = some { off:=k,len:=p.len - (k - p.off),chunk:=p.chunk,pos:=p.pos + (k - p.off) } by unfold behindP;rw [if_neg c,if_pos (by omega)])
   go_enter Tryz.func81,Tryz.ntmps81
   go_wp2_with (go_at_call 131;refine (HE.out _).mono ?_;rintro e w1 ⟨rfl,rfl⟩)
   try simp only [Exit.inBlock,Exit.then]
   refine bodyPost_ret (v:=optPart (some { off:=k,len:=p.len - (k - p.off),chunk:=p.chunk,pos:=p.pos + (k - p.off) })) (by simp [results,Tryz.results81,go_sem,optPart,PartA.val]) rfl ?_
   rw [HP.out]
   exact ⟨rfl,_,_,_,rfl⟩
  ·have HP:=Lib.hid (show behindP k p = some p by unfold behindP;rw [if_neg c,if_neg (by omega)])
   go_enter Tryz.func81,Tryz.ntmps81
   go_wp2_with (go_at_call 131;refine (HE.out _).mono ?_;rintro e w1 ⟨rfl,rfl⟩)
   all_goals (try simp only [Exit.inBlock,Exit.then])
   all_goals (refine bodyPost_ret (v:=optPart (some p)) (by simp [results,Tryz.results81,go_sem,optPart,PartA.val]) rfl ?_)
   all_goals (rw [HP.out])
   all_goals (exact ⟨rfl,_,_,_,rfl⟩)
end Go.Proofs.YtaonlcgneemimaaGreatDoor
namespace Go.Proofs.YtaonlcgneemimaaGreatDoor
open Go.RowKit
def BodyV (w:World) (v:Value) (b:BodyA):Prop:=∃ s,v = .agg #[.int .i64 b.size,s] ∧ Sl w 134 4 s b.parts.length (partsC b.parts)
theorem parts_cells {w:World} {v:Value} {l:List PartA} (h:Sl w 134 4 v l.length (partsC l)):∃ a cap,v = .slice a l.length cap ∧ l.length ≤ cap ∧ (a = none → l.length = 0) ∧ ∀ j p,l[j]? = some p → ∃ g off,a = some ⟨g,off,none⟩ ∧ g < w.heap.size ∧ w.cell? ⟨g,off + j * 4,none⟩ = some (.int .i64 p.off) ∧ w.cell? ⟨g,off + j * 4 + 1,none⟩ = some (.int .i64 p.len) ∧ w.cell? ⟨g,off + j * 4 + 2,none⟩ = some (.int .i64 p.chunk) ∧ w.cell? ⟨g,off + j * 4 + 3,none⟩ = some (.int .i64 p.pos):=by
 obtain ⟨a,cap,rfl,hc,ha,hj⟩:=h.shape
 refine ⟨a,cap,rfl,hc,ha,fun j p hp => ?_⟩
 obtain ⟨g,off,rfl,hg,hk⟩:=hj j (List.getElem?_eq_some_iff.1 hp).1
 have hg4:=partsC_get l j p hp
 exact ⟨g,off,rfl,hg,hk 0 _ (by decide) hg4.1,hk 1 _ (by decide) hg4.2.1,hk 2 _ (by decide) hg4.2.2.1,hk 3 _ (by decide) hg4.2.2.2⟩
set_option maxRecDepth 100000 in
set_option maxHeartbeats 1000000 in
theorem may_any (b:BodyA) (v:Value) (w:World) (hv:BodyV w v b) (hm:b.may) (hn:b.parts.length ≤ 1000000):Calls Tryz.prog 79 #[v] w fun e w' => e = .returned (.bool true) ∧ Below w.heap.size w w':=by
 obtain ⟨s,rfl,hs⟩:=hv
 obtain ⟨a,cap,rfl,hcap,-,hcells⟩:=parts_cells hs
 obtain ⟨hm1,hm2,hm3⟩:=hm
 have HC:=Lib.hid hcells
 have HM:=Lib.hid hm3
 have d1:decide (b.size < 0) = false:=by simp;omega
 have d2:decide (1099511627776 < b.size) = false:=by simp;omega
 obtain ⟨l,hl⟩:∃ l,Hid (b.parts = l):=⟨_,rfl⟩
 rw [hl.out] at HC HM hn hcap ⊢
 clear hs hcells hm3
 go_enter Tryz.func79,Tryz.ntmps79
 go_wp2
 go_loopw [3,17] (fun tat ti wr => ∃ k:Nat,∃ q:Int,k ≤ l.length ∧ 0 ≤ q ∧ q ≤ b.size ∧ ti = .int .i64 k ∧ tat = .int .i64 q ∧ Hid (mayParts b.size q (l.drop k)) ∧ Hid (Below (w.heap.size + 1) (w.alloc (.cells #[.int .i64 b.size,.slice a l.length cap] 100)) wr)) (fun _ i _ => l.length - (intOf i).toNat)
 case atStart => exact ⟨0,0,by omega,by omega,by omega,rfl,rfl,by simpa using HM,Below.refl _ _⟩
 case round =>
  obtain ⟨k,q,hk,hq0,hq1,rfl,rfl,hpm,hbel⟩:=hrel
  by_cases hlt:k < l.length
  ·obtain ⟨p,hp⟩:∃ p,l[k]? = some p:=⟨_,List.getElem?_eq_getElem hlt⟩
   have hdrop:l.drop k = p :: l.drop (k + 1):=by
    rw [List.drop_eq_getElem_cons hlt]
    congr 1
    exact (List.getElem?_eq_some_iff.1 hp).2
   have hpm2:=hpm.out
   rw [hdrop] at hpm2
   obtain ⟨hfit,hpo,hps,hrest⟩:=hpm2
   obtain ⟨g,off,rfl,hg,c0,c1,c2,c3⟩:=HC.out k p hp
   have t:∀ o u,w.cell? ⟨g,o,none⟩ = some u → wr.cell? ⟨g,o,none⟩ = some u:=fun o u h => by
    rw [hbel.out.cell (p:=⟨g,o,none⟩) (by show g < _;omega),World.cell?_of_block (w:=w) (Below.heap_alloc w _ g hg)]
    exact h
   have k0:=t _ _ c0
   have k1:=t _ _ c1
   have k2:=t _ _ c2
   have k3:=t _ _ c3
   have b0:wr.cell? ⟨w.heap.size,0,none⟩ = some (.int .i64 b.size):=by
    rw [hbel.out.cell (p:=⟨w.heap.size,0,none⟩) (by show w.heap.size < _;omega)]
    unfold World.cell?;simp only [(MapKept.heap_alloc w _).1];rfl
   have z0:w.heap.size < wr.heap.size:=by have:=hbel.out.size;simp at this;omega
   have z1:w.heap.size < wr.heap.size + 1:=by omega
   have HF:=Lib.hid hfit
   have HR:=Lib.hid hrest
   have f1:=hfit.1
   have f2:=hfit.2.1
   have e2:=IntWalk.wrap64_in (b.size - p.len) (by omega)
   have g1:decide (p.off < q) = false:=by simp;omega
   have g2:decide (b.size - p.len < p.off) = false:=by simp;omega
   have HD:=Lib.hid hdrop
   have HB:=hbel
   clear hbel c0 c1 c2 c3 t hfit hrest hdrop hpm
   go_wp2_with (first | (go_at_call 130;refine (fits_any p HF.out _).mono ?_;rintro e w1 ⟨rfl,rfl⟩) | (go_at_call 131;refine (end_any p (by omega) (by omega) (by omega) (by omega) _).mono ?_;rintro e w1 ⟨rfl,rfl⟩))
   go_roundw
   case rel => exact ⟨k + 1,p.off + p.len,by omega,by omega,by omega,by go_num,rfl,HR.out,((HB.out.alloc (by omega) _).alloc (by simp;omega) _).alloc (by simp;omega) _⟩
   case measure => simp [intOf];omega
  ·go_wp2
   go_ret
   exact ⟨rfl,((Below.refl _ w).alloc (Nat.le_refl _) _).trans (hbel.out.mono (by omega))⟩
end Go.Proofs.YtaonlcgneemimaaGreatDoor
namespace Go
theorem wp_append_str {P:Program} {w:World} {ops:Array Oper} {rest:List Oper} {o:Oper} {a:Act} {Q:Exit → Act → World → Prop} (hgd:o.guard = none) (s x:Operand) (t tx:TypeId)
  (ho:o.op = .call { callee:=.builtin .append,args:=#[s,x],argTypes:=#[t,tx] })
  (base:Nat) (e:TypeId) (i:TypeInfo) (z:Value) (ht:P.underlying t = some (.slice e)) (hi:P.info? e = some i) (hz:i.zero = some z)
  (hsize:i.size = 1) (hby:i.bytes = 1) (hzs:z.cells.size = 1) (hk:P.underlying tx = some .string)
  (v:Value) (n:Nat) (xs:List Value) (hs:a.eval s = v) (hown:w.ownsRow base e 1 v n xs) (st:ByteArray) (hx:a.eval x = .string st)
  (h63:n + st.size ≤ 1000000) (hbase:base ≤ w.heap.size)
  (h:∀ v' w',w'.ownsRow base e 1 v' (n + st.size) (xs ++ byteCells st) → w.grownBy w' v.ownBlock → wpList P ops Q rest (a.put o.dst v') w') :
  wpList P ops Q (o :: rest) a w:=by
 refine wpList_plain hgd fun K hK => ?_
 obtain ⟨v',w',hr,h1,h2⟩:=run_append_own_str (P:=P) w base t tx o.type e i z ht hi hz hsize hby hzs v n xs hown hk st h63 hbase
 unfold Oper.wp execOp
 simp only [ho,resolve,invoke,builtin,Sem.run_bind,Sem.run_pure,Result.andThen_ok,List.map_toArray,List.map_cons,List.map_nil,hs,hx,hr]
 exact hK _ _ (h v' w' h1 h2)
end Go
namespace Go.Proofs.YtaonlcgneemimaaGreatDoor
open Go.RowKit
def strB (s:ByteArray):List Int:=s.data.toList.map fun b => (b.toNat:Int)
theorem u8s_strB (s:ByteArray):u8s (strB s) = byteCells s:=by simp [u8s,strB,byteCells]
theorem strB_length (s:ByteArray):(strB s).length = s.size:=by unfold strB;rw [List.length_map,Array.length_toList];rfl
theorem own_shape {w:World} {B e sz n:Nat} {v:Value} {xs:List Value} (h:w.ownsRow B e sz v n xs):∃ a c,v = .slice a n c:=by
 rcases h.2 with ⟨rfl,rfl⟩ | ⟨g,cap,cur,rfl,_⟩
 ·exact ⟨_,_,rfl⟩
 ·exact ⟨_,_,rfl⟩
def textB (s:ByteArray):List Int:=numB s.size ++ strB s
set_option maxRecDepth 100000 in
set_option maxHeartbeats 1000000 in
theorem text_k (B a:Nat) (l:List Int) (s:ByteArray) (hs:s.size ≤ 50000) (hl:l.length ≤ 900000) (w:World) (h:PenAt w B a l) :
  Calls Tryz.prog 113 #[.pointer (some ⟨a,0,none⟩),.string s] w fun e w' => e = .returned (.tuple #[]) ∧ PenAt w' B a (l ++ textB s) ∧ Below B w w' ∧ PenKeep a w w':=by
 obtain ⟨i0,hi,hz0,hz1,hz2⟩:=info_parts info5
 have hn9:=numB_len 8 s.size (by omega)
 have HP:=Lib.hid h
 have HN9:=Lib.hid hn9
 clear h hn9
 go_enter Tryz.func113,Tryz.ntmps113
 go_wp2_with (first | (go_at_call 110;refine (num_k B a l s.size (by omega) (by omega) _ HP.out).mono ?_;rintro e w1 ⟨rfl,hq,hb,hk⟩;have HB1:=Lib.hid hb;have HK1:=Lib.hid hk;obtain ⟨v,ha,hown,hBa,hv1⟩:=hq;have HO:=Lib.hid hown;have HA:=Lib.hid ha;have HBa:=Lib.hid hBa;have hc:=cell_of_heap ha;have hf:=frozen_of_heap ha;clear hb hown ha hBa hv1 hk) | (at_builtin;refine wp_append_str rfl _ _ 33 9 rfl B 5 i0 (.int .u8 0) Tryz.underlying33 hi hz0 hz1 hz2 rfl Tryz.underlying9 v (l ++ numB s.size).length (u8s (l ++ numB s.size)) rfl HO.out s rfl (by have:=HN9.out;simp;omega) (by have:=heap_lt HA.out;have:=HBa.out;omega) ?_;intro v' w2 hown' hgrow;obtain ⟨a',c',rfl⟩:=own_shape hown';have HO2:=Lib.hid hown';have HG2:=Lib.hid hgrow;have HA2:=Lib.hid ((hgrow.block a (heap_lt HA.out) (fun e => own_ne HO.out HA.out (by decide) e.symm)).trans HA.out);have hc2:w2.cell? ⟨a,0,none⟩ = some v:=cell_of_heap HA2.out;have hf2:w2.frozen? ⟨a,0,none⟩ = false:=frozen_of_heap HA2.out;clear hown' hgrow))
 go_end0
 have hlen:(l ++ textB s).length = (l ++ numB s.size).length + s.size:=by simp [textB,strB_length];omega
 refine ⟨rfl,⟨.slice a' ((l ++ numB s.size).length + s.size) c',?_,?_,HBa.out,rfl⟩,?_,?_⟩
 ·simpa using heap_setCell_one HA2.out _
 ·have h1:=own_ne HO2.out HA2.out (by decide)
  have h2:=HO2.out.kept (grownBy_setCell' w2 a (.slice a' ((l ++ numB s.size).length + s.size) c')) (.inr h1)
  rw [hlen,textB,← List.append_assoc,u8s_append,u8s_strB]
  simpa using h2
 ·exact HB1.out.trans (((Below.refl B w1).grown HG2.out (by have:=heap_lt HA.out;have:=HBa.out;omega) (fun k hk => (HO.out.lt k hk).1)).setCell (p:=⟨a,0,none⟩) HBa.out _)
 ·refine HK1.out.trans (fun k o hk hne hno => ?_)
  rw [Below.heap_setCell _ _ _ _ hne,HG2.out.block k (heap_lt hk) (fun e => own_not HO.out hk hno e.symm)]
  exact hk
theorem text_any (B a:Nat) (l:List Int) (s:ByteArray) (hs:s.size ≤ 50000) (hl:l.length ≤ 900000) (w:World) (h:PenAt w B a l) :
  Calls Tryz.prog 113 #[.pointer (some ⟨a,0,none⟩),.string s] w fun e w' => e = .returned (.tuple #[]) ∧ PenAt w' B a (l ++ textB s) ∧ Below B w w':=(text_k B a l s hs hl w h).mono fun _ _ h => ⟨h.1,h.2.1,h.2.2.1⟩
end Go.Proofs.YtaonlcgneemimaaGreatDoor
namespace Go.Proofs.YtaonlcgneemimaaGreatDoor
open Go.RowKit
theorem info134:(Tryz.prog.info? 134).map (fun i => (i.zero,i.size,i.bytes)) = some (some (.agg #[.int .i64 0,.int .i64 0,.int .i64 0,.int .i64 0]),4,32):=by kernel_rfl
def OutAt (w:World) (B o:Nat) (size:Int) (l:List PartA):Prop :=
 ∃ sv,w.heap[o]? = some (.cells #[.int .i64 size,sv] 100 (0,0)) ∧ w.ownsRow B 134 4 sv l.length (partsC l) ∧ sv.oneCell' = true ∧ (sv = .slice none 0 0 ∨ 0 < l.length)
theorem OutAt.alloc {w:World} {B o:Nat} {size:Int} {l:List PartA} (h:OutAt w B o size l) (x:Obj):OutAt (w.alloc x) B o size l:=by
 obtain ⟨sv,h1,h2,h3,h4⟩:=h
 exact ⟨sv,heap_old h1 x,h2.alloc x,h3,h4⟩
theorem OutAt.put {w w':World} {B o:Nat} {size:Int} {l:List PartA} {p:PartA} {sv v':Value} (h1:w.heap[o]? = some (.cells #[.int .i64 size,sv] 100 (0,0))) (h2:w.ownsRow B 134 4 sv l.length (partsC l)) (hg:w.grownBy w' sv.ownBlock) (h':w'.ownsRow B 134 4 v' (l.length + 1) (partsC l ++ p.cells)):OutAt (w'.setCell ⟨o,1,none⟩ v') B o size (l ++ [p]):=by
 have hne:=own_neq h2 h1 (by decide)
 have h3:=grown_heap hg h1 hne
 have hne':=own_neq h' h3 (by decide)
 obtain ⟨g',c',rfl⟩:=ownsRow_succ h'
 refine ⟨_,by simpa using setAt h3 1 _,?_,rfl,.inr (by simp)⟩
 have:=own_setCell (i:=1) (u:=.slice (some ⟨g',0,none⟩) (l.length + 1) c') h' hne'
 rw [partsC_append]
 simpa [partsC] using this
theorem OutAt.step {w w':World} {B o:Nat} {size:Int} {l:List PartA} {p:PartA} {sv v':Value} (h1:w.heap[o]? = some (.cells #[.int .i64 size,sv] 100 (0,0))) (h2:w.ownsRow B 134 4 sv l.length (partsC l)) (hg:w.grownBy w' sv.ownBlock) (h':w'.ownsRow B 134 4 v' (l.length + 1) (partsC l ++ p.cells)) :
  w'.cell? ⟨o,1,none⟩ = some sv ∧ w'.frozen? ⟨o,1,none⟩ = false ∧ OutAt (w'.setCell ⟨o,1,none⟩ v') B o size (l ++ [p]):=by
 have h3:=grown_heap hg h1 (own_neq h2 h1 (by decide))
 exact ⟨cellAt h3 1,frozenAt h3 1,OutAt.put h1 h2 hg h'⟩
theorem filterMap_take_succ {α β:Type} (f:α → Option β) (l:List α) (k:Nat) (p:α) (hp:l[k]? = some p):(l.take (k + 1)).filterMap f = (l.take k).filterMap f ++ (f p).toList:=by
 rw [List.take_add_one,hp]
 simp only [List.filterMap_append,Option.toList]
 cases h:f p <;> simp [h]
set_option maxRecDepth 100000 in
set_option maxHeartbeats 1000000 in
theorem trunc_any (b:BodyA) (size:Int) (v:Value) (w:World) (hv:BodyV w v b) (hm:b.may) (hn:b.parts.length ≤ 100000) (hs0:0 ≤ size) (hs1:size ≤ 1099511627776):Calls Tryz.prog 64 #[v,.int .i64 size] w fun e w' => ∃ v',e = .returned (.tuple #[v',.int .i64 0]) ∧ BodyV w' v' (truncB b size) ∧ Below w.heap.size w w':=by
 obtain ⟨i0,hi,hz0,hz1,hz2⟩:=info_parts info134
 have HV:=Lib.hid hv
 obtain ⟨s,rfl,hs⟩:=hv
 obtain ⟨a,cap,rfl,hcap,-,hcells⟩:=parts_cells hs
 have HC:=Lib.hid hcells
 have HM:=Lib.hid hm
 have HN:=Lib.hid hn
 have d1:decide (size < 0) = false:=by simp;omega
 have d2:decide (1099511627776 < size) = false:=by simp;omega
 clear hs hcells hm
 obtain ⟨l,hl⟩:∃ l,Hid (b.parts = l):=⟨_,rfl⟩
 rw [hl.out] at HC hcap HV hn ⊢
 have HG:∀ p ∈ l,p.fits ∧ 0 ≤ p.off ∧ p.off ≤ b.size - p.len:=by
  have:=mayParts_mem HM.out.2.2
  rw [hl.out] at this
  exact this
 have HG:=Lib.hid HG
 have HS:=Lib.hid HM.out.2.1
 go_enter Tryz.func64,Tryz.ntmps64
 go_wp2_with (go_at_call 79;refine (may_any b _ _ ?hv HM.out (by have:=HN.out;omega)).mono ?_)
 case hv => exact ⟨_,rfl,by rw [hl.out];obtain ⟨s,e1,h⟩:=HV.out;injection e1 with e1;simp at e1;rw [← e1,hl.out] at h;exact h.below (((Below.refl _ w).alloc (Nat.le_refl _) _).alloc (by simp) _)⟩
 rintro e w1 ⟨rfl,hq⟩
 have hb1:w1.heap[w.heap.size]? = some (.cells #[.int .i64 b.size,.slice a l.length cap] 100 (0,0)):=Below.heap hq (Nat.le_refl _) (heap_old (heap_new w _) _)
 have hb2:w1.heap[w.heap.size + 1]? = some (.cells #[.int .i64 0,.slice none 0 0] 100 (0,0)):=by
  refine Below.heap hq (Nat.le_refl _) ?_
  have:=heap_new (w.alloc (.cells #[.int .i64 b.size,.slice a l.length cap] 100)) (.cells #[.int .i64 0,.slice none 0 0] 100)
  simpa using this
 have HB0:=Lib.hid ((((Below.refl w.heap.size w).alloc (Nat.le_refl _) _).alloc (by simp) _).trans (hq.mono (by simp;omega)))
 have z0:w.heap.size + 2 ≤ w1.heap.size:=by have:=hq.size;simp at this;omega
 have HB1:=Lib.hid hb1
 have HB2:=Lib.hid hb2
 have k1:=cellAt hb1 1
 simp only [List.getElem?_toArray,List.getElem?_cons_zero,List.getElem?_cons_succ] at k1
 have z1:w.heap.size < w1.heap.size:=by omega
 clear hq hb1 hb2
 go_wp2
 go_loopw [29] (fun ti wr => ∃ k:Nat,k ≤ l.length ∧ ti = .int .i64 k ∧ Hid (OutAt wr w1.heap.size w1.heap.size size ((l.take k).filterMap (aheadP size))) ∧ Hid (Below w1.heap.size w1 wr)) (fun i _ => l.length - (intOf i).toNat)
 case atStart =>
  refine ⟨0,by omega,rfl,⟨.slice none 0 0,?_,World.ownsRow_nil _ _ _ _,rfl,.inl rfl⟩,(Below.refl _ _).alloc (Nat.le_refl _) _⟩
  exact heap_new _ _
 case round =>
  obtain ⟨k,hk,rfl,hout,hbel⟩:=hrel
  by_cases hlt:k < l.length
  ·obtain ⟨p,hp⟩:∃ p,l[k]? = some p:=⟨_,List.getElem?_eq_getElem hlt⟩
   obtain ⟨hfit,hpo,hps⟩:=HG.out p (List.mem_of_getElem? hp)
   obtain ⟨g,off,rfl,hg,c0,c1,c2,c3⟩:=HC.out k p hp
   have t:∀ o u,w.cell? ⟨g,o,none⟩ = some u → wr.cell? ⟨g,o,none⟩ = some u:=fun o u h => by
    rw [hbel.out.cell (p:=⟨g,o,none⟩) (by show g < _;omega),HB0.out.cell (p:=⟨g,o,none⟩) hg]
    exact h
   have q0:=t _ _ c0
   have q1:=t _ _ c1
   have q2:=t _ _ c2
   have q3:=t _ _ c3
   obtain ⟨sv,ho1,ho2,ho3,ho4⟩:=hout.out
   have y0:=heap_lt ho1
   have y1:w1.heap.size < wr.heap.size + 1:=by omega
   have y2:w1.heap.size < wr.heap.size + 2:=by omega
   have y3:w1.heap.size < wr.heap.size + 3:=by omega
   have y4:w1.heap.size < wr.heap.size + 4:=by omega
   have o1:=cellAt ho1 1
   simp only [List.getElem?_toArray,List.getElem?_cons_zero,List.getElem?_cons_succ] at o1
   have HO1:=Lib.hid ho1
   have HO2:=Lib.hid ho2
   have HL:=Lib.hid (show ((l.take k).filterMap (aheadP size)).length ≤ 100000 by
    have h1:=List.length_filterMap_le (aheadP size) (l.take k)
    simp at h1;omega)
   have HP:=Lib.hid hp
   have f1:=hfit.1
   have f2:=hfit.2.1
   have hs3:=HS.out
   have hcall:=fun w => ahead_any p size hpo (by omega) hs0 (by omega) w
   clear c0 c1 c2 c3 t ho1 ho2 hfit
   cases hA:aheadP size p with
   | none =>
    rw [hA] at hcall
    have HCALL:=Lib.hid hcall
    have HA:=Lib.hid hA
    clear hcall hA
    go_wp2_with (go_at_call 80;refine (HCALL.out _).mono ?_;rintro e w2 ⟨rfl,x1,x2,rfl⟩;simp only [optPart])
    go_roundw
    case rel =>
     refine ⟨k + 1,by omega,by go_num,?_,((((hbel.out.alloc (by omega) _).alloc (by simp;omega) _).alloc (by simp;omega) _).alloc (by simp;omega) _)⟩
     rw [filterMap_take_succ _ _ _ _ HP.out,HA.out]
     have h:=(((hout.out.alloc (.cells #[.int .i64 p.off,.int .i64 p.len,.int .i64 p.chunk,.int .i64 p.pos] 134)).alloc x1).alloc x2).alloc (.cells #[.int .i64 0,.int .i64 0,.int .i64 0,.int .i64 0] 134)
     show OutAt _ _ _ _ _
     simpa using h
    case measure => simp [intOf];omega
   | some r =>
    rw [hA] at hcall
    have HCALL:=Lib.hid hcall
    have HA:=Lib.hid hA
    clear hcall hA
    go_wp2_with (first | (go_at_call 80;refine (HCALL.out _).mono ?_;rintro e w2 ⟨rfl,x1,x2,rfl⟩;simp only [optPart,PartA.val]) | (at_builtin;refine wpList_append_own_at _ rfl _ _ 81 rfl w1.heap.size 134 i0 _ 4 32 Tryz.underlying81 hi hz0 hz1 hz2 rfl (by decide) sv _ _ rfl (((((HO2.out.alloc _).alloc _).alloc _).alloc _).alloc _) _ 1 1 r.cells rfl rfl (cells_new' _ _ _ _ (by simp)) (by simp [PartA.cells,Value.oneCell']) (by have:=HL.out;unfold maxLen;omega) (by have:=HL.out;omega) (by simp;omega) ?_;intro v' w2 hown' hgrow _ _;obtain ⟨g',c',rfl⟩:=ownsRow_succ hown';obtain ⟨o3,o4,hput⟩:=OutAt.step (p:=r) (heap_old (heap_old (heap_old (heap_old (heap_old HO1.out _) _) _) _) _) (((((HO2.out.alloc _).alloc _).alloc _).alloc _).alloc _) hgrow hown';have HPUT:=Lib.hid hput;have HBW:=Lib.hid ((((((hbel.out.alloc (by omega) _).alloc (by simp;omega) _).alloc (by simp;omega) _).alloc (by simp;omega) _).alloc (by simp;omega) _).grown hgrow (by simp;omega) (fun k hk => (HO2.out.lt k hk).1));clear hown' hgrow hput))
    go_roundw
    case rel =>
     refine ⟨k + 1,by omega,by go_num,?_,HBW.out.setCell (p:=⟨w1.heap.size,1,none⟩) (Nat.le_refl _) _⟩
     rw [filterMap_take_succ _ _ _ _ HP.out,HA.out]
     exact HPUT.out
    case measure => simp [intOf];omega
  ·have hkl:k = l.length:=by omega
   subst hkl
   obtain ⟨sv,ho1,ho2,ho3,ho4⟩:=hout.out
   simp only [List.take_length] at ho2 ho4
   obtain ⟨a',c',rfl⟩:=own_shape ho2
   have j0:=cellAt ho1 0
   have j1:=cellAt ho1 1
   have hr2:wr.heap[w.heap.size + 1]? = some (.cells #[.int .i64 0,.slice none 0 0] 100 (0,0)):=(hbel.out.block _ (by omega)).trans HB2.out
   have j2:=cellAt hr2 0
   have j3:=cellAt hr2 1
   have j4:=frozenAt hr2 0
   have j5:=frozenAt hr2 1
   simp only [List.getElem?_toArray,List.getElem?_cons_zero,List.getElem?_cons_succ] at j0 j1 j2 j3
   have HO1:=Lib.hid ho1
   have HO2:=Lib.hid ho2
   have HO4:=Lib.hid ho4
   have hs2:=setAt hr2 0 (.int .i64 size)
   have hs4:=setAt hs2 1 (.slice a' (l.filterMap (aheadP size)).length c')
   have j6:=cellAt hs2 0
   have j7:=cellAt hs4 1
   simp at j6 j7
   have HBF:=Lib.hid ((HB0.out.trans (hbel.out.mono (by omega))).setCell (p:=⟨w.heap.size + 1,0,none⟩) (by simp) (.int .i64 size) |>.setCell (p:=⟨w.heap.size + 1,1,none⟩) (by simp) (.slice a' (l.filterMap (aheadP size)).length c'))
   have HOF:=Lib.hid (own_setCell (i:=1) (u:=.slice a' (l.filterMap (aheadP size)).length c') (own_setCell (i:=0) (u:=.int .i64 size) HO2.out (own_neq HO2.out hr2 (by decide))) (own_neq HO2.out hr2 (by decide)))
   clear ho1 ho2 ho3 ho4 hr2 hs2 hs4
   go_wp2
   try simp only [Exit.inBlock,Exit.then]
   refine bodyPost_ret (v:=.tuple #[.agg #[.int .i64 size,.slice a' (l.filterMap (aheadP size)).length c'],.int .i64 0]) (by simp [results,Tryz.results64,go_sem,j6,j7]) rfl ?_
   refine ⟨_,rfl,⟨_,rfl,?_⟩,?_⟩
   ·rw [show (truncB b size).parts = l.filterMap (aheadP size) by rw [← hl.out];rfl]
    exact Sl.of_own HOF.out (partsC_one _) HO4.out
   ·exact HBF.out
end Go.Proofs.YtaonlcgneemimaaGreatDoor
namespace Go.Proofs.YtaonlcgneemimaaGreatDoor
open Go.RowKit
set_option maxRecDepth 100000 in
set_option maxHeartbeats 1000000 in
theorem unfit_any (p:PartA) (h:p.fits) (w:World):Calls Tryz.prog 154 #[p.val] w fun e w' => e = .returned (.bool false) ∧ ∃ o1 o2,w' = (w.alloc o1).alloc o2:=by
 have HF:=Lib.hid h
 unfold PartA.val
 go_enter Tryz.func154,Tryz.ntmps154
 go_wp2_with (go_at_call 130;refine (fits_any p HF.out _).mono ?_;rintro e w1 ⟨rfl,rfl⟩)
 go_ret
 exact ⟨rfl,_,_,rfl⟩
set_option maxRecDepth 100000 in
set_option maxHeartbeats 1000000 in
theorem idxPart_any (v:Value) (l:List PartA) (w:World) (h:Sl w 134 4 v l.length (partsC l)) (hf:∀ p ∈ l,p.fits) (hn:l.length ≤ 1000000) :
  Calls Tryz.prog 184 #[v,.func (.func 154) #[] #[]] w fun e w' => e = .returned (.int .i64 (-1)) ∧ Below w.heap.size w w':=by
 obtain ⟨a,cap,rfl,hcap,-,hcells⟩:=parts_cells h
 have HC:=Lib.hid hcells
 have HF:=Lib.hid hf
 clear h hcells hf
 go_enter Tryz.func184,Tryz.ntmps184
 go_wp2
 go_loopw [5,8] (fun t5 ti wr => ∃ k:Nat,k ≤ l.length ∧ ti = .int .i64 k ∧ Hid (Below w.heap.size w wr)) (fun _ i _ => l.length - (intOf i).toNat)
 case atStart => exact ⟨0,by omega,rfl,Below.refl _ _⟩
 case round =>
  obtain ⟨k,hk,rfl,hbel⟩:=hrel
  by_cases hlt:k < l.length
  ·obtain ⟨p,hp⟩:∃ p,l[k]? = some p:=⟨_,List.getElem?_eq_getElem hlt⟩
   have HFIT:=Lib.hid (HF.out p (List.mem_of_getElem? hp))
   obtain ⟨g,off,rfl,hg,c0,c1,c2,c3⟩:=HC.out k p hp
   have t:∀ o u,w.cell? ⟨g,o,none⟩ = some u → wr.cell? ⟨g,o,none⟩ = some u:=fun o u h => by
    rw [hbel.out.cell (p:=⟨g,o,none⟩) hg]
    exact h
   have q0:=t _ _ c0
   have q1:=t _ _ c1
   have q2:=t _ _ c2
   have q3:=t _ _ c3
   have z0:=hbel.out.size
   clear c0 c1 c2 c3 t
   go_wp2_with (go_at_call 154;refine (unfit_any p HFIT.out _).mono ?_;rintro e w1 ⟨rfl,x1,x2,rfl⟩)
   go_roundw
   case rel => exact ⟨k + 1,by omega,by go_num,(hbel.out.alloc (by omega) _).alloc (by simp;omega) _⟩
   case measure => simp [intOf];omega
  ·go_wp2
   go_ret
   exact ⟨rfl,hbel.out⟩
set_option maxRecDepth 100000 in
set_option maxHeartbeats 1000000 in
theorem noUnfit_any (v:Value) (l:List PartA) (w:World) (h:Sl w 134 4 v l.length (partsC l)) (hf:∀ p ∈ l,p.fits) (hn:l.length ≤ 1000000) :
  Calls Tryz.prog 153 #[v,.func (.func 154) #[] #[]] w fun e w' => e = .returned (.bool false) ∧ Below w.heap.size w w':=by
 have HS:=Lib.hid h
 have HF:=Lib.hid hf
 clear h hf
 go_enter Tryz.func153,Tryz.ntmps153
 go_wp2_with (go_at_call 184;refine (idxPart_any v l _ HS.out HF.out hn).mono ?_;rintro e w1 ⟨rfl,hq⟩;have HQ:=Lib.hid hq;clear hq)
 go_ret
 exact ⟨rfl,HQ.out⟩
end Go.Proofs.YtaonlcgneemimaaGreatDoor
namespace Go.Proofs.YtaonlcgneemimaaGreatDoor
def Lay:Int → Int → List PartA → Prop
 | k,m,[] => k ≤ m
 | k,m,p :: l => p.fits ∧ k ≤ p.off ∧ Lay (p.off + p.len) m l
theorem Lay.le:∀ {k m:Int} {l:List PartA},Lay k m l → k ≤ m
 | _,_,[],h => h
 | _,_,p :: l,⟨h1,h2,h3⟩ => by
  have:=h3.le
  have:=h1.1
  omega
theorem Lay.mono:∀ {k k' m m':Int} {l:List PartA},Lay k m l → k' ≤ k → m ≤ m' → Lay k' m' l
 | _,_,_,_,[],h,h1,h2 => by simp only [Lay] at h ⊢;omega
 | _,_,_,_,p :: l,⟨a,b,c⟩,h1,h2 => ⟨a,by omega,c.mono (Int.le_refl _) h2⟩
theorem Lay.append:∀ {k m n:Int} {a b:List PartA},Lay k m a → Lay m n b → Lay k n (a ++ b)
 | _,_,_,[],b,h,h' => h'.mono h (Int.le_refl _)
 | _,_,_,p :: a,b,⟨h1,h2,h3⟩,h' => ⟨h1,h2,h3.append h'⟩
theorem lay_of_may {size:Int}:∀ {k:Int} {l:List PartA},k ≤ size → mayParts size k l → Lay k size l
 | _,[],h,_ => h
 | k,p :: l,h,⟨h1,h2,h3,h4⟩ => ⟨h1,h2,lay_of_may (by omega) h4⟩
theorem may_of_lay {size:Int}:∀ {k:Int} {l:List PartA},Lay k size l → mayParts size k l
 | _,[],_ => trivial
 | k,p :: l,⟨h1,h2,h3⟩ => ⟨h1,h2,by have:=h3.le;omega,may_of_lay h3⟩
theorem Lay.ahead {X:Int}:∀ {k m:Int} {l:List PartA},Lay k m l → k ≤ X → Lay k X (l.filterMap (aheadP X))
 | _,_,[],_,hX => hX
 | k,m,p :: l,⟨h1,h2,h3⟩,hX => by
  by_cases c:X ≤ p.off
  ·have e:aheadP X p = none:=by unfold aheadP;rw [if_pos c]
   rw [List.filterMap_cons,e]
   have ih:∀ {k':Int} {l':List PartA},Lay k' m l' → X ≤ k' → l'.filterMap (aheadP X) = []:=by
    intro k' l' h hk
    induction l' generalizing k' with
    | nil => rfl
    | cons q l' ih =>
     obtain ⟨a,b,c⟩:=h
     rw [List.filterMap_cons,show aheadP X q = none by unfold aheadP;rw [if_pos (by omega)]]
     exact ih c (by have:=a.1;omega)
   rw [show List.filterMap (aheadP X) l = [] from ih h3 (by have:=h1.1;omega)]
   exact hX
  ·have e:aheadP X p = some { p with len:=min p.len (X - p.off) }:=by unfold aheadP;rw [if_neg c]
   rw [List.filterMap_cons,e]
   obtain ⟨f1,f2,f3,f4,f5,f6⟩:=h1
   refine ⟨⟨?_,?_,f3,f4,f5,?_⟩,h2,?_⟩
   ·show 1 ≤ min p.len (X - p.off);omega
   ·show min p.len (X - p.off) ≤ 64;omega
   ·show p.pos ≤ 64 - min p.len (X - p.off);omega
   ·show Lay (p.off + min p.len (X - p.off)) X _
    by_cases c2:p.off + p.len ≤ X
    ·rw [show p.off + min p.len (X - p.off) = p.off + p.len by omega]
     exact h3.ahead c2
    ·rw [show p.off + min p.len (X - p.off) = X by omega]
     have ih:∀ {k':Int} {l':List PartA},Lay k' m l' → X ≤ k' → l'.filterMap (aheadP X) = []:=by
      intro k' l' h hk
      induction l' generalizing k' with
      | nil => rfl
      | cons q l' ih =>
       obtain ⟨a,b,c⟩:=h
       rw [List.filterMap_cons,show aheadP X q = none by unfold aheadP;rw [if_pos (by omega)]]
       exact ih c (by have:=a.1;omega)
     rw [ih h3 (by omega)]
     exact Int.le_refl _
theorem Lay.place:∀ {l:List PartA} {k:Int},(∀ p ∈ l,p.fits) → Lay k (k + sumLen l) (placeP k l)
 | [],k,_ => by show k ≤ k + 0;omega
 | p :: l,k,h => by
  refine ⟨h p (by simp),Int.le_refl _,?_⟩
  have:=Lay.place (l:=l) (k:=k + p.len) (fun q hq => h q (by simp [hq]))
  simp only [sumLen]
  rw [show k + (p.len + sumLen l) = k + p.len + sumLen l by omega]
  exact this
theorem Lay.behind {Y:Int}:∀ {k m:Int} {l:List PartA},Lay k m l → ∀ {m':Int},m ≤ m' → Y ≤ m' → Lay Y m' (l.filterMap (behindP Y))
 | _,_,[],_,m',_,hY => hY
 | k,m,p :: l,⟨h1,h2,h3⟩,m',hm,hY => by
  by_cases c:p.off + p.len ≤ Y
  ·rw [List.filterMap_cons,show behindP Y p = none by unfold behindP;rw [if_pos c]]
   exact h3.behind hm hY
  ·have h4:=h3.behind (Y:=Y) hm hY
   have keep:∀ {k':Int} {l':List PartA},Lay k' m l' → Y ≤ k' → l'.filterMap (behindP Y) = l':=by
    intro k' l' h hk
    induction l' generalizing k' with
    | nil => rfl
    | cons q l' ih =>
     obtain ⟨a,b,c⟩:=h
     rw [List.filterMap_cons,show behindP Y q = some q by unfold behindP;rw [if_neg (by have:=a.1;omega),if_neg (by omega)]]
     rw [ih c (by have:=a.1;omega)]
   have h5:=keep h3 (by omega)
   obtain ⟨f1,f2,f3,f4,f5,f6⟩:=h1
   by_cases c2:0 < Y - p.off
   ·rw [List.filterMap_cons,show behindP Y p = some { off:=Y,len:=p.len - (Y - p.off),chunk:=p.chunk,pos:=p.pos + (Y - p.off) } by unfold behindP;rw [if_neg c,if_pos c2],h5]
    refine ⟨⟨?_,?_,f3,f4,?_,?_⟩,Int.le_refl _,?_⟩
    ·show 1 ≤ p.len - (Y - p.off);omega
    ·show p.len - (Y - p.off) ≤ 64;omega
    ·show 0 ≤ p.pos + (Y - p.off);omega
    ·show p.pos + (Y - p.off) ≤ 64 - (p.len - (Y - p.off));omega
    ·show Lay (Y + (p.len - (Y - p.off))) m' l
     rw [show Y + (p.len - (Y - p.off)) = p.off + p.len by omega]
     exact h3.mono (Int.le_refl _) hm
   ·rw [List.filterMap_cons,show behindP Y p = some p by unfold behindP;rw [if_neg c,if_neg c2],h5]
    exact ⟨⟨f1,f2,f3,f4,f5,f6⟩,by omega,h3.mono (Int.le_refl _) hm⟩
theorem writeB_may {b:BodyA} {off:Int} {l:List PartA} (hb:b.may) (hl:∀ p ∈ l,p.fits) (h0:0 ≤ off) (h1:off + sumLen l ≤ 1099511627776):(writeB b off l).may:=by
 obtain ⟨a1,a2,a3⟩:=hb
 cases l with
 | nil => exact ⟨a1,a2,a3⟩
 | cons p l =>
  have hS:=sumLen_nonneg hl
  have hlay:=lay_of_may a1 a3
  refine ⟨?_,?_,?_⟩
  ·show 0 ≤ max b.size (off + sumLen (p :: l));omega
  ·show max b.size (off + sumLen (p :: l)) ≤ _;omega
  ·have hsz:(writeB b off (p :: l)).size = max b.size (off + sumLen (p :: l)):=rfl
   refine may_of_lay (((hlay.ahead h0).append (Lay.place hl)).append (hlay.behind ?_ ?_)) <;> rw [hsz] <;> omega
theorem truncB_may {b:BodyA} {size:Int} (hb:b.may) (h0:0 ≤ size) (h1:size ≤ 1099511627776):(truncB b size).may :=
 ⟨h0,h1,may_of_lay ((lay_of_may hb.1 hb.2.2).ahead h0)⟩
theorem truncB_few {b:BodyA} {size:Int}:(truncB b size).parts.length ≤ b.parts.length:=List.length_filterMap_le _ _
theorem ab_count {X Y:Int} (hXY:X ≤ Y):∀ {k m:Int} {l:List PartA},Lay k m l → (l.filterMap (aheadP X)).length + (l.filterMap (behindP Y)).length ≤ l.length + 1
 | _,_,[],_ => by simp
 | k,m,p :: l,⟨h1,h2,h3⟩ => by
  have ih:=ab_count hXY h3
  have f1:=h1.1
  by_cases c:X ≤ p.off
  ·rw [List.filterMap_cons (f:=aheadP X),show aheadP X p = none by unfold aheadP;rw [if_pos c]]
   have:((p :: l).filterMap (behindP Y)).length ≤ (l.filterMap (behindP Y)).length + 1:=by
    rw [List.filterMap_cons]
    split <;> simp
   simp only [List.length_cons];omega
  ·have e2:((p :: l).filterMap (aheadP X)).length = (l.filterMap (aheadP X)).length + 1:=by
    rw [List.filterMap_cons,show aheadP X p = some { p with len:=min p.len (X - p.off) } by unfold aheadP;rw [if_neg c]];simp
   by_cases c2:p.off + p.len ≤ Y
   ·rw [List.filterMap_cons (f:=behindP Y),show behindP Y p = none by unfold behindP;rw [if_pos c2],e2]
    simp only [List.length_cons];omega
   ·have none:∀ {k':Int} {l':List PartA},Lay k' m l' → X ≤ k' → l'.filterMap (aheadP X) = []:=by
     intro k' l' h hk
     induction l' generalizing k' with
     | nil => rfl
     | cons q l' ih =>
      obtain ⟨a,b,c⟩:=h
      rw [List.filterMap_cons,show aheadP X q = none by unfold aheadP;rw [if_pos (by omega)]]
      exact ih c (by have:=a.1;omega)
    rw [e2,none h3 (by omega)]
    have h4:=List.length_filterMap_le (behindP Y) l
    have:((p :: l).filterMap (behindP Y)).length ≤ (l.filterMap (behindP Y)).length + 1:=by
     rw [List.filterMap_cons]
     split <;> simp
    simp only [List.length_cons,List.length_nil];omega
theorem writeB_few {b:BodyA} {off:Int} {l:List PartA} (hb:b.may) (hl:∀ p ∈ l,p.fits):(writeB b off l).parts.length ≤ b.parts.length + l.length + 1:=by
 cases l with
 | nil => simp [writeB]
 | cons p l =>
  have h:=ab_count (X:=off) (Y:=off + sumLen (p :: l)) (by have:=sumLen_nonneg hl;omega) (lay_of_may hb.1 hb.2.2)
  simp only [writeB,List.length_append,placeP_length]
  omega
end Go.Proofs.YtaonlcgneemimaaGreatDoor
