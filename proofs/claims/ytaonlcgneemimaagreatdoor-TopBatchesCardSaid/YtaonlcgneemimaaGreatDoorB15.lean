/- TopBatches: the contracts of M4, D6, T1, T5, T7, T8, AT1, AT2, AT3, AT4; no condition. -/
import Derived.Maps.RangeWalk
import Derived.Test.YtaonlcgneemimaaGreatDoorB14
import Derived.Deep.Cut
import Derived.Test.YtaonlcgneemimaaGreatDoorB12
import Derived.Test.YtaonlcgneemimaaGreatDoorB06
import Derived.Test.YtaonlcgneemimaaGreatDoorB03
namespace Go.Proofs.YtaonlcgneemimaaGreatDoor
open Go.RowKit
open Go.Maps (Keyed)
variable {P:Program} {k e t:TypeId} {α:Type}
def KeyInv (K:KeyKind P k α):Prop:=∀ key kl,keyOf P k key = some kl → ∃ x,K.good x ∧ key = K.enc x ∧ kl = K.lit x
theorem KI_inv:KeyInv KI:=fun key kl h => by
 obtain ⟨x,rfl,rfl,hw⟩:=Maps.keyOf_int_inv Tryz.underlying3 h
 exact ⟨x,hw,rfl,rfl⟩
theorem KU_inv:KeyInv KU:=fun key kl h => by
 obtain ⟨x,rfl,rfl,hw⟩:=Maps.keyOf_int_inv Tryz.underlying128 h
 exact ⟨x,hw,rfl,rfl⟩
def RangeX (K:KeyKind P k α) (w:World) (b r n:Nat) (f:α → Option Value) (left:α → Bool) (cnt:Nat):Prop :=
 ∃ D lf,w.ranges P k (rawR:Value → Option (DataW Value × List MemPlace)) b r n D lf cnt ∧ Maps.size D = n ∧ (∀ x,K.good x →
  (∀ v,f x = some v → Maps.has D (K.lit x) = true ∧ ∀ z,D.atKey (K.lit x) z = .held v) ∧ (f x = none → Maps.has D (K.lit x) = false ∧ ∀ z,D.atKey (K.lit x) z = z)) ∧ ∀ x,K.good x → lf (K.lit x) = left x
theorem RangeX.map {K:KeyKind P k α} {w:World} {b r n:Nat} {f:α → Option Value} {left:α → Bool} {cnt:Nat} (h:RangeX K w b r n f left cnt):MapX K w b n f:=by
 obtain ⟨D,lf,h,hs,hf,_⟩:=h
 exact ⟨D,h.owns,hs,hf⟩
theorem RangeX.left_eq {K:KeyKind P k α} {w:World} {b r n:Nat} {f:α → Option Value} {left:α → Bool} {cnt:Nat} (h:RangeX K w b r n f left cnt):w.rangeLeft b r = cnt:=by
 obtain ⟨D,lf,h,_⟩:=h
 exact h.left_eq
theorem RangeX.lt {K:KeyKind P k α} {w:World} {b r n:Nat} {f:α → Option Value} {left:α → Bool} {cnt:Nat} (h:RangeX K w b r n f left cnt):r < w.heap.size:=by
 obtain ⟨D,lf,h,_⟩:=h
 exact h.lt
theorem RangeX.kept {K:KeyKind P k α} {w w':World} {b r n:Nat} {f:α → Option Value} {left:α → Bool} {cnt:Nat} (h:RangeX K w b r n f left cnt) (hb:w'.heap[b]? = w.heap[b]?) (hr:w'.heap[r]? = w.heap[r]?):RangeX K w' b r n f left cnt:=by
 obtain ⟨D,lf,⟨es,cl,since,seen,c0,h1,h2,h3,h4,h5,h6⟩,hs⟩:=h
 exact ⟨D,lf,⟨es,cl,since,seen,c0,hb.trans h1,h2,h3,h4,hr.trans h5,h6⟩,hs⟩
section
variable (w:World) {ops:Array Oper} {rest:List Oper} {o:Oper} {a:Act} {Q:Exit → Act → World → Prop}
theorem wpx_range (hg:o.guard = none) (m:Operand) (t:TypeId) (hop:o.op = Op.range t m) (K:KeyKind P k α) (e:TypeId) (ht:P.underlying t = some (.map k e)) (b n:Nat) (f:α → Option Value)
  (hm:a.eval m = .map (some b)) (hM:MapX K w b n f)
  (hK:∀ w',RangeX K w' b w.heap.size n f (fun x => (f x).isSome) n → w.grownBy w' none → w'.heap.size = w.heap.size + 1 → wpList P ops Q rest (a.put o.dst (.pointer (some ⟨w.heap.size,0,none⟩))) w'):wpList P ops Q (o :: rest) a w:=by
 obtain ⟨D,hown,hs,hf⟩:=hM
 refine wpList_range_own w hg m t hop k e K.keyed ht rawR b n D hm hown fun w' h1 h2 h3 => hK w' ⟨D,_,hs ▸ h1,hs,hf,fun x hx => MapX.has_iff (hf x hx)⟩ h2 h3
theorem wpx_next [DecidableEq α] (hg:o.guard = none) (it:Operand) (hop:o.op = Op.next it false) (K:KeyKind P k α) (hinv:KeyInv K) (b r n:Nat) (f:α → Option Value) (left:α → Bool) (cnt:Nat)
  (hit:a.eval it = .pointer (some ⟨r,0,none⟩)) (h:RangeX K w b r n f left cnt)
  (hDone:cnt = 0 → (∀ x,K.good x → left x = false) → wpList P ops Q rest (a.put o.dst (.tuple #[.bool false])) w)
  (hMore:∀ (x:α) (v:Value) (w':World) (cnt':Nat),K.good x → left x = true → f x = some v → RangeX K w' b r n f (fun y => left y && !decide (y = x)) cnt' → cnt' < cnt → w.grownBy w' (some r) → w'.heap.size = w.heap.size →
   (Instr.entry (.pointer (some ⟨r,0,none⟩))).run P w' = .ok (.tuple #[K.enc x,v]) w' → wpList P ops Q rest (a.put o.dst (.tuple #[.bool true,K.enc x,v])) w'):wpList P ops Q (o :: rest) a w:=by
 obtain ⟨D,lf,hr,hs,hf,hl⟩:=h
 refine wpList_plain hg fun K' hK' => ?_
 unfold Oper.wp
 rcases hr.next K.keyed o.type with ⟨h0,hlf,hrun⟩ | ⟨key,v,kl,y,w',cnt',hkey,hlk,hv,hat,hrun,hrg,hlt,hgr,hsz,hen⟩
 ·simp [execOp,hop,hit,hrun,Result.andThen]
  exact hK' _ _ (hDone h0 (fun x hx => by rw [← hl x hx];exact hlf _))
 ·obtain ⟨x,hx,rfl,rfl⟩:=hinv key kl hkey
  simp [execOp,hop,hit,hrun,Result.andThen]
  refine hK' _ _ (hMore x v w' cnt' hx (by rw [← hl x hx];exact hlk) ?_ ⟨D,_,hrg,hs,hf,fun z hz => ?_⟩ hlt hgr hsz hen)
  ·simp only [rawR,Option.some.injEq] at hv
   subst hv
   cases hfx:f x with
   | none =>
    have h1:=((hf x hx).2 hfx).2 (.held .nilFunc)
    have h2:=((hf x hx).2 hfx).2 (.held (.bool true))
    rw [hat] at h1 h2
    simp only [DataW.held.injEq] at h1 h2
    rw [h1] at h2
    cases h2
   | some u =>
    have h1:=((hf x hx).1 u hfx).2 (.held .nilFunc)
    rw [hat] at h1
    simp only [DataW.held.injEq] at h1
    rw [h1]
  ·have e1:(K.lit z).sameKey (K.lit x) = decide (z = x):=by
    by_cases e:z = x
    ·subst e
     rw [WideAt.sameKey_self (K.isKey z)];simp
    ·rw [decide_eq_false e]
     cases h:(K.lit z).sameKey (K.lit x)
     ·rfl
     ·exact absurd (K.inj _ _ (WideAt.sameKey_eq h)) e
   show (lf (K.lit z) && !(K.lit z).sameKey (K.lit x)) = _
   rw [hl z hz,e1]
end
end Go.Proofs.YtaonlcgneemimaaGreatDoor
namespace Go.Proofs.YtaonlcgneemimaaGreatDoor
open Go.RowKit
theorem hk1 {w:World} {c:Nat} (h:c < w.heap.size) (o:Obj):(w.alloc o).drew.heap[c]? = w.heap[c]?:=Below.heap_alloc w o c h
theorem hk2 {w:World} {c:Nat} (h:c < w.heap.size) (o p:Obj):((w.alloc o).alloc p).drew.heap[c]? = w.heap[c]?:=(Below.heap_alloc _ p c (by simp;omega)).trans (Below.heap_alloc w o c h)
theorem hk3 {w:World} {c:Nat} (h:c < w.heap.size) (o p q:Obj):(((w.alloc o).alloc p).alloc q).drew.heap[c]? = w.heap[c]?:=(Below.heap_alloc _ q c (by simp;omega)).trans ((Below.heap_alloc _ p c (by simp;omega)).trans (Below.heap_alloc w o c h))
def Made (w:World) (wc:World) (c2 bl2 bb2:Nat) (P:List (List Int)) (vs:List Value) (sz:Int):Prop :=
 wc.heap[c2]? = some (.cells #[.map (some bl2),.map (some bb2),.int .i64 ((P.length:Int) + 1),.int .i64 sz] 118 (0,0)) ∧ w.heap.size ≤ c2 ∧ w.heap.size ≤ bl2 ∧ w.heap.size ≤ bb2 ∧ bl2 ≠ bb2 ∧ MapX KI wc bl2 P.length (ixV vs) ∧ MapX KU wc bb2 0 (fun _ => none) ∧ Below w.heap.size w wc
theorem made1 {w:World} {bl cl:Nat} {es:Array MapEntry} {P:List (List Int)} {vs:List Value} {sz:Int} (hm:MapX KI w bl P.length (ixV vs)) (hb:w.heap[bl]? = some (.map es cl)) :
  Made w (((w.alloc (.map es cl)).alloc (.map #[] 0)).alloc (.cells #[.map (some w.heap.size),.map (some (w.heap.size + 1)),.int .i64 ((P.length:Int) + 1),.int .i64 sz] 118)).drew (w.heap.size + 2) w.heap.size (w.heap.size + 1) P vs sz:=by
 refine ⟨?_,by omega,by omega,by omega,by omega,?_,?_,((((Below.refl _ _).alloc (Nat.le_refl _) _).alloc (by simp) _).alloc (by simp;omega) _).drew⟩
 ·have:=heap_new ((w.alloc (.map es cl)).alloc (.map #[] 0)) (.cells #[.map (some w.heap.size),.map (some (w.heap.size + 1)),.int .i64 ((P.length:Int) + 1),.int .i64 sz] 118)
  rw [show w.heap.size + 2 = ((w.alloc (.map es cl)).alloc (.map #[] 0)).heap.size by simp]
  exact this
 ·exact (hm.cloned hb).same ((heap_old (heap_old (heap_new w (.map es cl)) _) _).trans (heap_new w (.map es cl)).symm)
 ·have h:=(MapX.made KU (w.alloc (.map es cl))).same (w':=(((w.alloc (.map es cl)).alloc (.map #[] 0)).alloc (.cells #[.map (some w.heap.size),.map (some (w.heap.size + 1)),.int .i64 ((P.length:Int) + 1),.int .i64 sz] 118)).drew) ((heap_old (heap_new (w.alloc (.map es cl)) (.map #[] 0)) _).trans (heap_new (w.alloc (.map es cl)) (.map #[] 0)).symm)
  simpa using h
theorem made2 {w:World} {bl cl:Nat} {es:Array MapEntry} {P:List (List Int)} {vs:List Value} {sz:Int} (hm:MapX KI w bl P.length (ixV vs)) (hb:w.heap[bl]? = some (.map es cl)) :
  Made w (((w.alloc (.map #[] 0)).alloc (.map es cl)).alloc (.cells #[.map (some (w.heap.size + 1)),.map (some w.heap.size),.int .i64 ((P.length:Int) + 1),.int .i64 sz] 118)).drew (w.heap.size + 2) (w.heap.size + 1) w.heap.size P vs sz:=by
 refine ⟨?_,by omega,by omega,by omega,by omega,?_,?_,((((Below.refl _ _).alloc (Nat.le_refl _) _).alloc (by simp) _).alloc (by simp;omega) _).drew⟩
 ·have:=heap_new ((w.alloc (.map #[] 0)).alloc (.map es cl)) (.cells #[.map (some (w.heap.size + 1)),.map (some w.heap.size),.int .i64 ((P.length:Int) + 1),.int .i64 sz] 118)
  rw [show w.heap.size + 2 = ((w.alloc (.map #[] 0)).alloc (.map es cl)).heap.size by simp]
  exact this
 ·have h1:MapX KI (w.alloc (.map #[] 0)) bl P.length (ixV vs):=hm.same (Below.heap_alloc w _ bl hm.lt)
  have h:=(h1.cloned (heap_old hb _)).same (w':=(((w.alloc (.map #[] 0)).alloc (.map es cl)).alloc (.cells #[.map (some (w.heap.size + 1)),.map (some w.heap.size),.int .i64 ((P.length:Int) + 1),.int .i64 sz] 118)).drew) ((heap_old (heap_new (w.alloc (.map #[] 0)) (.map es cl)) _).trans (heap_new (w.alloc (.map #[] 0)) (.map es cl)).symm)
  simpa using h
 ·exact (MapX.made KU w).same ((heap_old (heap_old (heap_new w (.map #[] 0)) _) _).trans (heap_new w (.map #[] 0)).symm)
structure Part2 (w:World) (B bb2 m:Nat) (P:List (List Int)) (fb:Int → Option Value) (left:Int → Bool) (cnt:Nat) (fb2:Int → Option Value) (m2:Nat):Prop where
 mb:MapX KU w bb2 m2 fb2
 yes:∀ k,KU.good k → (fb k).isSome = true → left k = false → (fb2 k).isSome = true
 rows:∀ k v,fb2 k = some v → left k = false ∧ (fb k).isSome = true ∧ w.ownsRow B 3 1 v (idsFrom k 0 P).length (ints (idsFrom k 0 P)) ∧ 0 < (idsFrom k 0 P).length
 apart:∀ k k' v v',k ≠ k' → fb2 k = some v → fb2 k' = some v' → v.ownBlock ≠ v'.ownBlock
 small:m2 + cnt ≤ m
theorem Part2.kept {w w':World} {B bb2 m:Nat} {P:List (List Int)} {fb:Int → Option Value} {left:Int → Bool} {cnt:Nat} {fb2:Int → Option Value} {m2:Nat} (h:Part2 w B bb2 m P fb left cnt fb2 m2) (hb:w'.heap[bb2]? = w.heap[bb2]?) (hr:∀ (k:Nat) (arr:Array Value),w.heap[k]? = some (.cells arr 3 (0,0)) → w'.heap[k]? = some (.cells arr 3 (0,0))):Part2 w' B bb2 m P fb left cnt fb2 m2:=by
 refine ⟨h.mb.same hb,h.yes,fun k v hv => ?_,h.apart,h.small⟩
 obtain ⟨h0,h1,h2,h3⟩:=h.rows k v hv
 refine ⟨h0,h1,⟨h2.1,?_⟩,h3⟩
 rcases h2.2 with h | ⟨g,cap,cur,e1,e2,e3,e4⟩
 ·exact .inl h
 ·exact .inr ⟨g,cap,cur,e1,e2,hr g cur e3,e4⟩
theorem fresh_of {w1 w2:World} {B B0 n:Nat} {v':Value} {xs:List Value} {P:List (List Int)} {fb2:Int → Option Value} (ho:w2.ownsRow B 3 1 v' n xs) (h0:0 < n) (hr:∀ (k:Int) u,fb2 k = some u → w1.ownsRow B0 3 1 u (idsFrom k 0 P).length (ints (idsFrom k 0 P)) ∧ 0 < (idsFrom k 0 P).length) (hB:w1.heap.size ≤ B:=by exact Nat.le_refl _):∀ k u,fb2 k = some u → v'.ownBlock ≠ u.ownBlock:=by
 intro k u hu e
 obtain ⟨h1,h2⟩:=hr k u hu
 rcases ho.2 with ⟨_,e2⟩ | ⟨g,cap,cur,e1,e2,e3,_⟩
 ·omega
 ·rcases h1.2 with ⟨_,e4⟩ | ⟨g',cap',cur',e4,_,e6,_⟩
  ·omega
  ·rw [e1,e4] at e
   simp [Value.ownBlock] at e
   subst e
   have:=heap_lt e6
   omega
theorem part_step {w:World} {B bb2 m:Nat} {P:List (List Int)} {fb:Int → Option Value} {left:Int → Bool} {cnt cnt':Nat} {fb2:Int → Option Value} {m2:Nat} (h:Part2 w B bb2 m P fb left cnt fb2 m2) (hm:m ≤ 100000) (x:Int) (hx:KU.good x) (hl:left x = true) (hfx:(fb x).isSome = true) (v:Value) (hv:w.ownsRow B 3 1 v (idsFrom x 0 P).length (ints (idsFrom x 0 P)) ∧ 0 < (idsFrom x 0 P).length) (hf:∀ k u,fb2 k = some u → v.ownBlock ≠ u.ownBlock) (hc:cnt' < cnt) :
  ∃ w',(Instr.mapUpdate 116 (.map (some bb2)) (KU.enc x) v).run Tryz.prog w = .ok () w' ∧ Part2 w' B bb2 m P fb (fun y => left y && !decide (y = x)) cnt' (fput fb2 x (some v)) (m2 + 1) ∧ w.mapTurned w' bb2:=by
 have hnone:fb2 x = none:=by
  cases he:fb2 x with
  | none => rfl
  | some u => have:=(h.rows x u he).1;rw [hl] at this;cases this
 have hs:=h.small
 obtain ⟨w',hrun,hm',ht⟩:=h.mb.store Tryz.underlying116 (by unfold maxLen;omega) (x:=x) hx v
 rw [hnone] at hm'
 have kept:∀ k u n xs,w.ownsRow B 3 1 u n xs → fb2 k = some u ∨ u = v → w'.ownsRow B 3 1 u n xs:=fun k u n xs ho _ => row_kept ho (fun g o hg hb => turned_keep ht hg (fun e => by
  rcases ho.2 with ⟨e1,_⟩ | ⟨g',cap,cur,e1,_,e3,_⟩
  ·rw [e1] at hb;simp [Value.ownBlock] at hb
  ·rw [e1] at hb;simp [Value.ownBlock] at hb;subst hb;exact h.mb.cells (e ▸ e3)))
 refine ⟨w',hrun,⟨by simpa using hm',fun k hk hfk hlk => ?_,fun k u hu => ?_,fun k k' u u' hkk hu hu' => ?_,by omega⟩,ht⟩
 ·by_cases e:k = x
  ·subst e;simp [fput]
  ·simp only [fput,if_neg e]
   exact h.yes k hk hfk (by simpa [e] using hlk)
 ·by_cases e:k = x
  ·subst e
   simp only [fput,if_pos,Option.some.injEq] at hu
   subst hu
   exact ⟨by simp,hfx,kept k v _ _ hv.1 (.inr rfl),hv.2⟩
  ·simp only [fput,if_neg e] at hu
   obtain ⟨a1,a2,a3,a4⟩:=h.rows k u hu
   exact ⟨by simp [a1],a2,kept k u _ _ a3 (.inl hu),a4⟩
 ·by_cases e:k = x
  ·subst e
   simp only [fput,if_pos,Option.some.injEq] at hu
   subst hu
   simp only [fput,if_neg (Ne.symm hkk)] at hu'
   exact hf k' u' hu'
  ·simp only [fput,if_neg e] at hu
   by_cases e':k' = x
   ·subst e'
    simp only [fput,if_pos,Option.some.injEq] at hu'
    subst hu'
    exact (hf k u hu).symm
   ·simp only [fput,if_neg e'] at hu'
    exact h.apart k k' u u' hkk hu hu'
end Go.Proofs.YtaonlcgneemimaaGreatDoor
namespace Go.Proofs.YtaonlcgneemimaaGreatDoor
open Go.RowKit
theorem zero168:∀ w,(zeroValue 168).run Tryz.prog w = .ok (.agg #[.string ⟨#[]⟩,.int .i64 0,.bool false]) w:=Tryz.zeroValue168
end Go.Proofs.YtaonlcgneemimaaGreatDoor
namespace Go.Proofs.YtaonlcgneemimaaGreatDoor
open Go.RowKit
structure BodiesAt (w:World) (sm nb:Nat) (S:Int → Option BodyA) (g:Int → Option Value):Prop where
 map:MapX KI w sm nb g
 none:∀ id,S id = none → g id = none
 held:∀ id bd,S id = some bd → ∃ v,g id = some v ∧ BodyV w v bd ∧ bd.may ∧ bd.parts.length ≤ 10000
theorem BodyV.kept {w w':World} {v:Value} {b:BodyA} (h:BodyV w v b) (hk:∀ (k:Nat) (arr:Array Value),w.heap[k]? = some (.cells arr 134 (0,0)) → w'.heap[k]? = some (.cells arr 134 (0,0))):BodyV w' v b:=by
 obtain ⟨s,e,hs⟩:=h
 exact ⟨s,e,hs.kept hk⟩
theorem BodiesAt.below {w w':World} {sm nb:Nat} {S:Int → Option BodyA} {g:Int → Option Value} (h:BodiesAt w sm nb S g) (hb:Below w.heap.size w w'):BodiesAt w' sm nb S g :=
 ⟨keep_map h.map hb,h.none,fun id bd hS => by
  obtain ⟨v,h1,h2,h3⟩:=h.held id bd hS
  exact ⟨v,h1,h2.kept (fun k arr hk => Below.heap hb (Nat.le_refl _) hk),h3⟩⟩
end Go.Proofs.YtaonlcgneemimaaGreatDoor
namespace Go.Proofs.YtaonlcgneemimaaGreatDoor
open Go.RowKit
def bset (S:Int → Option BodyA) (id:Int) (v:Option BodyA):Int → Option BodyA:=fun y => if y = id then v else S y
theorem cell_map_none {w:World} {b:Nat} {es:Array MapEntry} {cl i:Nat} (h:w.heap[b]? = some (.map es cl)):w.cell? ⟨b,i,none⟩ = none:=by unfold World.cell?;simp [h]
theorem MapX.ne1 {α:Type} {P:Program} {kt:TypeId} {K:KeyKind P kt α} {w:World} {b n:Nat} {f:α → Option Value} (h:MapX K w b n f) (hg:∃ m,w.cell? ⟨1,0,none⟩ = some (.int .i64 m)):1 ≠ b:=by
 obtain ⟨m,hm⟩:=hg
 rintro rfl
 obtain ⟨es,cl,ho⟩:=h.obj
 rw [cell_map_none ho] at hm
 cases hm
theorem heap_type_ne {w:World} {a b t u:Nat} {x y:Array Value} (ha:w.heap[a]? = some (.cells x t (0,0))) (hb:w.heap[b]? = some (.cells y u (0,0))) (h:t ≠ u):a ≠ b:=by
 rintro rfl
 rw [ha] at hb
 injection hb with hb
 injection hb with _ e
 exact h e
theorem heap_map_ne {w:World} {a b t:Nat} {x:Array Value} {es:Array MapEntry} {cl:Nat} (ha:w.heap[a]? = some (.cells x t (0,0))) (hb:w.heap[b]? = some (.map es cl)):a ≠ b:=by
 rintro rfl
 rw [ha] at hb
 cases hb
theorem BodiesAt.frame {M:List Nat} {w w':World} {sm nb:Nat} {S:Int → Option BodyA} {g:Int → Option Value} (h:BodiesAt w sm nb S g) (hf:Frame M w w') (hs:sm ∉ M) (hM:∀ k ∈ M,∀ arr,w.heap[k]? ≠ some (.cells arr 134 (0,0))):BodiesAt w' sm nb S g :=
 ⟨h.map.same (hf.block sm h.map.lt hs),h.none,fun id bd hS => by
  obtain ⟨v,h1,h2,h3⟩:=h.held id bd hS
  exact ⟨v,h1,h2.kept (fun k arr hk => hf.heap hk (fun hm => hM k hm arr hk)),h3⟩⟩
theorem BodiesAt.put {w w':World} {sm nb:Nat} {S:Int → Option BodyA} {g:Int → Option Value} (h:BodiesAt w sm nb S g) (id:Int) (v:Value) (bd:BodyA) (hv:BodyV w v bd) (hm:bd.may) (hf:bd.parts.length ≤ 10000) {n':Nat} (hmap:MapX KI w' sm n' (fput g id (some v))) (ht:w.mapTurned w' sm):BodiesAt w' sm n' (bset S id (some bd)) (fput g id (some v)):=by
 have hk:∀ (k:Nat) (arr:Array Value),w.heap[k]? = some (.cells arr 134 (0,0)) → w'.heap[k]? = some (.cells arr 134 (0,0)):=fun k arr hk => turned_keep ht hk (fun e => h.map.cells (e ▸ hk))
 refine ⟨hmap,fun y hy => ?_,fun y b hy => ?_⟩
 ·unfold bset at hy
  unfold fput
  by_cases e:y = id
  ·rw [if_pos e] at hy;cases hy
  ·rw [if_neg e] at hy ⊢;exact h.none y hy
 ·unfold bset at hy
  unfold fput
  by_cases e:y = id
  ·rw [if_pos e] at hy ⊢
   cases hy
   exact ⟨v,rfl,hv.kept hk,hm,hf⟩
  ·rw [if_neg e] at hy ⊢
   obtain ⟨u,h1,h2,h3⟩:=h.held y b hy
   exact ⟨u,h1,h2.kept hk,h3⟩
end Go.Proofs.YtaonlcgneemimaaGreatDoor
namespace Go.Proofs.YtaonlcgneemimaaGreatDoor
open Go.RowKit
theorem zero100:∀ w,(zeroValue 100).run Tryz.prog w = .ok (.agg #[.int .i64 0,.slice none 0 0]) w:=Tryz.zeroValue100
def CutP (w wc:World) (vb:Nat) (X:BodyA) (va:Option Addr) (vc:Nat):Prop :=
 wc.heap[vb]? = some (.cells #[.int .i64 X.size,.slice va X.parts.length vc] 100 (0,0)) ∧ w.heap.size ≤ vb ∧ BodyV wc (.agg #[.int .i64 X.size,.slice va X.parts.length vc]) X ∧ Below w.heap.size w wc
theorem cut_a {w w1 w2:World} {X:BodyA} {va:Option Addr} {vc:Nat} (h1:Below w.heap.size w w1) (h2:Below w1.heap.size w1 w2) (hz:w2.heap[w1.heap.size]? = some (.cells #[.int .i64 0,.slice none 0 0] 100 (0,0))) (hv:BodyV w2 (.agg #[.int .i64 X.size,.slice va X.parts.length vc]) X) :
  CutP w ((w2.setCell ⟨w1.heap.size,0,none⟩ (.int .i64 X.size)).setCell ⟨w1.heap.size,1,none⟩ (.slice va X.parts.length vc)) w1.heap.size X va vc:=by
 refine ⟨by simpa using setAt (setAt hz 0 (.int .i64 X.size)) 1 (.slice va X.parts.length vc),h1.size,hv.kept (fun k arr hk => ?_),((h1.trans (h2.mono h1.size)).setCell (p:=⟨w1.heap.size,0,none⟩) h1.size _).setCell (p:=⟨w1.heap.size,1,none⟩) h1.size _⟩
 have hne:k ≠ w1.heap.size:=by
  rintro rfl
  rw [hz] at hk
  injection hk with hk
  injection hk with _ e
  exact absurd e (by decide)
 rw [heap_set_ne _ hne,heap_set_ne _ hne]
 exact hk
theorem cut_b {w w1 w2:World} {X:BodyA} {va:Option Addr} {vc:Nat} (h1:Below w.heap.size w w1) (h2:Below w1.heap.size w1 w2) (hv:BodyV w2 (.agg #[.int .i64 X.size,.slice va X.parts.length vc]) X) :
  CutP w (w2.alloc (.cells #[.int .i64 X.size,.slice va X.parts.length vc] 100)) w2.heap.size X va vc :=
 ⟨heap_new w2 _,by have:=h1.size;have:=h2.size;omega,hv.kept (fun k arr hk => heap_old hk _),(h1.trans (h2.mono h1.size)).alloc (by have:=h1.size;have:=h2.size;omega) _⟩
end Go.Proofs.YtaonlcgneemimaaGreatDoor
namespace Go.Proofs.YtaonlcgneemimaaGreatDoor
open Go.RowKit
abbrev TreeF:=ByteArray → Option (Int × Bool)
def gmap (T:TreeF):ByteArray → Option Value:=fun s => (T s).map fun x => .agg #[.string s,.int .i64 x.1,.bool x.2]
structure TreeG (w:World) (a b n:Nat) (T:TreeF) (next:Int):Prop where
 cell:w.heap[a]? = some (.cells #[.map (some b),.int .i64 next] 170 (0,0))
 map:MapX KS w b n (gmap T)
 glob:∃ m,w.cell? ⟨1,0,none⟩ = some (.int .i64 m)
 small:∀ q x,T q = some x → q.size ≤ 64
theorem TreeG.below {w w':World} {a b n:Nat} {T:TreeF} {next:Int} (h:TreeG w a b n T next) (hb:Below w.heap.size w w'):TreeG w' a b n T next:=by
 refine ⟨Below.heap hb (Nat.le_refl _) h.cell,keep_map h.map hb,?_,h.small⟩
 obtain ⟨m,hm⟩:=h.glob
 exact ⟨m,(hb.cell (p:=⟨1,0,none⟩) (World.block_lt_of_cell? w _ hm)).trans hm⟩
theorem KS_big {s:ByteArray} (h:s.size ≤ 1000000):KS.good s:=by
 show s.size ≤ maxLen
 unfold maxLen
 omega
def lookW (T:TreeF):List ByteArray → List ByteArray → Int × Bool → Int × Bool × Int
 | _,[],x => (x.1,x.2,0)
 | done,p :: rest,x => if x.2 then match T (joinP (done ++ [p])) with
  | none => (0,false,4)
  | some y => lookW T (done ++ [p]) rest y
  else (0,false,7)
def lookG (T:TreeF) (s:ByteArray):Int × Bool × Int :=
 match splitP s with
 | none => (0,false,3)
 | some ps => lookW T [] ps (0,true)
def lookR (r:Int × Bool × Int):Value:=.tuple #[.int .i64 r.1,.bool r.2.1,.int .i64 r.2.2]
def parentG (T:TreeF) (s:ByteArray):Int :=
 match splitP s with
 | none => 3
 | some [] => 0
 | some (p :: ps) => if (lookG T (joinP (p :: ps).dropLast)).2.2 = 0 ∧ (lookG T (joinP (p :: ps).dropLast)).2.1 = false then 7 else (lookG T (joinP (p :: ps).dropLast)).2.2
def canG (T:TreeF) (n:Nat) (s:ByteArray):Int :=
 if parentG T s ≠ 0 then parentG T s
 else if (T s).isSome ∨ s.toList = [47] then 5
 else if 64 ≤ n then 12
 else 0
theorem splitP_some {s:ByteArray} {l:List ByteArray} (h:splitP s = some l):(s.toList = [47] ∧ l = []) ∨ (s.size ≤ 64 ∧ l = cutAt (s.extract 1 s.size) ∧ l.length ≤ 8 ∧ l.all nameOk = true):=by
 unfold splitP at h
 split at h
 ·rename_i h1
  cases h
  exact .inl ⟨h1,rfl⟩
 ·split at h
  ·cases h
  ·rename_i h1
   split at h
   ·cases h
   ·rename_i h2
    cases h
    simp only [not_or,Bool.not_eq_false] at h1 h2
    exact .inr ⟨by omega,rfl,by omega,h2.2⟩
theorem splitP_size {s:ByteArray} {l:List ByteArray} (h:splitP s = some l):s.size ≤ 64:=by
 rcases splitP_some h with ⟨h1,-⟩ | ⟨h1,-⟩
 ·rw [Lib.toList_data] at h1
  have:=congrArg List.length h1
  rw [Array.length_toList] at this
  show s.data.size ≤ 64
  rw [this]
  decide
 ·exact h1
theorem nameOk_size {p:ByteArray} (h:nameOk p = true):1 ≤ p.size ∧ p.size ≤ 16:=by
 unfold nameOk at h
 simp only [Bool.and_eq_true,Bool.not_eq_true',Bool.or_eq_false_iff,decide_eq_false_iff_not] at h
 omega
theorem splitP_names {s:ByteArray} {l:List ByteArray} (h:splitP s = some l):l.length ≤ 8 ∧ ∀ p ∈ l,nameOk p = true:=by
 rcases splitP_some h with ⟨-,rfl⟩ | ⟨-,-,h1,h2⟩
 ·exact ⟨by simp,fun p hp => by simp at hp⟩
 ·exact ⟨h1,fun p hp => List.all_eq_true.1 h2 p hp⟩
theorem bytesLen (p:ByteArray):p.data.toList.length = p.size:=by
 rw [Array.length_toList]
 rfl
def flatP (ps:List ByteArray):List UInt8:=(ps.map fun p => [47] ++ p.data.toList).flatten
theorem joinP_data (ps:List ByteArray) (h:ps ≠ []):(joinP ps).data.toList = flatP ps:=by
 cases ps with
 | nil => exact absurd rfl h
 | cons p ps =>
  have e:(joinP (p :: ps)).data.toList = [47] ++ Lib.join ((p :: ps).map (·.data.toList)) [47]:=by
   unfold joinP joinT slash
   simp
  rw [e,List.map_cons,Lib.join_cons]
  unfold flatP Lib.joinTail
  simp [List.map_map,Function.comp_def]
theorem flatP_len:∀ (ps:List ByteArray),(∀ p ∈ ps,p.size ≤ 16) → (flatP ps).length ≤ 17 * ps.length
 | [],_ => by simp [flatP]
 | p :: ps,h => by
  have h1:=flatP_len ps (fun q hq => h q (by simp [hq]))
  have h2:=h p (by simp)
  have h3:(flatP (p :: ps)).length = 1 + p.size + (flatP ps).length:=by
   have e:flatP (p :: ps) = ([47] ++ p.data.toList) ++ flatP ps:=rfl
   rw [e,List.length_append,List.length_append,bytesLen]
   rfl
  simp only [List.length_cons]
  omega
theorem joinP_size (ps:List ByteArray) (hl:ps.length ≤ 8) (h:∀ p ∈ ps,nameOk p = true):(joinP ps).size ≤ 136 ∧ (joinT ps).size ≤ 136:=by
 have hb:(joinP ps).size = 1 + (joinT ps).size:=by
  unfold joinP
  rw [ByteArray.size_append]
  rfl
 by_cases h0:ps = []
 ·subst h0
  have e:(joinT []).size = 0:=by decide
  rw [hb,e]
  exact ⟨by decide,by decide⟩
 ·have h1:=flatP_len ps (fun p hp => (nameOk_size (h p hp)).2)
  rw [← joinP_data ps h0] at h1
  have h2:(joinP ps).data.toList.length = (joinP ps).size:=bytesLen _
  omega
theorem lookW_step {T:TreeF} {ps:List ByteArray} {k:Nat} {p:ByteArray} (h:ps[k]? = some p) (x:Int × Bool):lookW T (ps.take k) (ps.drop k) x = if x.2 then match T (joinP (ps.take (k + 1))) with
  | none => (0,false,4)
  | some y => lookW T (ps.take (k + 1)) (ps.drop (k + 1)) y
  else (0,false,7):=by
 obtain ⟨h1,h2⟩:=List.getElem?_eq_some_iff.1 h
 have e:ps.take (k + 1) = ps.take k ++ [p]:=by rw [List.take_add_one,h];rfl
 rw [List.drop_eq_getElem_cons h1,h2,e]
 rfl
end Go.Proofs.YtaonlcgneemimaaGreatDoor
namespace Go.Proofs.YtaonlcgneemimaaGreatDoor
open Go.RowKit
theorem foundV {T:TreeF} (q:ByteArray):∃ ns ni nd ok,Hid ((gmap T q).getD (.agg #[.string ⟨#[]⟩,.int .i64 0,.bool false]) = .agg #[.string ns,.int .i64 ni,.bool nd] ∧ (gmap T q).isSome = ok ∧ (ok = false → T q = none) ∧ (ok = true → T q = some (ni,nd)) ∧ (ok = false → ns = ⟨#[]⟩ ∧ ni = 0 ∧ nd = false) ∧ (ok = true → ns = q)):=by
 unfold gmap
 cases h:T q with
 | none => exact ⟨⟨#[]⟩,0,false,false,Lib.hid ⟨rfl,rfl,fun _ => rfl,(fun h => by cases h),fun _ => ⟨rfl,rfl,rfl⟩,(fun h => by cases h)⟩⟩
 | some y => exact ⟨q,y.1,y.2,true,Lib.hid ⟨rfl,rfl,(fun h => by cases h),fun _ => rfl,(fun h => by cases h),fun _ => rfl⟩⟩
theorem TreeG.lookup {w:World} {a b n:Nat} {T:TreeF} {next:Int} (H:TreeG w a b n T next) (q:ByteArray) (hq:q.size ≤ 1000000) (ns:ByteArray) (ni:Int) (nd ok:Bool) (hv:(gmap T q).getD (.agg #[.string ⟨#[]⟩,.int .i64 0,.bool false]) = .agg #[.string ns,.int .i64 ni,.bool nd]) (ho:(gmap T q).isSome = ok) (W:World) (hW:W.heap[b]? = w.heap[b]?) :
  (Instr.lookup 166 (.map (some b)) (.string q) true).run Tryz.prog W = .ok (.tuple #[.agg #[.string ns,.int .i64 ni,.bool nd],.bool ok]) W:=by
 have h:=((H.map.same hW).look Tryz.underlying166 (zero168 W) (KS_big hq)).1
 rw [hv,ho] at h
 exact h
def LookI (T:TreeF) (L:List ByteArray) (R:Int × Bool × Int) (w1 wr:World) (k:Nat) (p0:ByteArray) (id:Int) (d:Bool):Prop :=
 wr.heap[w1.heap.size]? = some (.cells #[.string p0,.int .i64 id,.bool d] 168 (0,0)) ∧ Below w1.heap.size w1 wr ∧ lookW T (L.take k) (L.drop k) (id,d) = R
set_option maxRecDepth 100000 in
set_option maxHeartbeats 4000000 in
theorem look_g (w:World) (a b n:Nat) (T:TreeF) (next:Int) (H:TreeG w a b n T next) (s:ByteArray) (hs:s.size ≤ 1000000) :
  Calls Tryz.prog 87 #[.pointer (some ⟨a,0,none⟩),.string s] w fun e w' => e = .returned (lookR (lookG T s)) ∧ Below w.heap.size w w':=by
 obtain ⟨mg,hm⟩:=H.glob
 have HH:=Lib.hid H
 obtain ⟨R,hR⟩:∃ R,Hid (R = lookG T s):=⟨_,Lib.hid rfl⟩
 rw [← hR.out]
 cases hP:splitP s with
 | none =>
  have HSP:=Lib.hid (split_no s (by omega) mg w hm hP)
  have hRv:Hid (R = (0,false,3)):=Lib.hid (by rw [hR.out];unfold lookG;rw [hP])
  clear H hm hP
  go_enter Tryz.func87,Tryz.ntmps87
  go_wp2_with (go_at_call 96;refine HSP.out.mono ?_;rintro e w1 ⟨rfl,hq⟩;have HQ:=Lib.hid hq;clear hq)
  refine bodyPost_ret (v:=.tuple #[.int .i64 0,.bool false,.int .i64 3]) (by simp [results,Tryz.results87,go_sem]) rfl ?_
  exact ⟨by rw [hRv.out];rfl,HQ.out⟩
 | some L =>
  obtain ⟨hL8,hLn⟩:=splitP_names hP
  have hRv:Hid (lookW T [] L (0,true) = R):=Lib.hid (by rw [hR.out];unfold lookG;rw [hP])
  by_cases hL0:L = []
  ·subst hL0
   have HSP:=Lib.hid (split_nil s (by omega) mg w hm hP)
   have hRv2:Hid (R = (0,true,0)):=Lib.hid (by rw [← hRv.out];rfl)
   clear H hm hP hL8 hLn
   go_enter Tryz.func87,Tryz.ntmps87
   go_wp2_with (go_at_call 96;refine HSP.out.mono ?_;rintro e w1 ⟨rfl,hq⟩;have HQ:=Lib.hid hq;clear hq)
   go_loopw [25] (fun ti wr => ti = .int .i64 0 ∧ Hid (wr = w1.alloc (.cells #[.string ⟨#[]⟩,.int .i64 0,.bool true] 168))) (fun _ _ => 0)
   case atStart => exact ⟨rfl,rfl⟩
   case round =>
    obtain ⟨rfl,hw⟩:=hrel
    have hw:=hw.out
    subst hw
    go_wp2
    go_quiet (fail)
    go_wp2
    refine bodyPost_ret (v:=.tuple #[.int .i64 0,.bool true,.int .i64 0]) (by simp [results,Tryz.results87,go_sem]) rfl ?_
    exact ⟨by rw [hRv2.out];rfl,below_drewN (HQ.out.alloc HQ.out.size _) _⟩
  ·have HSP:=Lib.hid (split_row s (by omega) mg w hm L hP hL0)
   obtain ⟨m,hmL⟩:∃ m,Hid (m = L.length):=⟨_,Lib.hid rfl⟩
   rw [← hmL.out] at HSP hL8
   have HJ:Hid (∀ (g:Nat) (W:World) (k:Nat),Row W g L → k < m → Calls Tryz.prog 137 #[.slice (some ⟨g,0,none⟩) (k + 1) m] W fun e w' => e = .returned (.string (joinP (L.take (k + 1)))) ∧ Below W.heap.size W w'):=Lib.hid (fun g W k hr hk => by
    have hkl:(L.take (k + 1)).length = k + 1:=by rw [List.length_take,← hmL.out];omega
    have:=join_any g 0 m (L.take (k + 1)) (by omega) (by omega) (by have:=(joinP_size (L.take (k + 1)) (by omega) (fun p hp => hLn p (List.mem_of_mem_take hp))).2;omega) W hr.1 (fun j x hj => by
     rw [List.getElem?_take_of_lt (by have:=(List.getElem?_eq_some_iff.1 hj).1;omega)] at hj
     exact hr.2 j x hj)
    rw [hkl] at this
    exact this)
   have HQS:Hid (∀ k,k < m → (joinP (L.take (k + 1))).size ≤ 1000000):=Lib.hid (fun k hk => by
    have:=(joinP_size (L.take (k + 1)) (by rw [List.length_take];omega) (fun p hp => hLn p (List.mem_of_mem_take hp))).1
    omega)
   have hla:=heap_lt H.cell
   have hlb:=H.map.lt
   clear H hm hP hLn hL0
   go_enter Tryz.func87,Tryz.ntmps87
   go_wp2_with (go_at_call 96;refine HSP.out.mono ?_;rintro e w1 ⟨g,rfl,hr,hq⟩;have HQ:=Lib.hid hq;have HR:=Lib.hid hr;clear hq hr)
   have hs1:=HQ.out.size
   have HA1:=Lib.hid (Below.heap HQ.out (Nat.le_refl _) HH.out.cell)
   go_loopw [10,11,25] (fun _ _ ti wr => ∃ (k:Nat) (p0:ByteArray) (id:Int) (d:Bool),k ≤ m ∧ ti = .int .i64 k ∧ Hid (LookI T L R w1 wr k p0 id d)) (fun _ _ i _ => m - (intOf i).toNat)
   case atStart => exact ⟨0,⟨#[]⟩,0,true,by omega,rfl,Lib.hid ⟨heap_new w1 _,(Below.refl _ _).alloc (Nat.le_refl _) _,by simpa using hRv.out⟩⟩
   case round =>
    obtain ⟨k,p0,id,d,hk,rfl,hI⟩:=hrel
    obtain ⟨hbox,hbel,hlk⟩:=hI.out
    have HBX:=Lib.hid hbox
    have HBL:=Lib.hid hbel
    have HLK:=Lib.hid hlk
    have n0:=cellAt hbox 0
    have n1:=cellAt hbox 1
    have n2:=cellAt hbox 2
    simp only [List.getElem?_toArray,List.getElem?_cons_zero,List.getElem?_cons_succ] at n0 n1 n2
    have hbs:=hbel.size
    clear hbox hbel hlk hI
    by_cases hlt:k < m
    ·obtain ⟨p,hp⟩:∃ p,L[k]? = some p:=⟨_,List.getElem?_eq_getElem (by rw [← hmL.out];exact hlt)⟩
     have HST:=Lib.hid (lookW_step (T:=T) hp (id,d))
     have dk:(k:Int) < m:=by omega
     clear hp
     cases d with
     | false =>
      have hRv3:Hid (R = (0,false,7)):=Lib.hid (by rw [← HLK.out,HST.out];rfl)
      go_wp2_with fail
      refine bodyPost_ret (v:=.tuple #[.int .i64 0,.bool false,.int .i64 7]) (by simp [results,Tryz.results87,go_sem]) rfl ?_
      exact ⟨by rw [hRv3.out];rfl,HQ.out.trans (HBL.out.mono hs1)⟩
     | true =>
      obtain ⟨q,hq⟩:∃ q,Hid (q = joinP (L.take (k + 1))):=⟨_,Lib.hid rfl⟩
      have HJK:=Lib.hid (fun g W hr => HJ.out g W k hr hlt)
      rw [← hq.out] at HJK HST
      obtain ⟨ns,ni,nd,ok,hv⟩:=foundV (T:=T) q
      have HAr:=Lib.hid (Below.heap HBL.out (Nat.le_refl _) HA1.out)
      have hbr:wr.heap[b]? = w.heap[b]?:=(HBL.out.block b (by omega)).trans (HQ.out.block b hlb)
      have c0:wr.cell? ⟨a,0,none⟩ = some (.map (some b)):=cellAt HAr.out 0
      have HK:Hid (∀ W:World,W.heap[a]? = wr.heap[a]? → W.heap[b]? = w.heap[b]? → W.cell? ⟨a,0,none⟩ = some (.map (some b)) ∧ (Instr.lookup 166 (.map (some b)) (.string q) true).run Tryz.prog W = .ok (.tuple #[.agg #[.string ns,.int .i64 ni,.bool nd],.bool ok]) W):=Lib.hid (fun W h1 h2 => ⟨cellAt (h1.trans HAr.out) 0,HH.out.lookup q (by rw [hq.out];exact HQS.out k hlt) ns ni nd ok hv.out.1 hv.out.2.1 W h2⟩)
      have HRG:=Lib.hid ((HR.out.below HBL.out (Nat.le_refl _)).below (w':=wr.drew) ((Below.refl wr.heap.size wr).drew) (Nat.le_refl _))
      have hwr:IntKind.i64.wrap ((k:Int) + 1) = (k:Int) + 1:=IntWalk.i64_in _ (by omega)
      have hk1:((k:Int) + 1).toNat = k + 1:=by omega
      have hsz:=heap_lt HBX.out
      have e0:(0:Int) ≤ (k:Int) + 1:=by omega
      have e1:(k:Int) + 1 ≤ m:=by omega
      have e2:k + 1 ≤ m:=hlt
      go_wp2_with fail
      go_region_held3 (fun w' => w'.cell? ⟨a,0,none⟩ = some (.map (some b)) ∧ (Instr.lookup 166 (.map (some b)) (.string q) true).run Tryz.prog w' = .ok (.tuple #[.agg #[.string ns,.int .i64 ni,.bool nd],.bool ok]) w') (first | exact HK.out _ rfl hbr | exact k2 | exact k3) (first | (go_at_call 137;refine (HJK.out g _ HRG.out).mono ?_;rintro e w2 ⟨rfl,hq2⟩;have hq3:=(((Below.refl wr.heap.size wr).drew).trans hq2);have HQ2:=Lib.hid hq3;(have k2:=HK.out w2 (hq3.block a (by omega)) ((hq3.block b (by omega)).trans hbr));have HNB2:=Lib.hid (Below.heap hq3 (Nat.le_refl _) HBX.out);have m0:=cellAt HNB2.out 0;have m1:=cellAt HNB2.out 1;have m2:=cellAt HNB2.out 2;have f0:=frozenAt HNB2.out 0;have f1:=frozenAt HNB2.out 1;have f2:=frozenAt HNB2.out 2;have k3:=HK.out (((w2.setCell ⟨w1.heap.size,0,none⟩ (.string ns)).setCell ⟨w1.heap.size,1,none⟩ (.int .i64 ni)).setCell ⟨w1.heap.size,2,none⟩ (.bool nd)) (((heap_set_ne _ (by omega)).trans ((heap_set_ne _ (by omega)).trans (heap_set_ne _ (by omega)))).trans (hq3.block a (by omega))) (((heap_set_ne _ (by omega)).trans ((heap_set_ne _ (by omega)).trans (heap_set_ne _ (by omega)))).trans ((hq3.block b (by omega)).trans hbr));clear hq2 hq3))
      have HBF:Hid (Below w1.heap.size w1 (((w2.setCell ⟨w1.heap.size,0,none⟩ (.string ns)).setCell ⟨w1.heap.size,1,none⟩ (.int .i64 ni)).setCell ⟨w1.heap.size,2,none⟩ (.bool nd))):=Lib.hid ((((HBL.out.trans (HQ2.out.mono hbs)).setCell (p:=⟨w1.heap.size,0,none⟩) (Nat.le_refl _) (.string ns)).setCell (p:=⟨w1.heap.size,1,none⟩) (Nat.le_refl _) (.int .i64 ni)).setCell (p:=⟨w1.heap.size,2,none⟩) (Nat.le_refl _) (.bool nd))
      have HBX2:=Lib.hid (setAt (setAt (setAt HNB2.out 0 (.string ns)) 1 (.int .i64 ni)) 2 (.bool nd))
      cases ok with
      | false =>
       have hRv3:Hid (R = (0,false,4)):=Lib.hid (by rw [← HLK.out,HST.out,hv.out.2.2.1 rfl];rfl)
       go_wp2_with fail
       refine bodyPost_ret (v:=.tuple #[.int .i64 0,.bool false,.int .i64 4]) (by simp [results,Tryz.results87,go_sem]) rfl ?_
       exact ⟨by rw [hRv3.out];rfl,HQ.out.trans (HBF.out.mono hs1)⟩
      | true =>
       go_wp2_with fail
       go_roundw
       case rel => exact ⟨k + 1,ns,ni,nd,by omega,by go_num,Lib.hid ⟨by simpa using HBX2.out,HBF.out,by have:=HLK.out;rw [HST.out,hv.out.2.2.2.1 rfl] at this;exact this⟩⟩
       case measure => simp [intOf];omega
    ·have hkm:k = m:=by omega
     have hRv3:Hid (R = (id,d,0)):=Lib.hid (by
      have:=HLK.out
      rw [hkm,hmL.out,List.drop_length] at this
      rw [← this]
      rfl)
     have dk:¬ ((k:Int) < m):=by omega
     go_wp2
     go_quiet (fail)
     go_wp2
     refine bodyPost_ret (v:=.tuple #[.int .i64 id,.bool d,.int .i64 0]) (by simp [results,Tryz.results87,go_sem]) rfl ?_
     exact ⟨by rw [hRv3.out];rfl,below_drewN (HQ.out.trans (HBL.out.mono hs1)) _⟩
end Go.Proofs.YtaonlcgneemimaaGreatDoor
namespace Go.Proofs.YtaonlcgneemimaaGreatDoor
open Go.RowKit
set_option maxRecDepth 100000 in
set_option maxHeartbeats 4000000 in
theorem parent_g (w:World) (a b n:Nat) (T:TreeF) (next:Int) (H:TreeG w a b n T next) (s:ByteArray) (hs:s.size ≤ 1000000) :
  Calls Tryz.prog 95 #[.pointer (some ⟨a,0,none⟩),.string s] w fun e w' => e = .returned (.int .i64 (parentG T s)) ∧ Below w.heap.size w w':=by
 obtain ⟨mg,hm⟩:=H.glob
 have HH:=Lib.hid H
 cases hP:splitP s with
 | none =>
  have HSP:=Lib.hid (split_no s (by omega) mg w hm hP)
  have hRv:parentG T s = 3:=by unfold parentG;rw [hP]
  rw [hRv]
  clear H hm hP hRv
  go_enter Tryz.func95,Tryz.ntmps95
  go_wp2_with (go_at_call 96;refine HSP.out.mono ?_;rintro e w1 ⟨rfl,hq⟩;have HQ:=Lib.hid hq;clear hq)
  go_ret
  exact ⟨rfl,HQ.out⟩
 | some L =>
  by_cases hL0:L = []
  ·subst hL0
   have HSP:=Lib.hid (split_nil s (by omega) mg w hm hP)
   have hRv:parentG T s = 0:=by unfold parentG;rw [hP]
   rw [hRv]
   clear H hm hP hRv
   go_enter Tryz.func95,Tryz.ntmps95
   go_wp2_with (go_at_call 96;refine HSP.out.mono ?_;rintro e w1 ⟨rfl,hq⟩;have HQ:=Lib.hid hq;clear hq)
   go_ret
   exact ⟨rfl,HQ.out⟩
  ·obtain ⟨hL8,hLn⟩:=splitP_names hP
   have HSP:=Lib.hid (split_row s (by omega) mg w hm L hP hL0)
   have hRv:Hid (parentG T s = if (lookG T (joinP L.dropLast)).2.2 = 0 ∧ (lookG T (joinP L.dropLast)).2.1 = false then 7 else (lookG T (joinP L.dropLast)).2.2):=Lib.hid (by
    unfold parentG
    rw [hP]
    cases L with
    | nil => exact absurd rfl hL0
    | cons p ps => rfl)
   obtain ⟨m,hmL⟩:∃ m,Hid (m + 1 = L.length):=⟨L.length - 1,Lib.hid (by have:=List.length_pos_iff.2 hL0;omega)⟩
   have hdl:L.dropLast.length = m:=by rw [List.length_dropLast,← hmL.out];omega
   have hm8:m + 1 ≤ 8:=by rw [hmL.out];exact hL8
   have hsz:=joinP_size L.dropLast (by omega) (fun p hp => hLn p ((List.dropLast_sublist L).subset hp))
   have HJ:Hid (∀ (g:Nat) (W:World),Row W g L → Calls Tryz.prog 137 #[.slice (some ⟨g,0,none⟩) m (m + 1)] W fun e w' => e = .returned (.string (joinP L.dropLast)) ∧ Below W.heap.size W w'):=Lib.hid (fun g W hr => by
    have:=join_any g 0 (m + 1) L.dropLast (by omega) (by omega) (by omega) W hr.1 (fun j x hj => by
     rw [List.getElem?_dropLast] at hj
     split at hj
     ·exact hr.2 j x hj
     ·cases hj)
    rw [hdl] at this
    exact this)
   obtain ⟨q,hq⟩:∃ q,Hid (q = joinP L.dropLast):=⟨_,Lib.hid rfl⟩
   have hqs:q.size ≤ 1000000:=by rw [hq.out];omega
   have LK:=Lib.hid (fun W (hW:Below w.heap.size w W) => look_g W a b n T next (H.below hW) q hqs)
   rw [← hq.out] at HJ hRv
   obtain ⟨ri,rd,re,hR⟩:∃ ri rd re,Hid (lookG T q = (ri,rd,re)):=⟨_,_,_,Lib.hid rfl⟩
   rw [hR.out] at LK hRv
   simp only at hRv
   rw [← hmL.out] at HSP hL8
   have e0:(0:Int) ≤ ((m + 1:Nat):Int) - 1:=by omega
   have e1:(((m + 1:Nat):Int) - 1).toNat = m:=by omega
   have e2:IntKind.i64.wrap (((m + 1:Nat):Int) - 1) = (m:Int):=by rw [IntWalk.i64_in _ (by omega)];omega
   obtain ⟨P,hPv⟩:∃ P,Hid (P = parentG T s):=⟨_,Lib.hid rfl⟩
   rw [← hPv.out] at hRv ⊢
   clear H hm hP hLn hL0 hdl hsz
   by_cases hre:re = 0
   ·subst hre
    cases rd with
    | false =>
     have hv:P = 7:=by rw [hRv.out];rfl
     subst hv
     go_enter Tryz.func95,Tryz.ntmps95
     go_wp2_with (first | (go_at_call 96;refine HSP.out.mono ?_;rintro e w1 ⟨g,rfl,hr,hq⟩;have HQ:=Lib.hid hq;have HR:=Lib.hid hr;clear hq hr) | (go_at_call 137;refine (HJ.out g _ HR.out).mono ?_;rintro e w2 ⟨rfl,hq⟩;have HQ2:=Lib.hid (HQ.out.trans (hq.mono HQ.out.size));clear hq) | (go_at_call 87;refine (LK.out _ HQ2.out).mono ?_;rintro e w3 ⟨rfl,hq⟩;have HQ3:=Lib.hid (HQ2.out.trans (hq.mono HQ2.out.size));clear hq;unfold lookR))
     go_ret
     exact ⟨rfl,HQ3.out⟩
    | true =>
     have hv:P = 0:=by rw [hRv.out];rfl
     subst hv
     go_enter Tryz.func95,Tryz.ntmps95
     go_wp2_with (first | (go_at_call 96;refine HSP.out.mono ?_;rintro e w1 ⟨g,rfl,hr,hq⟩;have HQ:=Lib.hid hq;have HR:=Lib.hid hr;clear hq hr) | (go_at_call 137;refine (HJ.out g _ HR.out).mono ?_;rintro e w2 ⟨rfl,hq⟩;have HQ2:=Lib.hid (HQ.out.trans (hq.mono HQ.out.size));clear hq) | (go_at_call 87;refine (LK.out _ HQ2.out).mono ?_;rintro e w3 ⟨rfl,hq⟩;have HQ3:=Lib.hid (HQ2.out.trans (hq.mono HQ2.out.size));clear hq;unfold lookR))
     go_ret
     exact ⟨rfl,HQ3.out⟩
   ·have hv:P = re:=by rw [hRv.out,if_neg (fun h => hre h.1)]
    subst hv
    have dre:(P == 0) = false:=by simpa using hre
    go_enter Tryz.func95,Tryz.ntmps95
    go_wp2_with (first | (go_at_call 96;refine HSP.out.mono ?_;rintro e w1 ⟨g,rfl,hr,hq⟩;have HQ:=Lib.hid hq;have HR:=Lib.hid hr;clear hq hr) | (go_at_call 137;refine (HJ.out g _ HR.out).mono ?_;rintro e w2 ⟨rfl,hq⟩;have HQ2:=Lib.hid (HQ.out.trans (hq.mono HQ.out.size));clear hq) | (go_at_call 87;refine (LK.out _ HQ2.out).mono ?_;rintro e w3 ⟨rfl,hq⟩;have HQ3:=Lib.hid (HQ2.out.trans (hq.mono HQ2.out.size));clear hq;unfold lookR))
    go_ret
    exact ⟨rfl,HQ3.out⟩
set_option maxRecDepth 100000 in
set_option maxHeartbeats 4000000 in
theorem can_g (w:World) (a b n:Nat) (T:TreeF) (next:Int) (H:TreeG w a b n T next) (s:ByteArray) (hs:s.size ≤ 1000000) (hn:n ≤ 1000000) :
  Calls Tryz.prog 49 #[.pointer (some ⟨a,0,none⟩),.string s] w fun e w' => e = .returned (.int .i64 (canG T n s)) ∧ Below w.heap.size w w':=by
 have HH:=Lib.hid H
 have HPA:=Lib.hid (parent_g w a b n T next H s hs)
 obtain ⟨ns,ni,nd,ok,hv⟩:=foundV (T:=T) s
 have HL:=Lib.hid (fun W (hW:W.heap[b]? = w.heap[b]?) => H.lookup s hs ns ni nd ok hv.out.1 hv.out.2.1 W hW)
 have HLEN:Hid (∀ W:World,W.heap[b]? = w.heap[b]? → ∀ ty,(Builtin.len_ #[166] ty #[.map (some b)]).run Tryz.prog W = .ok (.int .i64 n) W):=Lib.hid (fun W hW ty => (H.map.same hW).len Tryz.underlying166 ty)
 have hlb:=H.map.lt
 have hc:Hid (canG T n s = if parentG T s ≠ 0 then parentG T s else if ok = true ∨ s.toList = [47] then 5 else if 64 ≤ n then 12 else 0):=Lib.hid (by
  unfold canG
  have:(T s).isSome = ok:=by rw [← hv.out.2.1];unfold gmap;cases T s <;> rfl
  rw [this])
 obtain ⟨C,hC⟩:∃ C,Hid (C = canG T n s):=⟨_,Lib.hid rfl⟩
 obtain ⟨P,hP⟩:∃ P,Hid (P = parentG T s):=⟨_,Lib.hid rfl⟩
 rw [← hP.out] at HPA hc
 rw [← hC.out] at hc ⊢
 clear H
 by_cases hp0:P = 0
 ·subst hp0
  cases ok with
  | true =>
   have hv5:C = 5:=by rw [hc.out];simp
   subst hv5
   clear hs
   go_enter Tryz.func49,Tryz.ntmps49
   go_wp2_with (go_at_call 95;refine HPA.out.mono ?_;rintro e w1 ⟨rfl,hq⟩;have HQ:=Lib.hid hq;have c0:w1.cell? ⟨a,0,none⟩ = some (.map (some b)):=cellAt (Below.heap hq (Nat.le_refl _) HH.out.cell) 0;have l1:=HL.out w1 (hq.block b hlb);clear hq)
   go_ret
   exact ⟨rfl,HQ.out.alloc HQ.out.size _⟩
  | false =>
   by_cases hr:s.toList = [47]
   ·have hv5:C = 5:=by rw [hc.out];simp [hr]
    subst hv5
    have hr2:(s.toList == [47]) = true:=by simpa using hr
    clear hs hr
    go_enter Tryz.func49,Tryz.ntmps49
    go_wp2_with (go_at_call 95;refine HPA.out.mono ?_;rintro e w1 ⟨rfl,hq⟩;have HQ:=Lib.hid hq;have c0:w1.cell? ⟨a,0,none⟩ = some (.map (some b)):=cellAt (Below.heap hq (Nat.le_refl _) HH.out.cell) 0;have l1:=HL.out w1 (hq.block b hlb);clear hq)
    go_ret
    exact ⟨rfl,HQ.out.alloc HQ.out.size _⟩
   ·have hr2:(s.toList == [47]) = false:=by simpa using hr
    by_cases h64:64 ≤ n
    ·have hv5:C = 12:=by rw [hc.out];simp [hr,h64]
     subst hv5
     have d1:decide ((64:Int) ≤ n) = true:=by simp;omega
     clear hs hr
     go_enter Tryz.func49,Tryz.ntmps49
     go_wp2_with (go_at_call 95;refine HPA.out.mono ?_;rintro e w1 ⟨rfl,hq⟩;have HQ:=Lib.hid hq;have c0:w1.cell? ⟨a,0,none⟩ = some (.map (some b)):=cellAt (Below.heap hq (Nat.le_refl _) HH.out.cell) 0;have l1:=HL.out w1 (hq.block b hlb);have l2:=HLEN.out (w1.alloc (.cells #[.string ns,.int .i64 ni,.bool nd] 168)) ((Below.heap_alloc w1 _ b (by have:=hq.size;omega)).trans (hq.block b hlb));(have z0:a < w1.heap.size:=by (have:=hq.size;have:=heap_lt HH.out.cell;omega));clear hq)
     go_ret
     exact ⟨rfl,HQ.out.alloc HQ.out.size _⟩
    ·have hv5:C = 0:=by rw [hc.out];simp [hr,h64]
     subst hv5
     have d1:decide ((64:Int) ≤ n) = false:=by simp;omega
     clear hs hr
     go_enter Tryz.func49,Tryz.ntmps49
     go_wp2_with (go_at_call 95;refine HPA.out.mono ?_;rintro e w1 ⟨rfl,hq⟩;have HQ:=Lib.hid hq;have c0:w1.cell? ⟨a,0,none⟩ = some (.map (some b)):=cellAt (Below.heap hq (Nat.le_refl _) HH.out.cell) 0;have l1:=HL.out w1 (hq.block b hlb);have l2:=HLEN.out (w1.alloc (.cells #[.string ns,.int .i64 ni,.bool nd] 168)) ((Below.heap_alloc w1 _ b (by have:=hq.size;omega)).trans (hq.block b hlb));(have z0:a < w1.heap.size:=by (have:=hq.size;have:=heap_lt HH.out.cell;omega));clear hq)
     go_ret
     exact ⟨rfl,HQ.out.alloc HQ.out.size _⟩
 ·have hv5:C = P:=by rw [hc.out];simp [hp0]
  subst hv5
  have dP:(C != 0) = true:=by simpa using hp0
  have dP2:(C == 0) = false:=by simpa using hp0
  clear hs
  go_enter Tryz.func49,Tryz.ntmps49
  go_wp2_with (go_at_call 95;refine HPA.out.mono ?_;rintro e w1 ⟨rfl,hq⟩;have HQ:=Lib.hid hq;clear hq)
  go_ret
  exact ⟨rfl,HQ.out⟩
end Go.Proofs.YtaonlcgneemimaaGreatDoor
namespace Go.Proofs.YtaonlcgneemimaaGreatDoor
open Go.RowKit
def gset (T:TreeF) (s:ByteArray) (v:Option (Int × Bool)):TreeF:=fun y => if y = s then v else T y
theorem gmap_set (T:TreeF) (s:ByteArray) (id:Int) (d:Bool):fput (gmap T) s (some (.agg #[.string s,.int .i64 id,.bool d])) = gmap (gset T s (some (id,d))):=by
 funext y
 unfold fput gmap gset
 by_cases h:y = s
 ·subst h;simp
 ·simp [h]
theorem gmap_drop (T:TreeF) (s:ByteArray):fput (gmap T) s none = gmap (gset T s none):=by
 funext y
 unfold fput gmap gset
 by_cases h:y = s
 ·subst h;simp
 ·simp [h]
theorem canG_size {T:TreeF} {n:Nat} {s:ByteArray} (h:canG T n s = 0):s.size ≤ 64:=by
 unfold canG at h
 split at h
 ·rename_i h1
  exact absurd h h1
 ·rename_i h1
  cases hP:splitP s with
  | none => exact absurd (show parentG T s ≠ 0 by unfold parentG;rw [hP];show (3:Int) ≠ 0;decide) h1
  | some l => exact splitP_size hP
theorem canG_zero {T:TreeF} {n:Nat} {s:ByteArray} (h:canG T n s = 0):T s = none ∧ n < 64:=by
 unfold canG at h
 split at h
 ·rename_i h1
  exact absurd h h1
 ·split at h
  ·cases h
  ·rename_i h2
   split at h
   ·cases h
   ·refine ⟨?_,by omega⟩
    simp only [not_or] at h2
    cases hT:T s with
    | none => rfl
    | some x => rw [hT] at h2;simp at h2
set_option maxRecDepth 100000 in
set_option maxHeartbeats 4000000 in
theorem make_ok (w:World) (a b n:Nat) (T:TreeF) (next:Int) (H:TreeG w a b n T next) (s:ByteArray) (hs:s.size ≤ 1000000) (d:Bool) (hcan:canG T n s = 0) (hx:0 ≤ next ∧ next ≤ 4611686018427387904) (h1:1 ≠ a ∧ 1 ≠ b) :
  Calls Tryz.prog 61 #[.pointer (some ⟨a,0,none⟩),.string s,.bool d] w fun e w' => e = .returned (.tuple #[.int .i64 next,.int .i64 0]) ∧ TreeG w' a b (n + 1) (gset T s (some (next,d))) (next + 1) ∧ Frame [a,b] w w':=by
 have HH:=Lib.hid H
 obtain ⟨hT,h64⟩:=canG_zero hcan
 have HCAN:=Lib.hid (can_g w a b n T next H s hs (by omega))
 rw [hcan] at HCAN
 have hg:=KS_big hs
 have hTm:gmap T s = none:=by unfold gmap;rw [hT];rfl
 have HSM:Hid (∀ q x,gset T s (some (next,d)) q = some x → q.size ≤ 64):=Lib.hid (fun q x hq => by
  unfold gset at hq
  split at hq
  ·rename_i e
   rw [e]
   exact canG_size hcan
  ·exact H.small q x hq)
 have wn:=IntWalk.wrap64_in (next + 1) (by omega)
 have HGS:=Lib.hid hg
 have HTM:=Lib.hid hTm
 have hab:a ≠ b:=fun e => H.map.cells (e ▸ H.cell)
 clear H hg hTm hT hcan hs
 go_enter Tryz.func61,Tryz.ntmps61
 go_wp2_with (go_at_call 49;refine HCAN.out.mono ?_;rintro e w1 ⟨rfl,hq⟩;have HQ:=Lib.hid hq;(have c1:w1.cell? ⟨a,1,none⟩ = some (.int .i64 next):=by (rw [cellAt (Below.heap hq (Nat.le_refl _) HH.out.cell) 1];rfl));have c0:=cellAt (Below.heap hq (Nat.le_refl _) HH.out.cell) 0;(have z0:a < w1.heap.size:=by (have:=hq.size;have:=heap_lt HH.out.cell;omega));clear hq)
 have HA2:=Lib.hid (heap_old (Below.heap HQ.out (Nat.le_refl _) HH.out.cell) (.cells #[.string s,.int .i64 next,.bool d] 168))
 have HN2:=Lib.hid (heap_new w1 (.cells #[.string s,.int .i64 next,.bool d] 168))
 have hm2:MapX KS (w1.alloc (.cells #[.string s,.int .i64 next,.bool d] 168)).drew b n (gmap T):=(keep_map HH.out.map HQ.out).same (Below.heap_alloc w1 _ b (by have:=HQ.out.size;have:=HH.out.map.lt;omega))
 obtain ⟨w3,hrun,hm3,ht3⟩:=hm2.store Tryz.underlying166 (by unfold maxLen;omega) (x:=s) HGS.out (.agg #[.string s,.int .i64 next,.bool d])
 rw [HTM.out] at hm3
 have hrun':(Instr.mapUpdate 166 (.map (some b)) (.string s) (.agg #[.string s,.int .i64 next,.bool d])).run Tryz.prog (w1.alloc (.cells #[.string s,.int .i64 next,.bool d] 168)).drew = .ok () w3:=hrun
 clear hrun
 have HM3:=Lib.hid hm3
 have HT3:=Lib.hid ht3
 have HA3:=Lib.hid (turned_keep ht3 HA2.out hab)
 have HN3:=Lib.hid (turned_keep ht3 HN2.out (fun e => by have:=HQ.out.size;have:=HH.out.map.lt;omega))
 have HK:Hid (∀ W:World,W.heap[a]? = some (.cells #[.map (some b),.int .i64 next] 170 (0,0)) → W.heap[w1.heap.size]? = some (.cells #[.string s,.int .i64 next,.bool d] 168 (0,0)) → W.cell? ⟨a,0,none⟩ = some (.map (some b)) ∧ W.cell? ⟨w1.heap.size,0,none⟩ = some (.string s) ∧ W.cell? ⟨w1.heap.size,1,none⟩ = some (.int .i64 next) ∧ W.cell? ⟨w1.heap.size,2,none⟩ = some (.bool d)):=Lib.hid (fun W h1 h2 => ⟨cellAt h1 0,cellAt h2 0,cellAt h2 1,cellAt h2 2⟩)
 clear hm2 hm3 ht3
 go_region_held3 (fun W => W.cell? ⟨a,0,none⟩ = some (.map (some b)) ∧ W.cell? ⟨w1.heap.size,0,none⟩ = some (.string s) ∧ W.cell? ⟨w1.heap.size,1,none⟩ = some (.int .i64 next) ∧ W.cell? ⟨w1.heap.size,2,none⟩ = some (.bool d)) (first | exact HK.out _ HA2.out HN2.out | exact HK.out _ HA3.out HN3.out) (first | fail)
 have e1:=cellAt HA3.out 1
 have e2:=frozenAt HA3.out 1
 have e3:=cellAt HN3.out 1
 have hne:w1.heap.size ≠ a:=by omega
 simp only [List.getElem?_toArray,List.getElem?_cons_zero,List.getElem?_cons_succ] at e1 e3
 have hFr:Frame [a,b] w w3:=by
  refine ((Frame.of_below HQ.out [a,b]).alloc _).drew.turned (w:=(w1.alloc (.cells #[.string s,.int .i64 next,.bool d] 168)).drew) HT3.out (.inl (by simp))
 have HFR:=Lib.hid hFr
 clear hFr
 go_wp2
 go_ret2
 refine ⟨rfl,⟨by simpa using setAt HA3.out 1 (.int .i64 (next + 1)),?_,?_,HSM.out⟩,HFR.out.setCell (p:=⟨a,1,none⟩) (.inl (by simp)) _⟩
 ·have h:=HM3.out
  simp only [Option.isSome_none,Bool.false_eq_true,if_false] at h
  rw [gmap_set] at h
  exact h.same (heap_set_ne _ (fun e => hab e.symm))
 ·obtain ⟨m,hm⟩:=HH.out.glob
  have hl:=World.block_lt_of_cell? w _ hm
  refine ⟨m,?_⟩
  rw [World.cell?_of_block (w:=w) ((heap_set_ne _ h1.1).trans (HFR.out.block 1 hl (by simp;exact ⟨h1.1,h1.2⟩)))]
  exact hm
end Go.Proofs.YtaonlcgneemimaaGreatDoor
