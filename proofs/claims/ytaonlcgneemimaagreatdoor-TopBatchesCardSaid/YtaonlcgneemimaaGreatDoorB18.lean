/- TopBatches: the contracts of AT10, AT11, AT12, AT13, AT14; no condition. -/
import Derived.Test.YtaonlcgneemimaaGreatDoorB17
import Derived.Test.YtaonlcgneemimaaGreatDoorB06
namespace Go.Proofs.YtaonlcgneemimaaGreatDoor
open Go.RowKit
structure RenOk (T:TreeF) (s t:ByteArray) (i:Int) (d:Bool):Prop where
 Ts:T s = some (i,d)
 ne:t ≠ s
 nu:underB s t = false
 par:∀ p,underB p t = true → 0 < p.size → ∃ id,T p = some (id,true)
 there:∀ j e,T t = some (j,e) → e = false ∧ d = false
 sp:0 < s.size
 tp:0 < t.size
 t64:t.size ≤ 64
 m64:∀ q,(T q).isSome = true → underB s q = true → (movedP s t q).size ≤ 64
theorem splitP_pos {s:ByteArray} {l:List ByteArray} (h:splitP s = some l):0 < s.size:=by
 by_cases hs:s.toList = [47]
 ·rw [Lib.toList_data] at hs
  have:=congrArg List.length hs
  rw [bytesLen] at this
  simp at this
  omega
 ·have:=splitP_pre h hs
  have h2:=Lib.hasPrefix_le this
  rw [bytesLen] at h2
  simp at h2
  omega
theorem renOk_of {T:TreeF} {s t:ByteArray} (hc:canRenG T s t = 0) (hne:s.toList ≠ t.toList):∃ i d,RenOk T s t i d ∧ lookG T s = (i,d,0):=by
 unfold canRenG at hc
 split at hc
 ·cases hc
 ·rename_i h1
  simp only [not_or] at h1
  split at hc
  ·rename_i h2
   exact absurd hc h2
  ·rename_i h2
   split at hc
   ·cases hc
   ·rename_i h3
    split at hc
    ·cases hc
    ·rename_i h4
     split at hc
     ·rename_i h5
      exact absurd hc h5
     ·rename_i h5
      split at hc
      ·cases hc
      ·rename_i h6
       split at hc
       ·cases hc
       ·rename_i h7
        simp only [not_or] at h6
        obtain ⟨ri,rd,re,hR⟩:∃ ri rd re,lookG T s = (ri,rd,re):=⟨_,_,_,rfl⟩
        rw [hR] at h2 h6
        have hre:re = 0:=by simpa using h2
        subst hre
        have hTs:=look_node hR h3
        obtain ⟨ps,hps⟩:∃ ps,splitP s = some ps:=Option.ne_none_iff_exists'.1 h1.1
        obtain ⟨pt,hpt⟩:∃ pt,splitP t = some pt:=Option.ne_none_iff_exists'.1 h1.2
        have h5:parentG T t = 0:=by simpa using h5
        refine ⟨ri,rd,⟨hTs,fun e => hne (by rw [e]),?_,(parent_ok h5 h6.1).2,fun j e hj => ?_,splitP_pos hps,splitP_pos hpt,splitP_size hpt,fun q hq hu => ?_⟩,hR⟩
        ·cases hu:underB s t with
         | false => rfl
         | true =>
          exfalso
          obtain ⟨i,hi1,hi2,e⟩:=anc hpt h6.1 hu (splitP_pos hps)
          obtain ⟨hl,hn⟩:=splitP_names hpt
          have hlen:(pt.take i).length = i:=by rw [List.length_take];omega
          have hsp:=splitP_join (ps:=pt.take i) (fun p hp => hn p (List.mem_of_mem_take hp)) (by omega) (fun e2 => by rw [e2] at hlen;simp at hlen;omega) (by rw [← e];exact splitP_size hps)
          rw [← e] at hsp
          apply h4
          unfold underP
          rw [hpt,hsp]
          simp [hlen,hi2]
        ·have h8:=h6.2
         rw [hj] at h8
         cases e with
         | true => exact absurd ⟨rfl,.inl rfl⟩ h8
         | false =>
          cases rd with
          | true => exact absurd ⟨rfl,.inr rfl⟩ h8
          | false => exact ⟨rfl,rfl⟩
        ·cases hm:splitP (movedP s t q) with
         | none => exact absurd ⟨q,hq,hu,hm⟩ h7
         | some l => exact splitP_size hm
theorem moved_data {s t q:ByteArray} {x:List UInt8} (h:q.data.toList = s.data.toList ++ x):(movedP s t q).data.toList = t.data.toList ++ x:=by
 unfold movedP
 rw [ByteArray.data_append,Array.toList_append,ByteArray.data_extract,Array.toList_extract]
 congr 1
 show List.take (q.size - s.size) (List.drop s.size q.data.toList) = x
 rw [h,← bytesLen s,List.drop_left,List.take_of_length_le]
 rw [← bytesLen q,h,List.length_append]
 omega
theorem moved_self (s t:ByteArray):movedP s t s = t:=bytes_ext (by rw [moved_data (x:=[]) (by simp)];simp)
theorem under_tail {s q:ByteArray} (h:underB s q = true):∃ r,q.data.toList = s.data.toList ++ 47 :: r:=by
 obtain ⟨r,hr⟩:=(underB_iff s q).1 h
 exact ⟨r,by rw [← hr];simp⟩
theorem tail_under {s q:ByteArray} {r:List UInt8} (h:q.data.toList = s.data.toList ++ 47 :: r):underB s q = true:=(underB_iff s q).2 ⟨r,by rw [h];simp⟩
theorem moved_under {s t q:ByteArray} (h:underB s q = true):underB t (movedP s t q) = true:=by
 obtain ⟨r,hr⟩:=under_tail h
 exact tail_under (moved_data hr)
def InL (T:TreeF) (s x:ByteArray):Prop:=x = s ∨ ((T x).isSome = true ∧ underB s x = true)
theorem moved_back {T:TreeF} {s t x:ByteArray} (h:InL T s x):movedP t s (movedP s t x) = x:=by
 rcases h with rfl | ⟨-,h⟩
 ·rw [moved_self,moved_self]
 ·obtain ⟨r,hr⟩:=under_tail h
  exact bytes_ext (by rw [moved_data (moved_data hr),hr])
theorem moved_none {T:TreeF} {s t x:ByteArray} {i:Int} {d:Bool} (R:RenOk T s t i d) (C:Closed T) (h:underB s x = true):T (movedP s t x) = none:=by
 cases hm:T (movedP s t x) with
 | none => rfl
 | some y =>
  obtain ⟨j,hj⟩:=C _ t (by rw [hm];rfl) (moved_under h) R.tp
  have:=(R.there _ _ hj).1
  cases this
theorem moved_not {T:TreeF} {s t x:ByteArray} {i:Int} {d:Bool} (R:RenOk T s t i d) (C:Closed T) (h:InL T s x):¬ InL T s (movedP s t x):=by
 intro hm
 rcases h with rfl | ⟨-,h⟩
 ·rw [moved_self] at hm
  rcases hm with e | ⟨-,e⟩
  ·exact R.ne e
  ·rw [R.nu] at e;cases e
 ·rcases hm with e | ⟨e,-⟩
  ·have hu:=moved_under (t:=t) h
   rw [e] at hu
   obtain ⟨j,hj⟩:=C s t (by rw [R.Ts];rfl) hu R.tp
   have:=(R.there _ _ hj).1
   cases this
  ·rw [moved_none R C h] at e;cases e
open Classical in
noncomputable def renL (T:TreeF) (s t:ByteArray) (done:List ByteArray):TreeF:=fun q => if q ∈ done.map (movedP s t) then T (movedP t s q) else if q ∈ done then none else T q
theorem renL_nil (T:TreeF) (s t:ByteArray):renL T s t [] = T:=by
 funext q
 unfold renL
 simp
theorem moved_in {T:TreeF} {s t x:ByteArray} {done:List ByteArray} (hx:InL T s x) (hd:∀ y ∈ done,InL T s y ∧ y ≠ x):movedP s t x ∉ done.map (movedP s t):=by
 intro h
 obtain ⟨y,hy,e⟩:=List.mem_map.1 h
 obtain ⟨h1,h2⟩:=hd y hy
 apply h2
 rw [← moved_back (t:=t) h1,e,moved_back hx]
theorem renL_at {T:TreeF} {s t x:ByteArray} {i:Int} {d:Bool} (R:RenOk T s t i d) (C:Closed T) {done:List ByteArray} (hx:InL T s x) (hd:∀ y ∈ done,InL T s y ∧ y ≠ x):renL T s t done x = T x ∧ gset (renL T s t done) x none (movedP s t x) = T (movedP s t x):=by
 have h1:x ∉ done.map (movedP s t):=fun h => by
  obtain ⟨y,hy,e⟩:=List.mem_map.1 h
  exact moved_not R C (hd y hy).1 (e ▸ hx)
 have h2:x ∉ done:=fun h => (hd x h).2 rfl
 have h3:movedP s t x ≠ x:=fun e => moved_not R C hx (e.symm ▸ hx)
 have h4:movedP s t x ∉ done:=fun h => moved_not R C hx (hd _ h).1
 constructor
 ·unfold renL
  rw [if_neg h1,if_neg h2]
 ·unfold gset renL
  rw [if_neg h3,if_neg (moved_in hx hd),if_neg h4]
theorem renL_step {T:TreeF} {s t x:ByteArray} {i:Int} {d:Bool} (R:RenOk T s t i d) (C:Closed T) {done:List ByteArray} (hx:InL T s x) (hd:∀ y ∈ done,InL T s y ∧ y ≠ x):gset (gset (renL T s t done) x none) (movedP s t x) (T x) = renL T s t (done ++ [x]):=by
 funext q
 have hmap:∀ q,q ∈ (done ++ [x]).map (movedP s t) ↔ q ∈ done.map (movedP s t) ∨ q = movedP s t x:=fun q => by simp
 have hmem:∀ q,q ∈ done ++ [x] ↔ q ∈ done ∨ q = x:=fun q => by simp
 unfold gset
 by_cases h1:q = movedP s t x
 ·rw [if_pos h1]
  unfold renL
  rw [if_pos ((hmap q).2 (.inr h1)),h1,moved_back hx]
 ·rw [if_neg h1]
  by_cases h2:q = x
  ·rw [if_pos h2]
   have h3:q ∉ (done ++ [x]).map (movedP s t):=fun h => by
    rcases (hmap q).1 h with h | h
    ·obtain ⟨y,hy,e⟩:=List.mem_map.1 h
     exact moved_not R C (hd y hy).1 (by rw [e,h2];exact hx)
    ·exact h1 h
   unfold renL
   rw [if_neg h3,if_pos ((hmem q).2 (.inr h2))]
  ·rw [if_neg h2]
   unfold renL
   by_cases h4:q ∈ done.map (movedP s t)
   ·rw [if_pos h4,if_pos ((hmap q).2 (.inl h4))]
   ·rw [if_neg h4,if_neg (fun h => ((hmap q).1 h).elim h4 h1)]
    by_cases h5:q ∈ done
    ·rw [if_pos h5,if_pos ((hmem q).2 (.inl h5))]
    ·rw [if_neg h5,if_neg (fun h => ((hmem q).1 h).elim h5 h2)]
def renG (T:TreeF) (s t:ByteArray):TreeF:=fun q => if q = t ∨ (underB t q = true ∧ (T (movedP t s q)).isSome = true) then T (movedP t s q) else if q = s ∨ ((T q).isSome = true ∧ underB s q = true) then none else T q
theorem renL_all {T:TreeF} {s t:ByteArray} {qs:List ByteArray} (U:UnderOf T s qs):renL T s t (qs ++ [s]) = renG T s t:=by
 funext q
 have h1:q ∈ (qs ++ [s]).map (movedP s t) ↔ q = t ∨ (underB t q = true ∧ (T (movedP t s q)).isSome = true):=by
  simp only [List.map_append,List.map_cons,List.map_nil,List.mem_append,List.mem_map,List.mem_singleton,moved_self]
  constructor
  ·rintro (⟨x,hx,rfl⟩ | h)
   ·obtain ⟨h2,h3⟩:=(U.mem x).1 hx
    refine .inr ⟨moved_under h3,?_⟩
    rw [moved_back (.inr ⟨h2,h3⟩)]
    exact h2
   ·exact .inl h
  ·rintro (h | ⟨h2,h3⟩)
   ·exact .inr h
   ·refine .inl ⟨movedP t s q,(U.mem _).2 ⟨h3,moved_under h2⟩,?_⟩
    obtain ⟨r,hr⟩:=under_tail h2
    exact bytes_ext (by rw [moved_data (moved_data hr),hr])
 have h2:q ∈ qs ++ [s] ↔ q = s ∨ ((T q).isSome = true ∧ underB s q = true):=by
  rw [List.mem_append,List.mem_singleton,U.mem q]
  exact Or.comm
 unfold renL renG
 by_cases a:q ∈ (qs ++ [s]).map (movedP s t)
 ·rw [if_pos a,if_pos (h1.1 a)]
 ·rw [if_neg a,if_neg (fun h => a (h1.2 h))]
  by_cases b:q ∈ qs ++ [s]
  ·rw [if_pos b,if_pos (h2.1 b)]
  ·rw [if_neg b,if_neg (fun h => b (h2.2 h))]
theorem closed_ren {T:TreeF} {s t:ByteArray} {i:Int} {d:Bool} (R:RenOk T s t i d) (C:Closed T):Closed (renG T s t):=by
 have tdir:∀ j,T t ≠ some (j,true):=fun j hj => by have:=(R.there _ _ hj).1;cases this
 have tnone:∀ q,underB t q = true → T q = none:=fun q hu => by
  cases hq:T q with
  | none => rfl
  | some y =>
   obtain ⟨j,hj⟩:=C q t (by rw [hq];rfl) hu R.tp
   exact absurd hj (tdir j)
 have stay:∀ p id,T p = some (id,true) → p ≠ s → underB s p = false → renG T s t p = some (id,true):=fun p id hp h1 h2 => by
  have h3:p ≠ t:=fun e => tdir id (e ▸ hp)
  unfold renG
  rw [if_neg (fun h => h.elim h3 (fun h => by rw [tnone p h.1] at hp;cases hp)),if_neg (fun h => h.elim h1 (fun h => by rw [h2] at h;cases h.2))]
  exact hp
 have ahead:∀ p,underB p t = true → 0 < p.size → ∃ id,renG T s t p = some (id,true):=fun p hu hp0 => by
  obtain ⟨id,hid⟩:=R.par p hu hp0
  refine ⟨id,stay p id hid (fun e => ?_) ?_⟩
  ·rw [e,R.nu] at hu;cases hu
  ·cases hup:underB s p with
   | false => rfl
   | true =>
    obtain ⟨r,hr⟩:=under_tail hup
    obtain ⟨r2,hr2⟩:=under_tail hu
    have:underB s t = true:=tail_under (r:=r ++ 47 :: r2) (by rw [hr2,hr];simp)
    rw [R.nu] at this;cases this
 intro q p hq hu hp0
 unfold renG at hq
 by_cases a:q = t ∨ (underB t q = true ∧ (T (movedP t s q)).isSome = true)
 ·rcases a with rfl | ⟨a1,a2⟩
  ·exact ahead p hu hp0
  ·obtain ⟨r,hr⟩:=under_tail a1
   obtain ⟨r2,hr2⟩:=under_tail hu
   have hsd:∃ j,T s = some (j,true):=C _ s a2 (moved_under a1) R.sp
   have hmd:=moved_data (t:=s) hr
   have hcmp:p.size < t.size ∨ p = t ∨ ∃ r3,p.data.toList = t.data.toList ++ 47 :: r3:=by
    by_cases c:p.size < t.size
    ·exact .inl c
    ·right
     have hpre:t.data.toList <+: p.data.toList:=List.prefix_of_prefix_length_le (l₃:=q.data.toList) ⟨47 :: r,hr.symm⟩ ⟨47 :: r2,hr2.symm⟩ (by rw [bytesLen,bytesLen];omega)
     obtain ⟨x,hx⟩:=hpre
     cases x with
     | nil => exact .inl (bytes_ext (by rw [← hx];simp))
     | cons b x =>
      right
      rw [hr2,← hx,List.append_assoc] at hr
      have h4:=List.append_cancel_left hr
      simp only [List.cons_append,List.cons.injEq] at h4
      exact ⟨x,by rw [← hx,h4.1]⟩
   rcases hcmp with c | rfl | ⟨r3,h3⟩
   ·have hpt:underB p t = true:=by
     refine (underB_iff p t).2 (List.prefix_of_prefix_length_le (l₃:=q.data.toList) ⟨r2,by rw [hr2];simp⟩ ⟨47 :: r,hr.symm⟩ ?_)
     rw [List.length_append,bytesLen,bytesLen]
     show p.size + 1 ≤ t.size
     omega
    exact ahead p hpt hp0
   ·obtain ⟨j,hj⟩:=hsd
    refine ⟨j,?_⟩
    unfold renG
    rw [if_pos (.inl rfl),moved_self]
    exact hj
   ·have hp3:=moved_data (t:=s) h3
    have hup:underB (movedP t s p) (movedP t s q) = true:=by
     have h5:47 :: r = 47 :: r3 ++ 47 :: r2:=by
      rw [hr2,h3,List.append_assoc] at hr
      exact (List.append_cancel_left hr).symm
     refine tail_under (r:=r2) ?_
     rw [hmd,hp3,h5,List.append_assoc]
    have hms:0 < (movedP t s p).size:=by
     rw [← bytesLen,hp3,List.length_append,bytesLen]
     have:=R.sp
     omega
    obtain ⟨j,hj⟩:=C _ _ a2 hup hms
    refine ⟨j,?_⟩
    unfold renG
    rw [if_pos (.inr ⟨tail_under h3,by rw [hj];rfl⟩)]
    exact hj
 ·rw [if_neg a] at hq
  by_cases b:q = s ∨ ((T q).isSome = true ∧ underB s q = true)
  ·rw [if_pos b] at hq;cases hq
  ·rw [if_neg b] at hq
   obtain ⟨id,hid⟩:=C q p hq hu hp0
   refine ⟨id,stay p id hid (fun e => ?_) ?_⟩
   ·rw [e] at hu
    exact b (.inr ⟨hq,hu⟩)
   ·cases hup:underB s p with
    | false => rfl
    | true =>
     obtain ⟨r,hr⟩:=under_tail hup
     obtain ⟨r2,hr2⟩:=under_tail hu
     exact absurd (.inr ⟨hq,tail_under (r:=r ++ 47 :: r2) (by rw [hr2,hr];simp)⟩) b
theorem small_ren {T:TreeF} {s t:ByteArray} {i:Int} {d:Bool} (R:RenOk T s t i d) (hs:∀ q x,T q = some x → q.size ≤ 64):∀ q x,renG T s t q = some x → q.size ≤ 64:=by
 intro q x hq
 unfold renG at hq
 by_cases a:q = t ∨ (underB t q = true ∧ (T (movedP t s q)).isSome = true)
 ·rcases a with rfl | ⟨a1,a2⟩
  ·exact R.t64
  ·have h:=R.m64 _ a2 (moved_under a1)
   obtain ⟨r,hr⟩:=under_tail a1
   rw [show movedP s t (movedP t s q) = q from bytes_ext (by rw [moved_data (moved_data hr),hr])] at h
   exact h
 ·rw [if_neg a] at hq
  split at hq
  ·cases hq
  ·exact hs q x hq
end Go.Proofs.YtaonlcgneemimaaGreatDoor
namespace Go.Proofs.YtaonlcgneemimaaGreatDoor
open Go.RowKit
theorem step_dropG {P:Program} {ops:Array Oper} {o:Oper} {a:Act} {w:World} {K:Act → World → Prop} {Q:Exit → Act → World → Prop} {E:Prop} (hgd:o.guard = none) (m x:Operand) (t k:TypeId)
  (ho:o.op = .call { callee:=.builtin .delete,args:=#[m,x],argTypes:=#[t,k] }) (v1 v2:Value) (h1:a.eval m = v1) (h2:a.eval x = v2) (w':World) (hrun:∀ ty,(Builtin.delete_ #[t,k] ty #[v1,v2]).run P w = .ok (.tuple #[]) w') (h:K (a.put o.dst (.tuple #[])) w') :
  if Region.wanted o (yielded ops a.tmps) = true then Oper.wp P o a w K Q else E:=by
 subst h1
 subst h2
 have hw:Region.wanted o (yielded ops a.tmps) = true:=by simp [Region.wanted,hgd]
 rw [if_pos hw]
 unfold Oper.wp execOp
 simp only [ho,resolve,invoke,builtin,Sem.run_bind,Sem.run_pure,Result.andThen_ok,List.map_toArray,List.map_cons,List.map_nil,hrun]
 exact h
theorem MapX.dropG {α:Type} {P:Program} {k t e:TypeId} [DecidableEq α] {K:KeyKind P k α} {w:World} {b n:Nat} {f:α → Option Value} (h:MapX K w b n f) (ht:P.underlying t = some (.map k e)) {x:α} (hx:K.good x) :
  ∃ w',(∀ ty,(Builtin.delete_ #[t,k] ty #[.map (some b),K.enc x]).run P w = .ok (.tuple #[]) w') ∧ MapX K w' b (if (f x).isSome then n - 1 else n) (fput f x none) ∧ w.mapTurned w' b:=by
 obtain ⟨w',hrun,h1,h2⟩:=h.drop ht hx 0
 exact ⟨w',fun ty => hrun,h1,h2⟩
theorem MapX.pos {α:Type} {P:Program} {k:TypeId} {K:KeyKind P k α} {w:World} {b n:Nat} {f:α → Option Value} (h:MapX K w b n f) {x:α} (hx:K.good x) (hv:(f x).isSome = true):0 < n:=by
 obtain ⟨D,-,hs,hf⟩:=h
 obtain ⟨v,hv⟩:=Option.isSome_iff_exists.1 hv
 have:=((hf x hx).1 v hv).1
 cases D with
 | map es =>
  rw [← hs]
  cases es with
  | nil => cases this
  | cons p l =>
   show 0 < (p :: l).length
   simp
 | _ => cases this
theorem gmap_some {T:TreeF} {q:ByteArray}:(gmap T q).isSome = (T q).isSome:=by
 unfold gmap
 cases T q <;> rfl
theorem under_self (s:ByteArray):underB s s = false:=by
 cases h:underB s s with
 | false => rfl
 | true =>
  have:=underB_size h
  omega
def renC (T:TreeF) (t:ByteArray) (n m k:Nat):Nat:=if k = m ∧ (T t).isSome = true then n - 1 else n
theorem own_posG {w:World} {B e sz n:Nat} {v:Value} {xs:List Value} (h:w.ownsRow B e sz v n xs) (h0:0 < n):∃ (g cap:Nat) (cur:Array Value),v = .slice (some ⟨g,0,none⟩) n cap ∧ B ≤ g ∧ w.heap[g]? = some (.cells cur e (0,0)) ∧ n ≤ cap ∧ cap ≤ maxLen ∧ cur.size = cap * sz ∧ cur.toList.take (n * sz) = xs:=by
 rcases h.2 with ⟨_,h⟩ | h
 ·omega
 ·exact h
def NodeRow (w:World) (q:Nat) (T:TreeF) (L:List ByteArray):Prop:=q < w.heap.size ∧ (∃ arr,w.heap[q]? = some (.cells arr 168 (0,0))) ∧ ∀ j x,L[j]? = some x → w.cell? ⟨q,j * 3,none⟩ = some (.string x) ∧ w.cell? ⟨q,j * 3 + 1,none⟩ = some (.int .i64 ((T x).getD (0,false)).1) ∧ w.cell? ⟨q,j * 3 + 2,none⟩ = some (.bool ((T x).getD (0,false)).2)
theorem nodeRow_of {w w1 w2:World} {T:TreeF} {L:List ByteArray} {v:Value} {m:Nat} {ob:Option Nat} (h1:Below w.heap.size w w1) (ho:w2.ownsRow w.heap.size 168 3 v m (gnodes T L)) (hm:m = L.length) (h0:0 < m) (hg:w1.grownBy w2 ob) (hob:∀ k,ob = some k → w.heap.size ≤ k):∃ q cap,v = .slice (some ⟨q,0,none⟩) m cap ∧ m ≤ cap ∧ w.heap.size ≤ q ∧ Below w.heap.size w w2 ∧ NodeRow w2 q T L:=by
 have h2:Below w.heap.size w w2:=h1.grown hg h1.size hob
 obtain ⟨g,cap,cur,rfl,hb,hh,hn,hcm,hcs,ht⟩:=own_posG ho h0
 refine ⟨g,cap,rfl,hn,hb,h2,heap_lt hh,⟨_,hh⟩,fun j x hj => ?_⟩
 have hjl:=(List.getElem?_eq_some_iff.1 hj).1
 obtain ⟨k0,k1,k2⟩:=gnodes_get T L j x hj
 have c:∀ i,i < m * 3 → w2.cell? ⟨g,i,none⟩ = (gnodes T L)[i]?:=fun i hi => by
  rw [cellAt hh i,← ht,List.getElem?_take_of_lt hi,Array.getElem?_toList]
 exact ⟨(c _ (by omega)).trans k0,(c _ (by omega)).trans k1,(c _ (by omega)).trans k2⟩
theorem NodeRow.frame {w w':World} {q b:Nat} {T:TreeF} {L:List ByteArray} (h:NodeRow w q T L) (hf:Frame [b] w w') (hb:q ≠ b):NodeRow w' q T L:=by
 obtain ⟨h1,⟨arr,h2⟩,h3⟩:=h
 have hs:=hf.size
 have hh:=hf.heap h2 (by simpa using hb)
 refine ⟨by omega,⟨arr,hh⟩,fun j x hj => ?_⟩
 have c:∀ i,w'.cell? ⟨q,i,none⟩ = w.cell? ⟨q,i,none⟩:=fun i => by rw [cellAt hh,cellAt h2]
 rw [c,c,c]
 exact h3 j x hj
set_option maxRecDepth 100000 in
set_option maxHeartbeats 2000000 in
theorem rename_same (w:World) (a b n:Nat) (T:TreeF) (next:Int) (H:TreeG w a b n T next) (s t:ByteArray) (hs:s.size ≤ 1000000) (ht:t.size ≤ 1000000) (hn:n ≤ 100000) (hc:canRenG T s t = 0) (hst:s.toList = t.toList) :
  Calls Tryz.prog 65 #[.pointer (some ⟨a,0,none⟩),.string s,.string t] w fun e w' => e = .returned (.tuple #[.int .i64 (-1),.int .i64 0]) ∧ Below w.heap.size w w':=by
 have CD:=Lib.hid (canRename_g w a b n T next H s t hs ht hn)
 rw [hc] at CD
 have hsd:(s.toList == t.toList) = true:=by simpa using hst
 clear H hst
 go_enter Tryz.func65,Tryz.ntmps65
 go_wp2_with (go_at_call 52;with_reducible refine CD.out.mono ?_;rintro e1 w1 ⟨rfl,hq⟩;have Q1:=Lib.hid hq;clear hq)
 go_ret2
 exact ⟨rfl,Q1.out⟩
end Go.Proofs.YtaonlcgneemimaaGreatDoor
namespace Go.Proofs.YtaonlcgneemimaaGreatDoor
open Go.RowKit
theorem TreeG.ne1 {w:World} {a b n:Nat} {T:TreeF} {next:Int} (h:TreeG w a b n T next):1 ≠ a ∧ 1 ≠ b:=by
 obtain ⟨m,hm⟩:=h.glob
 constructor
 ·rintro rfl
  rw [cellAt h.cell] at hm
  simp at hm
 ·rintro rfl
  obtain ⟨es,cl,ho⟩:=h.map.obj
  unfold World.cell? at hm
  rw [ho] at hm
  simp at hm
theorem own_shapeG {w:World} {B e sz n:Nat} {v:Value} {xs:List Value} (h:w.ownsRow B e sz v n xs):∃ a cap,v = .slice a n cap:=by
 obtain ⟨-,⟨rfl,rfl⟩ | ⟨g,cap,cur,rfl,-⟩⟩:=h
 ·exact ⟨none,0,rfl⟩
 ·exact ⟨_,cap,rfl⟩
theorem ren_in {T:TreeF} {s t:ByteArray} {i:Int} {d:Bool} (R:RenOk T s t i d) {qs:List ByteArray} (U:UnderOf T s qs) {k:Nat} {x:ByteArray} (hx:(qs ++ [s])[k]? = some x) :
  InL T s x ∧ (T x).isSome = true ∧ s.size ≤ x.size ∧ (∀ y ∈ (qs ++ [s]).take k,InL T s y ∧ y ≠ x) ∧ (k < qs.length → underB s x = true) ∧ (qs.length ≤ k → x = s):=by
 have hall:∀ y ∈ qs ++ [s],InL T s y:=fun y hy => by
  rcases List.mem_append.1 hy with hy | hy
  ·exact .inr ((U.mem y).1 hy)
  ·simp only [List.mem_singleton] at hy
   exact .inl hy
 have hI:=hall x (List.mem_of_getElem? hx)
 have hnd:(qs ++ [s]).Nodup:=by
  rw [List.nodup_append]
  refine ⟨U.nodup,by simp,fun y hy z hz => ?_⟩
  simp only [List.mem_singleton] at hz
  subst hz
  rintro rfl
  have:=((U.mem _).1 hy).2
  rw [under_self] at this
  cases this
 refine ⟨hI,?_,?_,fun y hy => ⟨hall y (List.mem_of_mem_take hy),?_⟩,fun hk => ?_,fun hk => ?_⟩
 ·rcases hI with rfl | ⟨h,-⟩
  ·rw [R.Ts];rfl
  ·exact h
 ·rcases hI with rfl | ⟨-,h⟩
  ·exact Nat.le_refl _
  ·exact Nat.le_of_lt (underB_size h)
 ·rintro rfl
  obtain ⟨j,hj⟩:=List.mem_iff_getElem?.1 hy
  have hjk:j < k:=by
   have:=(List.getElem?_eq_some_iff.1 hj).1
   rw [List.length_take] at this
   omega
  rw [List.getElem?_take_of_lt hjk] at hj
  have:=(List.getElem?_inj (List.getElem?_eq_some_iff.1 hj).1 hnd).1 (hj.trans hx.symm)
  omega
 ·rw [List.getElem?_append_left hk] at hx
  exact ((U.mem x).1 (List.mem_of_getElem? hx)).2
 ·rw [List.getElem?_append_right hk] at hx
  cases e:k - qs.length with
  | zero => rw [e] at hx;simpa using hx.symm
  | succ j => rw [e] at hx;simp at hx
def RenI (w wr:World) (b n:Nat) (T:TreeF) (s t:ByteArray) (qs:List ByteArray) (q k:Nat):Prop :=
 Frame [b] w wr ∧ NodeRow wr q T (qs ++ [s]) ∧ w.heap.size ≤ q ∧ MapX KS wr b (renC T t n (qs.length + 1) k) (gmap (renL T s t ((qs ++ [s]).take k)))
set_option maxRecDepth 100000 in
set_option maxHeartbeats 8000000 in
theorem rename_ok (w:World) (a b n:Nat) (T:TreeF) (next:Int) (H:TreeG w a b n T next) (C:Closed T) (s t:ByteArray) (hs:s.size ≤ 1000000) (ht:t.size ≤ 1000000) (hn:n ≤ 64) (hc:canRenG T s t = 0) (hne:s.toList ≠ t.toList) :
  Calls Tryz.prog 65 #[.pointer (some ⟨a,0,none⟩),.string s,.string t] w fun e w' => e = .returned (.tuple #[.int .i64 (((T t).map (·.1)).getD (-1)),.int .i64 0]) ∧ TreeG w' a b (if (T t).isSome = true then n - 1 else n) (renG T s t) next ∧ Frame [b] w w':=by
 have HH:=Lib.hid H
 obtain ⟨i,d,R,-⟩:=renOk_of hc hne
 have HRN:=Lib.hid R
 have HCL:=Lib.hid C
 have CD:=Lib.hid (canRename_g w a b n T next H s t hs ht (by omega))
 rw [hc] at CD
 have hab:a ≠ b:=fun e => H.map.cells (e ▸ H.cell)
 have h1:=H.ne1
 have UN:=Lib.hid (fun W (hW:Below w.heap.size w W) => under_g W a b n T next (HH.out.below hW) s hs (by omega))
 have CA:Hid (∀ W,Below w.heap.size w W → W.cell? ⟨a,0,none⟩ = some (.map (some b))):=Lib.hid (fun W hW => cellAt (HH.out.below hW).cell 0)
 obtain ⟨ns,ni,nd,ok,hv⟩:=foundV (T:=T) t
 have LD:Hid (∀ W,Below w.heap.size w W → (Instr.lookup 166 (.map (some b)) (.string t) true).run Tryz.prog W = .ok (.tuple #[.agg #[.string ns,.int .i64 ni,.bool nd],.bool ok]) W):=Lib.hid (fun W hW => HH.out.lookup t ht ns ni nd ok hv.out.1 hv.out.2.1 W (hW.block b HH.out.map.lt))
 have LC:Hid (∀ W,Below w.heap.size w W → (Instr.lookup 166 (.map (some b)) (.string s) false).run Tryz.prog W = .ok (.agg #[.string s,.int .i64 i,.bool d]) W):=Lib.hid (fun W hW => by
  have h:=((HH.out.below hW).map.look Tryz.underlying166 (zero168 W) (x:=s) (KS_big hs)).2
  rw [show gmap T s = some (.agg #[.string s,.int .i64 i,.bool d]) by unfold gmap;rw [R.Ts];rfl] at h
  exact h)
 have hsd:(s.toList == t.toList) = false:=by simpa using hne
 have HS:=Lib.hid H.small
 obtain ⟨i0,hi,hz0,hz1,hz2⟩:=info_parts info168g
 obtain ⟨G,hG⟩:∃ G,Hid (G = ((T t).map (·.1)).getD (-1)):=⟨_,Lib.hid rfl⟩
 obtain ⟨N2,hN2⟩:∃ N2,Hid (N2 = if (T t).isSome = true then n - 1 else n):=⟨_,Lib.hid rfl⟩
 rw [← hG.out,← hN2.out]
 have LAST:Hid (∀ qs q wr,UnderOf T s qs → RenI w wr b n T s t qs q (qs.length + 1) → TreeG wr a b N2 (renG T s t) next ∧ Frame [b] w wr):=Lib.hid (fun qs q wr U h => by
  rw [hN2.out]
  obtain ⟨hF,-,-,hM⟩:=h
  have e:(qs ++ [s]).take (qs.length + 1) = qs ++ [s]:=List.take_of_length_le (by simp)
  rw [e,renL_all U] at hM
  refine ⟨⟨hF.heap HH.out.cell (by simpa using hab),?_,?_,small_ren HRN.out HS.out⟩,hF⟩
  ·unfold renC at hM
   simpa using hM
  ·obtain ⟨m,hm⟩:=HH.out.glob
   have hl:=World.block_lt_of_cell? w _ hm
   exact ⟨m,by rw [World.cell?_of_block (w:=w) (hF.block 1 hl (by simpa using h1.2))];exact hm⟩)
 clear H hne C R hc
 cases ok with
 | false =>
  have hGv:G = -1:=by rw [hG.out,hv.out.2.2.1 rfl];rfl
  go_enter Tryz.func65,Tryz.ntmps65
  go_wp2_with (first | (go_at_call 52;with_reducible refine CD.out.mono ?_;rintro e1 w1 ⟨rfl,hq⟩;have Q1:=Lib.hid hq;have ca:=CA.out w1 hq;have ld:=LD.out w1 hq;clear hq))
  go_cut [46,47,48] from 14 (fun s46 s47 s48 wc => ∃ (qs:List ByteArray) (q cap:Nat),Hid (UnderOf T s qs) ∧ qs.length ≤ n ∧ s46 = .slice (some ⟨q,0,none⟩) (qs.length + 1) cap ∧ s47 = .int .i64 ((qs.length:Int) + 1) ∧ s48 = .int .i64 0 ∧ Hid (w.heap.size ≤ q ∧ Below w.heap.size w wc ∧ NodeRow wc q T (qs ++ [s])))
  case first =>
   have B0:Hid (Below w.heap.size w (w1.alloc (.cells #[.string ns,.int .i64 ni,.bool nd] 168))):=Lib.hid (Q1.out.alloc Q1.out.size _)
   have lc0:=LC.out _ B0.out.drew
   go_region_held3 (fun W => W.cell? ⟨a,0,none⟩ = some (.map (some b))) (first | exact CA.out _ B0.out.drew | exact CA.out _ (B0.out.alloc B0.out.size _).drew | exact CA.out _ Q2.out | exact CA.out _ (Q2.out.alloc Q2.out.size _) | exact CA.out _ NR.out.2.1) (first | (go_at_call 99;with_reducible refine (UN.out _ (by first | exact B0.out.drew | exact (B0.out.alloc B0.out.size _).drew)).mono ?_;rintro e1 w2 ⟨v,qs,rfl,hU,hown,hqn,hq⟩;obtain ⟨ua,uk,huv⟩:=own_shapeG hown.1;subst huv;have HU:=Lib.hid hU;have Q2:Hid (Below w.heap.size w w2):=Lib.hid (by first | exact B0.out.drew.trans (hq.mono B0.out.drew.size) | exact (B0.out.alloc B0.out.size _).drew.trans (hq.mono (B0.out.alloc B0.out.size _).drew.size));have OW:Hid (w2.ownsRow w.heap.size 168 3 (.slice ua qs.length uk) qs.length (gnodes T qs)):=Lib.hid (own_mono hown.1 (by first | exact B0.out.drew.size | exact (B0.out.alloc B0.out.size _).drew.size));have lc2:=LC.out w2 Q2.out;(first | (have HE:Hid (w2.heap[w1.heap.size + 1]? = some (.cells #[.string s,.int .i64 i,.bool d] 168 (0,0))):=Lib.hid (by have h:=Below.heap hq (Nat.le_refl _) (heap_new (w1.alloc (.cells #[.string ns,.int .i64 ni,.bool nd] 168)) (.cells #[.string s,.int .i64 i,.bool d] 168));simpa using h)) | skip);clear hq hU hown) | (refine step_append_sl rfl _ _ 184 rfl w.heap.size 168 i0 _ 3 32 Tryz.underlying184 hi hz0 hz1 hz2 rfl (by decide) _ qs.length _ rfl (own_belowG OW.out (belowOne _ _)) _ 1 _ rfl (Sl.block' (heap_new w2 _) rfl (by simp [Value.oneCell']) (by decide) (by decide)) (by omega) (by decide) (by have:=Q2.out.size;first | omega | (simp;omega)) ?_;intro v3 w3 hown hgr _ _;obtain ⟨q,cap,hvv,-,hqw,hbw,hnr⟩:=nodeRow_of (T:=T) (L:=qs ++ [s]) (Q2.out.alloc Q2.out.size _) (by rw [gnodes_snoc T qs s i d HRN.out.Ts];exact hown) (by simp) (by omega) hgr (fun k hk => (OW.out.lt k hk).1);subst hvv;have NR:Hid (w.heap.size ≤ q ∧ Below w.heap.size w w3 ∧ NodeRow w3 q T (qs ++ [s])):=Lib.hid ⟨hqw,hbw,hnr⟩;clear hown hgr hqw hbw hnr) | (refine step_append_sl rfl _ _ 184 rfl w.heap.size 168 i0 _ 3 32 Tryz.underlying184 hi hz0 hz1 hz2 rfl (by decide) _ qs.length _ rfl OW.out _ 1 _ rfl (Sl.block' HE.out rfl (by simp [Value.oneCell']) (by decide) (by decide)) (by omega) (by decide) (by have:=Q2.out.size;first | omega | (simp;omega)) ?_;intro v3 w3 hown hgr _ _;obtain ⟨q,cap,hvv,-,hqw,hbw,hnr⟩:=nodeRow_of (T:=T) (L:=qs ++ [s]) Q2.out (by rw [gnodes_snoc T qs s i d HRN.out.Ts];exact hown) (by simp) (by omega) hgr (fun k hk => (OW.out.lt k hk).1);subst hvv;have NR:Hid (w.heap.size ≤ q ∧ Below w.heap.size w w3 ∧ NodeRow w3 q T (qs ++ [s])):=Lib.hid ⟨hqw,hbw,hnr⟩;clear hown hgr hqw hbw hnr))
   all_goals
    go_wp2_with fail
    go_meet
    case rel => exact ⟨qs,_,_,HU,hqn,rfl,by first | rfl | go_num,rfl,NR⟩
  case rest =>
   obtain ⟨qs,q,cap,HU,hqn,rfl,rfl,rfl,NR⟩:=hcut
   obtain ⟨m,hm⟩:∃ m,Hid (m = qs.length):=⟨_,Lib.hid rfl⟩
   rw [← hm.out] at hqn ⊢
   go_wp2_with fail
   go_loopw [48] (fun t48 wr => ∃ k:Nat,k ≤ m + 1 ∧ t48 = .int .i64 k ∧ Hid (RenI w wr b n T s t qs q k)) (fun i _ => m + 1 - (intOf i).toNat)
   case atStart => exact ⟨0,by omega,rfl,Lib.hid ⟨Frame.of_below NR.out.2.1 _,NR.out.2.2,NR.out.1,by rw [List.take_zero,renL_nil];exact keep_map HH.out.map NR.out.2.1⟩⟩
   case round =>
    obtain ⟨k,hk,rfl,hI⟩:=hrel
    by_cases hlt:k < m + 1
    ·obtain ⟨x,hx⟩:∃ x,(qs ++ [s])[k]? = some x:=⟨_,List.getElem?_eq_getElem (by rw [List.length_append,← hm.out];exact hlt)⟩
     obtain ⟨hF,hNR,hqw,hM⟩:=hI.out
     obtain ⟨hin,hxT,hxs,hdone,hxu,hxl⟩:=ren_in HRN.out HU.out hx
     obtain ⟨⟨xi,xd⟩,hTx⟩:=Option.isSome_iff_exists.1 hxT
     obtain ⟨c0,c1,c2⟩:=hNR.2.2 k x hx
     rw [hTx] at c1 c2
     simp only [Option.getD_some] at c1 c2
     have hx64:=HS.out x _ hTx
     have e1:(s.size:Int) ≤ x.size:=by omega
     have e2:¬ (9223372036854775807 < t.size + (x.size - s.size)):=by omega
     have dk:(k:Int) < (m:Int) + 1:=by omega
     obtain ⟨y,hy⟩:∃ y,t ++ x.extract s.size x.size = y:=⟨_,rfl⟩
     have HY:Hid (movedP s t x = y):=Lib.hid hy
     obtain ⟨hr1,hr2⟩:=renL_at HRN.out HCL.out hin hdone
     have hst:=renL_step HRN.out HCL.out hin hdone
     have htk:(qs ++ [s]).take (k + 1) = (qs ++ [s]).take k ++ [x]:=by rw [List.take_add_one,hx];rfl
     rw [hTx,HY.out,← htk] at hst
     rw [HY.out] at hr2
     have hrc:renC T t n (qs.length + 1) k = n:=by
      unfold renC
      rw [if_neg (fun h => by have:=hm.out;omega)]
     rw [hrc] at hM
     have hcnt:Hid ((if (T y).isSome = true then n - 1 else n - 1 + 1) = renC T t n (qs.length + 1) (k + 1)):=Lib.hid (by
      have hpos:=hM.pos (x:=x) (KS_big (by omega)) (by rw [gmap_some,hr1,hTx];rfl)
      unfold renC
      by_cases hkm:k < m
      ·have hn0:T y = none:=by rw [← HY.out];exact moved_none HRN.out HCL.out (hxu (by rw [← hm.out];exact hkm))
       rw [hn0,if_neg (by simp),if_neg (fun h => by have:=hm.out;omega)]
       omega
      ·have hxs2:=hxl (by rw [← hm.out];omega)
       have hyt:y = t:=by rw [← HY.out,hxs2,moved_self]
       rw [hyt]
       by_cases hts:(T t).isSome = true
       ·rw [if_pos hts,if_pos ⟨by have:=hm.out;omega,hts⟩]
       ·rw [if_neg hts,if_neg (fun h => hts h.2)]
        omega)
     have HM:=Lib.hid hM
     have HF:=Lib.hid hF
     have HNR:=Lib.hid hNR
     have HST:=Lib.hid hst
     have HR1:=Lib.hid hr1
     have HR2:=Lib.hid hr2
     have HTX:=Lib.hid hTx
     have ca:=hF.heap HH.out.cell (by simpa using hab)
     have HCA:=Lib.hid ca
     have ca0:=cellAt ca 0
     have hqs:q < wr.heap.size:=hNR.1
     clear hF hNR hM hin hxT hdone hxu hxl hTx hr1 hr2 hst htk hrc ca hx hI
     go_wp2_with fail
     have HN2:=Lib.hid (heap_new wr (.cells #[.string x,.int .i64 xi,.bool xd] 168))
     have HA2:=Lib.hid (heap_old HCA.out (.cells #[.string x,.int .i64 xi,.bool xd] 168))
     have hla:=heap_lt HCA.out
     have hlb:=HM.out.lt
     have hm2:MapX KS (wr.alloc (.cells #[.string x,.int .i64 xi,.bool xd] 168)).drew b n (gmap (renL T s t ((qs ++ [s]).take k))):=HM.out.same (Below.heap_alloc wr _ b hlb)
     have hgx:KS.good x:=KS_big (by omega)
     obtain ⟨w3,hrun3,hm3,ht3⟩:=hm2.dropG Tryz.underlying166 (x:=x) hgx
     have HR3:Hid (∀ ty,(Builtin.delete_ #[166,9] ty #[.map (some b),.string x]).run Tryz.prog (wr.alloc (.cells #[.string x,.int .i64 xi,.bool xd] 168)).drew = .ok (.tuple #[]) w3):=Lib.hid hrun3
     have HM3:=Lib.hid hm3
     have HT3:=Lib.hid ht3
     have HA3:=Lib.hid (turned_keep ht3 HA2.out hab)
     have HN3:=Lib.hid (turned_keep ht3 HN2.out (fun e => by omega))
     have HK:Hid (∀ W:World,W.heap[a]? = some (.cells #[.map (some b),.int .i64 next] 170 (0,0)) → ∀ y:ByteArray,W.heap[wr.heap.size]? = some (.cells #[.string y,.int .i64 xi,.bool xd] 168 (0,0)) → W.cell? ⟨a,0,none⟩ = some (.map (some b)) ∧ W.cell? ⟨wr.heap.size,0,none⟩ = some (.string y) ∧ W.cell? ⟨wr.heap.size,1,none⟩ = some (.int .i64 xi) ∧ W.cell? ⟨wr.heap.size,2,none⟩ = some (.bool xd)):=Lib.hid (fun W h1 y h2 => ⟨cellAt h1 0,cellAt h2 0,cellAt h2 1,cellAt h2 2⟩)
     clear hm2 hrun3 hm3 ht3
     go_region_held3 (fun W => W.cell? ⟨a,0,none⟩ = some (.map (some b)) ∧ W.cell? ⟨wr.heap.size,0,none⟩ = some (.string x) ∧ W.cell? ⟨wr.heap.size,1,none⟩ = some (.int .i64 xi) ∧ W.cell? ⟨wr.heap.size,2,none⟩ = some (.bool xd)) (first | exact HK.out _ HA2.out _ HN2.out | exact HK.out _ HA3.out _ HN3.out) (first | (refine step_dropG rfl _ _ 166 9 rfl _ _ rfl rfl w3 HR3.out ?_))
     have k3:=HK.out _ HA3.out _ HN3.out
     obtain ⟨k30,k31,k32,k33⟩:=k3
     have f3:=frozenAt HN3.out 0
     go_wp2_with fail
     have hne:a ≠ wr.heap.size:=by omega
     have hbn:b ≠ wr.heap.size:=by omega
     have HA4:Hid ((w3.setCell ⟨wr.heap.size,0,none⟩ (.string y)).heap[a]? = some (.cells #[.map (some b),.int .i64 next] 170 (0,0))):=Lib.hid ((heap_set_ne _ hne).trans HA3.out)
     have HN4:Hid ((w3.setCell ⟨wr.heap.size,0,none⟩ (.string y)).heap[wr.heap.size]? = some (.cells #[.string y,.int .i64 xi,.bool xd] 168 (0,0))):=Lib.hid (by simpa using setAt HN3.out 0 (.string y))
     have hm4:MapX KS (w3.setCell ⟨wr.heap.size,0,none⟩ (.string y)).drew b (n - 1) (gmap (gset (renL T s t ((qs ++ [s]).take k)) x none)):=by
      have h:=HM3.out
      rw [gmap_some,HR1.out,HTX.out] at h
      simp only [Option.isSome_some,if_true] at h
      rw [gmap_drop] at h
      exact h.same (heap_set_ne _ hbn)
     have hgy:KS.good y:=by
      show y.size ≤ maxLen
      rw [← hy,ByteArray.size_append,ByteArray.size_extract]
      unfold maxLen
      omega
     obtain ⟨w5,hrun5,hm5,ht5⟩:=hm4.store Tryz.underlying166 (by unfold maxLen;omega) (x:=y) hgy (.agg #[.string y,.int .i64 xi,.bool xd])
     have hr5:(Instr.mapUpdate 166 (.map (some b)) (.string y) (.agg #[.string y,.int .i64 xi,.bool xd])).run Tryz.prog (w3.setCell ⟨wr.heap.size,0,none⟩ (.string y)).drew = .ok () w5:=hrun5
     have HM5:=Lib.hid hm5
     have HT5:=Lib.hid ht5
     have HA5:=Lib.hid (turned_keep ht5 HA4.out hab)
     have HN5:=Lib.hid (turned_keep ht5 HN4.out (fun e => hbn e.symm))
     clear hm4 hrun5 hm5 ht5
     go_region_held3 (fun W => W.cell? ⟨a,0,none⟩ = some (.map (some b)) ∧ W.cell? ⟨wr.heap.size,0,none⟩ = some (.string y) ∧ W.cell? ⟨wr.heap.size,1,none⟩ = some (.int .i64 xi) ∧ W.cell? ⟨wr.heap.size,2,none⟩ = some (.bool xd)) (first | exact HK.out _ HA4.out _ HN4.out | exact HK.out _ HA5.out _ HN5.out) (first | fail)
     go_wp2_with fail
     have hbs:=HF.out.size
     have hF5:Frame [b] w w5:=(((((HF.out.alloc _).drew.turned HT3.out (.inl (by simp))).setCell (p:=⟨wr.heap.size,0,none⟩) (.inr (by simpa using hbs)) (.string y)).drew).turned HT5.out (.inl (by simp)))
     have hF5r:Frame [b] wr w5:=((((((Frame.refl [b] wr).alloc _).drew.turned HT3.out (.inl (by simp))).setCell (p:=⟨wr.heap.size,0,none⟩) (.inr (Nat.le_refl _)) (.string y)).drew).turned HT5.out (.inl (by simp)))
     refine ⟨⟨k + 1,by omega,by go_num,Lib.hid ⟨hF5,HNR.out.frame hF5r (by have:=HH.out.map.lt;omega),hqw,?_⟩⟩,by simp [intOf];omega⟩
     have h:=HM5.out
     rw [gmap_some,HR2.out,gmap_set,HST.out,hcnt.out] at h
     exact h
    ·have hke:k = m + 1:=by omega
     subst hke
     have HFIN:=Lib.hid (LAST.out qs q wr HU.out (by rw [← hm.out];exact hI.out))
     have dk:¬ (((m + 1:Nat):Int) < (m:Int) + 1):=by omega
     go_wp2
     go_ret2
     exact ⟨by first | rw [hGv] | rfl,HFIN.out.1,HFIN.out.2⟩
 | true =>
  have hGv:G = ni:=by rw [hG.out,hv.out.2.2.2.1 rfl];rfl
  go_enter Tryz.func65,Tryz.ntmps65
  go_wp2_with (first | (go_at_call 52;with_reducible refine CD.out.mono ?_;rintro e1 w1 ⟨rfl,hq⟩;have Q1:=Lib.hid hq;have ca:=CA.out w1 hq;have ld:=LD.out w1 hq;clear hq))
  go_cut [46,47,48] from 14 (fun s46 s47 s48 wc => ∃ (qs:List ByteArray) (q cap:Nat),Hid (UnderOf T s qs) ∧ qs.length ≤ n ∧ s46 = .slice (some ⟨q,0,none⟩) (qs.length + 1) cap ∧ s47 = .int .i64 ((qs.length:Int) + 1) ∧ s48 = .int .i64 0 ∧ Hid (w.heap.size ≤ q ∧ Below w.heap.size w wc ∧ NodeRow wc q T (qs ++ [s])))
  case first =>
   have B0:Hid (Below w.heap.size w (w1.alloc (.cells #[.string ns,.int .i64 ni,.bool nd] 168))):=Lib.hid (Q1.out.alloc Q1.out.size _)
   have lc0:=LC.out _ B0.out.drew
   go_region_held3 (fun W => W.cell? ⟨a,0,none⟩ = some (.map (some b))) (first | exact CA.out _ B0.out.drew | exact CA.out _ (B0.out.alloc B0.out.size _).drew | exact CA.out _ Q2.out | exact CA.out _ (Q2.out.alloc Q2.out.size _) | exact CA.out _ NR.out.2.1) (first | (go_at_call 99;with_reducible refine (UN.out _ (by first | exact B0.out.drew | exact (B0.out.alloc B0.out.size _).drew)).mono ?_;rintro e1 w2 ⟨v,qs,rfl,hU,hown,hqn,hq⟩;obtain ⟨ua,uk,huv⟩:=own_shapeG hown.1;subst huv;have HU:=Lib.hid hU;have Q2:Hid (Below w.heap.size w w2):=Lib.hid (by first | exact B0.out.drew.trans (hq.mono B0.out.drew.size) | exact (B0.out.alloc B0.out.size _).drew.trans (hq.mono (B0.out.alloc B0.out.size _).drew.size));have OW:Hid (w2.ownsRow w.heap.size 168 3 (.slice ua qs.length uk) qs.length (gnodes T qs)):=Lib.hid (own_mono hown.1 (by first | exact B0.out.drew.size | exact (B0.out.alloc B0.out.size _).drew.size));have lc2:=LC.out w2 Q2.out;(first | (have HE:Hid (w2.heap[w1.heap.size + 1]? = some (.cells #[.string s,.int .i64 i,.bool d] 168 (0,0))):=Lib.hid (by have h:=Below.heap hq (Nat.le_refl _) (heap_new (w1.alloc (.cells #[.string ns,.int .i64 ni,.bool nd] 168)) (.cells #[.string s,.int .i64 i,.bool d] 168));simpa using h)) | skip);clear hq hU hown) | (refine step_append_sl rfl _ _ 184 rfl w.heap.size 168 i0 _ 3 32 Tryz.underlying184 hi hz0 hz1 hz2 rfl (by decide) _ qs.length _ rfl (own_belowG OW.out (belowOne _ _)) _ 1 _ rfl (Sl.block' (heap_new w2 _) rfl (by simp [Value.oneCell']) (by decide) (by decide)) (by omega) (by decide) (by have:=Q2.out.size;first | omega | (simp;omega)) ?_;intro v3 w3 hown hgr _ _;obtain ⟨q,cap,hvv,-,hqw,hbw,hnr⟩:=nodeRow_of (T:=T) (L:=qs ++ [s]) (Q2.out.alloc Q2.out.size _) (by rw [gnodes_snoc T qs s i d HRN.out.Ts];exact hown) (by simp) (by omega) hgr (fun k hk => (OW.out.lt k hk).1);subst hvv;have NR:Hid (w.heap.size ≤ q ∧ Below w.heap.size w w3 ∧ NodeRow w3 q T (qs ++ [s])):=Lib.hid ⟨hqw,hbw,hnr⟩;clear hown hgr hqw hbw hnr) | (refine step_append_sl rfl _ _ 184 rfl w.heap.size 168 i0 _ 3 32 Tryz.underlying184 hi hz0 hz1 hz2 rfl (by decide) _ qs.length _ rfl OW.out _ 1 _ rfl (Sl.block' HE.out rfl (by simp [Value.oneCell']) (by decide) (by decide)) (by omega) (by decide) (by have:=Q2.out.size;first | omega | (simp;omega)) ?_;intro v3 w3 hown hgr _ _;obtain ⟨q,cap,hvv,-,hqw,hbw,hnr⟩:=nodeRow_of (T:=T) (L:=qs ++ [s]) Q2.out (by rw [gnodes_snoc T qs s i d HRN.out.Ts];exact hown) (by simp) (by omega) hgr (fun k hk => (OW.out.lt k hk).1);subst hvv;have NR:Hid (w.heap.size ≤ q ∧ Below w.heap.size w w3 ∧ NodeRow w3 q T (qs ++ [s])):=Lib.hid ⟨hqw,hbw,hnr⟩;clear hown hgr hqw hbw hnr))
   all_goals
    go_wp2_with fail
    go_meet
    case rel => exact ⟨qs,_,_,HU,hqn,rfl,by first | rfl | go_num,rfl,NR⟩
  case rest =>
   obtain ⟨qs,q,cap,HU,hqn,rfl,rfl,rfl,NR⟩:=hcut
   obtain ⟨m,hm⟩:∃ m,Hid (m = qs.length):=⟨_,Lib.hid rfl⟩
   rw [← hm.out] at hqn ⊢
   go_wp2_with fail
   go_loopw [48] (fun t48 wr => ∃ k:Nat,k ≤ m + 1 ∧ t48 = .int .i64 k ∧ Hid (RenI w wr b n T s t qs q k)) (fun i _ => m + 1 - (intOf i).toNat)
   case atStart => exact ⟨0,by omega,rfl,Lib.hid ⟨Frame.of_below NR.out.2.1 _,NR.out.2.2,NR.out.1,by rw [List.take_zero,renL_nil];exact keep_map HH.out.map NR.out.2.1⟩⟩
   case round =>
    obtain ⟨k,hk,rfl,hI⟩:=hrel
    by_cases hlt:k < m + 1
    ·obtain ⟨x,hx⟩:∃ x,(qs ++ [s])[k]? = some x:=⟨_,List.getElem?_eq_getElem (by rw [List.length_append,← hm.out];exact hlt)⟩
     obtain ⟨hF,hNR,hqw,hM⟩:=hI.out
     obtain ⟨hin,hxT,hxs,hdone,hxu,hxl⟩:=ren_in HRN.out HU.out hx
     obtain ⟨⟨xi,xd⟩,hTx⟩:=Option.isSome_iff_exists.1 hxT
     obtain ⟨c0,c1,c2⟩:=hNR.2.2 k x hx
     rw [hTx] at c1 c2
     simp only [Option.getD_some] at c1 c2
     have hx64:=HS.out x _ hTx
     have e1:(s.size:Int) ≤ x.size:=by omega
     have e2:¬ (9223372036854775807 < t.size + (x.size - s.size)):=by omega
     have dk:(k:Int) < (m:Int) + 1:=by omega
     obtain ⟨y,hy⟩:∃ y,t ++ x.extract s.size x.size = y:=⟨_,rfl⟩
     have HY:Hid (movedP s t x = y):=Lib.hid hy
     obtain ⟨hr1,hr2⟩:=renL_at HRN.out HCL.out hin hdone
     have hst:=renL_step HRN.out HCL.out hin hdone
     have htk:(qs ++ [s]).take (k + 1) = (qs ++ [s]).take k ++ [x]:=by rw [List.take_add_one,hx];rfl
     rw [hTx,HY.out,← htk] at hst
     rw [HY.out] at hr2
     have hrc:renC T t n (qs.length + 1) k = n:=by
      unfold renC
      rw [if_neg (fun h => by have:=hm.out;omega)]
     rw [hrc] at hM
     have hcnt:Hid ((if (T y).isSome = true then n - 1 else n - 1 + 1) = renC T t n (qs.length + 1) (k + 1)):=Lib.hid (by
      have hpos:=hM.pos (x:=x) (KS_big (by omega)) (by rw [gmap_some,hr1,hTx];rfl)
      unfold renC
      by_cases hkm:k < m
      ·have hn0:T y = none:=by rw [← HY.out];exact moved_none HRN.out HCL.out (hxu (by rw [← hm.out];exact hkm))
       rw [hn0,if_neg (by simp),if_neg (fun h => by have:=hm.out;omega)]
       omega
      ·have hxs2:=hxl (by rw [← hm.out];omega)
       have hyt:y = t:=by rw [← HY.out,hxs2,moved_self]
       rw [hyt]
       by_cases hts:(T t).isSome = true
       ·rw [if_pos hts,if_pos ⟨by have:=hm.out;omega,hts⟩]
       ·rw [if_neg hts,if_neg (fun h => hts h.2)]
        omega)
     have HM:=Lib.hid hM
     have HF:=Lib.hid hF
     have HNR:=Lib.hid hNR
     have HST:=Lib.hid hst
     have HR1:=Lib.hid hr1
     have HR2:=Lib.hid hr2
     have HTX:=Lib.hid hTx
     have ca:=hF.heap HH.out.cell (by simpa using hab)
     have HCA:=Lib.hid ca
     have ca0:=cellAt ca 0
     have hqs:q < wr.heap.size:=hNR.1
     clear hF hNR hM hin hxT hdone hxu hxl hTx hr1 hr2 hst htk hrc ca hx hI
     go_wp2_with fail
     have HN2:=Lib.hid (heap_new wr (.cells #[.string x,.int .i64 xi,.bool xd] 168))
     have HA2:=Lib.hid (heap_old HCA.out (.cells #[.string x,.int .i64 xi,.bool xd] 168))
     have hla:=heap_lt HCA.out
     have hlb:=HM.out.lt
     have hm2:MapX KS (wr.alloc (.cells #[.string x,.int .i64 xi,.bool xd] 168)).drew b n (gmap (renL T s t ((qs ++ [s]).take k))):=HM.out.same (Below.heap_alloc wr _ b hlb)
     have hgx:KS.good x:=KS_big (by omega)
     obtain ⟨w3,hrun3,hm3,ht3⟩:=hm2.dropG Tryz.underlying166 (x:=x) hgx
     have HR3:Hid (∀ ty,(Builtin.delete_ #[166,9] ty #[.map (some b),.string x]).run Tryz.prog (wr.alloc (.cells #[.string x,.int .i64 xi,.bool xd] 168)).drew = .ok (.tuple #[]) w3):=Lib.hid hrun3
     have HM3:=Lib.hid hm3
     have HT3:=Lib.hid ht3
     have HA3:=Lib.hid (turned_keep ht3 HA2.out hab)
     have HN3:=Lib.hid (turned_keep ht3 HN2.out (fun e => by omega))
     have HK:Hid (∀ W:World,W.heap[a]? = some (.cells #[.map (some b),.int .i64 next] 170 (0,0)) → ∀ y:ByteArray,W.heap[wr.heap.size]? = some (.cells #[.string y,.int .i64 xi,.bool xd] 168 (0,0)) → W.cell? ⟨a,0,none⟩ = some (.map (some b)) ∧ W.cell? ⟨wr.heap.size,0,none⟩ = some (.string y) ∧ W.cell? ⟨wr.heap.size,1,none⟩ = some (.int .i64 xi) ∧ W.cell? ⟨wr.heap.size,2,none⟩ = some (.bool xd)):=Lib.hid (fun W h1 y h2 => ⟨cellAt h1 0,cellAt h2 0,cellAt h2 1,cellAt h2 2⟩)
     clear hm2 hrun3 hm3 ht3
     go_region_held3 (fun W => W.cell? ⟨a,0,none⟩ = some (.map (some b)) ∧ W.cell? ⟨wr.heap.size,0,none⟩ = some (.string x) ∧ W.cell? ⟨wr.heap.size,1,none⟩ = some (.int .i64 xi) ∧ W.cell? ⟨wr.heap.size,2,none⟩ = some (.bool xd)) (first | exact HK.out _ HA2.out _ HN2.out | exact HK.out _ HA3.out _ HN3.out) (first | (refine step_dropG rfl _ _ 166 9 rfl _ _ rfl rfl w3 HR3.out ?_))
     have k3:=HK.out _ HA3.out _ HN3.out
     obtain ⟨k30,k31,k32,k33⟩:=k3
     have f3:=frozenAt HN3.out 0
     go_wp2_with fail
     have hne:a ≠ wr.heap.size:=by omega
     have hbn:b ≠ wr.heap.size:=by omega
     have HA4:Hid ((w3.setCell ⟨wr.heap.size,0,none⟩ (.string y)).heap[a]? = some (.cells #[.map (some b),.int .i64 next] 170 (0,0))):=Lib.hid ((heap_set_ne _ hne).trans HA3.out)
     have HN4:Hid ((w3.setCell ⟨wr.heap.size,0,none⟩ (.string y)).heap[wr.heap.size]? = some (.cells #[.string y,.int .i64 xi,.bool xd] 168 (0,0))):=Lib.hid (by simpa using setAt HN3.out 0 (.string y))
     have hm4:MapX KS (w3.setCell ⟨wr.heap.size,0,none⟩ (.string y)).drew b (n - 1) (gmap (gset (renL T s t ((qs ++ [s]).take k)) x none)):=by
      have h:=HM3.out
      rw [gmap_some,HR1.out,HTX.out] at h
      simp only [Option.isSome_some,if_true] at h
      rw [gmap_drop] at h
      exact h.same (heap_set_ne _ hbn)
     have hgy:KS.good y:=by
      show y.size ≤ maxLen
      rw [← hy,ByteArray.size_append,ByteArray.size_extract]
      unfold maxLen
      omega
     obtain ⟨w5,hrun5,hm5,ht5⟩:=hm4.store Tryz.underlying166 (by unfold maxLen;omega) (x:=y) hgy (.agg #[.string y,.int .i64 xi,.bool xd])
     have hr5:(Instr.mapUpdate 166 (.map (some b)) (.string y) (.agg #[.string y,.int .i64 xi,.bool xd])).run Tryz.prog (w3.setCell ⟨wr.heap.size,0,none⟩ (.string y)).drew = .ok () w5:=hrun5
     have HM5:=Lib.hid hm5
     have HT5:=Lib.hid ht5
     have HA5:=Lib.hid (turned_keep ht5 HA4.out hab)
     have HN5:=Lib.hid (turned_keep ht5 HN4.out (fun e => hbn e.symm))
     clear hm4 hrun5 hm5 ht5
     go_region_held3 (fun W => W.cell? ⟨a,0,none⟩ = some (.map (some b)) ∧ W.cell? ⟨wr.heap.size,0,none⟩ = some (.string y) ∧ W.cell? ⟨wr.heap.size,1,none⟩ = some (.int .i64 xi) ∧ W.cell? ⟨wr.heap.size,2,none⟩ = some (.bool xd)) (first | exact HK.out _ HA4.out _ HN4.out | exact HK.out _ HA5.out _ HN5.out) (first | fail)
     go_wp2_with fail
     have hbs:=HF.out.size
     have hF5:Frame [b] w w5:=(((((HF.out.alloc _).drew.turned HT3.out (.inl (by simp))).setCell (p:=⟨wr.heap.size,0,none⟩) (.inr (by simpa using hbs)) (.string y)).drew).turned HT5.out (.inl (by simp)))
     have hF5r:Frame [b] wr w5:=((((((Frame.refl [b] wr).alloc _).drew.turned HT3.out (.inl (by simp))).setCell (p:=⟨wr.heap.size,0,none⟩) (.inr (Nat.le_refl _)) (.string y)).drew).turned HT5.out (.inl (by simp)))
     refine ⟨⟨k + 1,by omega,by go_num,Lib.hid ⟨hF5,HNR.out.frame hF5r (by have:=HH.out.map.lt;omega),hqw,?_⟩⟩,by simp [intOf];omega⟩
     have h:=HM5.out
     rw [gmap_some,HR2.out,gmap_set,HST.out,hcnt.out] at h
     exact h
    ·have hke:k = m + 1:=by omega
     subst hke
     have HFIN:=Lib.hid (LAST.out qs q wr HU.out (by rw [← hm.out];exact hI.out))
     have dk:¬ (((m + 1:Nat):Int) < (m:Int) + 1):=by omega
     go_wp2
     go_ret2
     exact ⟨by first | rw [hGv] | rfl,HFIN.out.1,HFIN.out.2⟩
end Go.Proofs.YtaonlcgneemimaaGreatDoor
namespace Go.Proofs.YtaonlcgneemimaaGreatDoor
open Go.RowKit
def fullG (T:TreeF) (s:ByteArray):Prop:=∃ q,(T q).isSome = true ∧ underB s q = true
open Classical in
noncomputable def canDropG (T:TreeF) (s:ByteArray) (dir:Bool):Int :=
 if (lookG T s).2.2 ≠ 0 then (lookG T s).2.2
 else if (lookG T s).2.1 = true ∧ dir = false then 6
 else if (lookG T s).2.1 = false ∧ dir = true then 7
 else if s.toList = [47] ∨ fullG T s then 8
 else 0
theorem under_full (w:World) (a b n:Nat) (T:TreeF) (next:Int) (H:TreeG w a b n T next) (s:ByteArray) (hs:s.size ≤ 1000000) (hn:n ≤ 100000) (hf:fullG T s) :
  Calls Tryz.prog 99 #[.pointer (some ⟨a,0,none⟩),.string s] w fun e w' => ∃ u m k,e = .returned (.slice u (m + 1) k) ∧ m + 1 ≤ n ∧ Below w.heap.size w w':=by
 refine (under_g w a b n T next H s hs hn).mono ?_
 rintro e w' ⟨v,qs,rfl,hU,hown,hqn,hq⟩
 obtain ⟨u,k,rfl⟩:=own_shapeG hown.1
 obtain ⟨q,hq1⟩:=hf
 have:=List.length_pos_iff.2 (List.ne_nil_of_mem ((hU.mem q).2 hq1))
 exact ⟨u,qs.length - 1,k,by rw [Nat.sub_add_cancel this],by omega,hq⟩
theorem under_empty (w:World) (a b n:Nat) (T:TreeF) (next:Int) (H:TreeG w a b n T next) (s:ByteArray) (hs:s.size ≤ 1000000) (hn:n ≤ 100000) (hf:¬ fullG T s) :
  Calls Tryz.prog 99 #[.pointer (some ⟨a,0,none⟩),.string s] w fun e w' => e = .returned (.slice none 0 0) ∧ Below w.heap.size w w':=by
 refine (under_g w a b n T next H s hs hn).mono ?_
 rintro e w' ⟨v,qs,rfl,hU,hown,hqn,hq⟩
 have:qs = []:=by
  rcases qs with _ | ⟨q,l⟩
  ·rfl
  ·exact absurd ⟨q,(hU.mem q).1 (by simp)⟩ hf
 subst this
 rcases hown.2 with rfl | h
 ·exact ⟨rfl,hq⟩
 ·simp at h
set_option maxRecDepth 100000 in
set_option maxHeartbeats 4000000 in
theorem canDrop_g (w:World) (a b n:Nat) (T:TreeF) (next:Int) (H:TreeG w a b n T next) (s:ByteArray) (hs:s.size ≤ 1000000) (hn:n ≤ 100000) (dir:Bool) :
  Calls Tryz.prog 53 #[.pointer (some ⟨a,0,none⟩),.string s,.bool dir] w fun e w' => e = .returned (.int .i64 (canDropG T s dir)) ∧ Below w.heap.size w w':=by
 have HH:=Lib.hid H
 have LK:=Lib.hid (look_g w a b n T next H s hs)
 have UF:=Lib.hid (fun W (hW:Below w.heap.size w W) (hf:fullG T s) => under_full W a b n T next (HH.out.below hW) s hs hn hf)
 have UE:=Lib.hid (fun W (hW:Below w.heap.size w W) (hf:¬ fullG T s) => under_empty W a b n T next (HH.out.below hW) s hs hn hf)
 obtain ⟨ri,rd,re,hR⟩:∃ ri rd re,lookG T s = (ri,rd,re):=⟨_,_,_,rfl⟩
 obtain ⟨C,hC⟩:∃ C,C = canDropG T s dir:=⟨_,rfl⟩
 rw [← hC]
 unfold canDropG at hC
 rw [hR] at hC LK
 simp only at hC
 clear H hR
 by_cases hre:re ≠ 0
 ·rw [if_pos hre] at hC
  subst hC
  have d1:(C != 0) = true:=by simpa using hre
  have d2:(C == 0) = false:=by simpa using hre
  go_enter Tryz.func53,Tryz.ntmps53
  go_wp2_with (go_at_call 87;with_reducible refine LK.out.mono ?_;rintro e1 w1 ⟨rfl,hq⟩;have Q1:=Lib.hid hq;clear hq;unfold lookR)
  go_ret
  exact ⟨rfl,Q1.out⟩
 have hre:re = 0:=by simpa using hre
 subst hre
 rw [if_neg (by simp)] at hC
 by_cases h6:rd = true ∧ dir = false
 ·rw [if_pos h6] at hC
  obtain ⟨rfl,rfl⟩:=h6
  subst hC
  go_enter Tryz.func53,Tryz.ntmps53
  go_wp2_with (go_at_call 87;with_reducible refine LK.out.mono ?_;rintro e1 w1 ⟨rfl,hq⟩;have Q1:=Lib.hid hq;clear hq;unfold lookR)
  go_ret
  exact ⟨rfl,Q1.out⟩
 rw [if_neg h6] at hC
 by_cases h7:rd = false ∧ dir = true
 ·rw [if_pos h7] at hC
  obtain ⟨rfl,rfl⟩:=h7
  subst hC
  go_enter Tryz.func53,Tryz.ntmps53
  go_wp2_with (go_at_call 87;with_reducible refine LK.out.mono ?_;rintro e1 w1 ⟨rfl,hq⟩;have Q1:=Lib.hid hq;clear hq;unfold lookR)
  go_ret
  exact ⟨rfl,Q1.out⟩
 rw [if_neg h7] at hC
 have hdd:dir = rd:=by
  cases dir <;> cases rd <;> simp_all
 subst hdd
 clear h6 h7
 by_cases hro:s.toList = [47]
 ·rw [if_pos (.inl hro)] at hC
  subst hC
  have d1:(s.toList == [47]) = true:=by simpa using hro
  clear hro
  cases dir
  all_goals
   go_enter Tryz.func53,Tryz.ntmps53
   go_wp2_with (go_at_call 87;with_reducible refine LK.out.mono ?_;rintro e1 w1 ⟨rfl,hq⟩;have Q1:=Lib.hid hq;clear hq;unfold lookR)
   go_ret
   exact ⟨rfl,Q1.out⟩
 have dro:(s.toList == [47]) = false:=by simpa using hro
 by_cases hf:fullG T s
 ·rw [if_pos (.inr hf)] at hC
  subst hC
  have HF:=Lib.hid hf
  clear hro hf
  cases dir
  all_goals
   go_enter Tryz.func53,Tryz.ntmps53
   go_wp2_with (first | (go_at_call 87;with_reducible refine LK.out.mono ?_;rintro e1 w1 ⟨rfl,hq⟩;have Q1:=Lib.hid hq;clear hq;unfold lookR) | (go_at_call 99;with_reducible refine (UF.out w1 Q1.out HF.out).mono ?_;rintro e1 w2 ⟨u,m,k,rfl,hmn,hq⟩;have Q2:=Lib.hid (Q1.out.trans (hq.mono Q1.out.size));clear hq))
   go_ret
   exact ⟨rfl,Q2.out⟩
 ·rw [if_neg (fun h => h.elim hro hf)] at hC
  subst hC
  have HF:=Lib.hid hf
  clear hro hf
  cases dir
  all_goals
   go_enter Tryz.func53,Tryz.ntmps53
   go_wp2_with (first | (go_at_call 87;with_reducible refine LK.out.mono ?_;rintro e1 w1 ⟨rfl,hq⟩;have Q1:=Lib.hid hq;clear hq;unfold lookR) | (go_at_call 99;with_reducible refine (UE.out w1 Q1.out HF.out).mono ?_;rintro e1 w2 ⟨rfl,hq⟩;have Q2:=Lib.hid (Q1.out.trans (hq.mono Q1.out.size));clear hq))
   go_ret
   exact ⟨rfl,Q2.out⟩
theorem canDrop_zero {T:TreeF} {s:ByteArray} {dir:Bool} (h:canDropG T s dir = 0):(∃ id,T s = some (id,dir)) ∧ ∀ q,(T q).isSome = true → underB s q = false:=by
 unfold canDropG at h
 obtain ⟨ri,rd,re,hR⟩:∃ ri rd re,lookG T s = (ri,rd,re):=⟨_,_,_,rfl⟩
 rw [hR] at h
 simp only at h
 split at h
 ·rename_i h1
  exact absurd h h1
 ·rename_i h1
  have h1:re = 0:=by simpa using h1
  subst h1
  split at h
  ·cases h
  ·rename_i h2
   split at h
   ·cases h
   ·rename_i h3
    split at h
    ·cases h
    ·rename_i h4
     simp only [not_or] at h4
     have hdd:dir = rd:=by cases dir <;> cases rd <;> simp_all
     rw [hdd]
     refine ⟨⟨ri,look_node hR h4.1⟩,fun q hq => ?_⟩
     cases hu:underB s q with
     | false => rfl
     | true => exact absurd ⟨q,hq,hu⟩ h4.2
end Go.Proofs.YtaonlcgneemimaaGreatDoor
namespace Go.Proofs.YtaonlcgneemimaaGreatDoor
open Go.RowKit
set_option maxRecDepth 100000 in
set_option maxHeartbeats 4000000 in
theorem drop_ok (w:World) (a b n:Nat) (T:TreeF) (next:Int) (H:TreeG w a b n T next) (s:ByteArray) (hs:s.size ≤ 1000000) (hn:n ≤ 100000) (dir:Bool) (hc:canDropG T s dir = 0) :
  Calls Tryz.prog 66 #[.pointer (some ⟨a,0,none⟩),.string s,.bool dir] w fun e w' => e = .returned (.tuple #[.int .i64 ((T s).getD (0,false)).1,.int .i64 0]) ∧ TreeG w' a b (n - 1) (gset T s none) next ∧ Frame [b] w w':=by
 have HH:=Lib.hid H
 obtain ⟨⟨id,hT⟩,-⟩:=canDrop_zero hc
 have CD:=Lib.hid (canDrop_g w a b n T next H s hs hn dir)
 rw [hc] at CD
 have hab:a ≠ b:=fun e => H.map.cells (e ▸ H.cell)
 have h1:=H.ne1
 have hg:=KS_big hs
 have hTm:gmap T s = some (.agg #[.string s,.int .i64 id,.bool dir]):=by unfold gmap;rw [hT];rfl
 have LU:Hid (∀ W,Below w.heap.size w W → W.cell? ⟨a,0,none⟩ = some (.map (some b)) ∧ (Instr.lookup 166 (.map (some b)) (.string s) false).run Tryz.prog W = .ok (.agg #[.string s,.int .i64 id,.bool dir]) W):=Lib.hid (fun W hW => by
  refine ⟨cellAt (HH.out.below hW).cell 0,?_⟩
  have h:=((HH.out.below hW).map.look Tryz.underlying166 (zero168 W) (x:=s) (KS_big hs)).2
  rw [hTm] at h
  exact h)
 have hfd:∀ w,(Instr.field 168 (.agg #[.string s,.int .i64 id,.bool dir]) 1).run Tryz.prog w = .ok (.int .i64 id) w:=fun _ => by kernel_rfl
 have HGS:=Lib.hid hg
 have HTM:=Lib.hid hTm
 have HSM:Hid (∀ q x,gset T s none q = some x → q.size ≤ 64):=Lib.hid (fun q x hq => by
  unfold gset at hq
  split at hq
  ·cases hq
  ·exact HH.out.small q x hq)
 rw [hT]
 simp only [Option.getD_some]
 clear H hT hg hTm hc
 go_enter Tryz.func66,Tryz.ntmps66
 go_wp2_with (first | (go_at_call 53;with_reducible refine CD.out.mono ?_;rintro e1 w1 ⟨rfl,hq⟩;have Q1:=Lib.hid hq;have hlu:=LU.out w1 hq;obtain ⟨l1,l2⟩:=hlu;clear hq) | (at_delete;refine wpx_drop _ rfl _ _ 166 9 rfl KS 168 Tryz.underlying166 b n (gmap T) rfl (keep_map HH.out.map Q1.out) s HGS.out rfl ?_;intro w2 hm2 ht2;have HM2:=Lib.hid hm2;have HT2:=Lib.hid ht2;clear hm2 ht2))
 go_ret2
 have hFr:Frame [b] w w2:=(Frame.of_below Q1.out [b]).turned HT2.out (.inl (by simp))
 refine ⟨rfl,⟨turned_keep HT2.out (HH.out.below Q1.out).cell hab,?_,?_,HSM.out⟩,hFr⟩
 ·have h:=HM2.out
  rw [HTM.out] at h
  simp only [Option.isSome_some,if_true] at h
  rw [gmap_drop] at h
  exact h
 ·obtain ⟨m,hm⟩:=HH.out.glob
  have hl:=World.block_lt_of_cell? w _ hm
  exact ⟨m,by rw [World.cell?_of_block (w:=w) (hFr.block 1 hl (by simpa using h1.2))];exact hm⟩
set_option maxHeartbeats 2000000 in
theorem newTree_g (w:World) (hg:∃ m,w.cell? ⟨1,0,none⟩ = some (.int .i64 m)) :
  Calls Tryz.prog 48 #[] w fun e w' => e = .returned (.pointer (some ⟨w.heap.size + 1,0,none⟩)) ∧ TreeG w' (w.heap.size + 1) w.heap.size 0 (fun _ => none) 1 ∧ Below w.heap.size w w' ∧ w'.heap.size = w.heap.size + 2:=by
 have HG:=Lib.hid hg
 clear hg
 have hmk:=fun t w => run_makeMap (P:=Tryz.prog) t w
 go_enter Tryz.func48,Tryz.ntmps48
 go_wp2
 go_ret
 have hb:Below w.heap.size w ((w.alloc (.map #[] 0)).alloc (.cells #[.map (some w.heap.size),.int .i64 1] 170)):=((Below.refl _ _).alloc (Nat.le_refl _) _).alloc (by simp) _
 refine ⟨rfl,⟨?_,?_,?_,fun s id h => by simp at h⟩,hb,by simp⟩
 ·have:=heap_new (w.alloc (.map #[] 0)) (.cells #[.map (some w.heap.size),.int .i64 1] 170)
  simpa using this
 ·have h:=(MapX.made KS w).same (w':=(w.alloc (.map #[] 0)).alloc (.cells #[.map (some w.heap.size),.int .i64 1] 170)) ((heap_old (heap_new w _) _).trans (heap_new w _).symm)
  have e:gmap (fun _ => none) = fun _ => none:=by funext x;rfl
  rw [e]
  exact h
 ·obtain ⟨m,hm⟩:=HG.out
  exact ⟨m,(hb.cell (p:=⟨1,0,none⟩) (World.block_lt_of_cell? w _ hm)).trans hm⟩
set_option maxRecDepth 100000 in
set_option maxHeartbeats 2000000 in
theorem copyTree_g (w:World) (a b n:Nat) (T:TreeF) (next:Int) (H:TreeG w a b n T next) :
  Calls Tryz.prog 84 #[.pointer (some ⟨a,0,none⟩)] w fun e w' => e = .returned (.pointer (some ⟨w.heap.size + 1,0,none⟩)) ∧ TreeG w' (w.heap.size + 1) w.heap.size n T next ∧ Below w.heap.size w w' ∧ w'.heap.size = w.heap.size + 2:=by
 have HH:=Lib.hid H
 obtain ⟨es,cl,hob⟩:=H.map.obj
 have HOB:=Lib.hid hob
 have hlt:=heap_lt H.cell
 have HK:Hid (∀ W:World,W.heap[a]? = w.heap[a]? → W.cell? ⟨a,0,none⟩ = some (.map (some b)) ∧ W.cell? ⟨a,1,none⟩ = some (.int .i64 next)):=Lib.hid (fun W hW => by
  have h:=hW.trans H.cell
  exact ⟨cellAt h 0,cellAt h 1⟩)
 clear H hob
 go_enter Tryz.func84,Tryz.ntmps84
 go_wp2_with fail
 go_region_held3 (fun W => W.cell? ⟨a,0,none⟩ = some (.map (some b)) ∧ W.cell? ⟨a,1,none⟩ = some (.int .i64 next)) (first | exact HK.out _ rfl | exact HK.out _ (hk1 hlt _) | exact HK.out _ (hk2 hlt _ _)) (first | (go_at_call 133;refine (mapClone166_any w.drew b es cl HOB.out).mono ?_;rintro e w1 ⟨rfl,rfl⟩))
 go_wp2_with fail
 go_ret
 have hb:Below w.heap.size w ((w.alloc (.map es cl)).alloc (.cells #[.map (some w.heap.size),.int .i64 next] 170)).drew:=(((Below.refl _ _).alloc (Nat.le_refl _) _).alloc (by simp) _).drew
 refine ⟨rfl,⟨?_,?_,?_,HH.out.small⟩,hb,by simp [World.drew]⟩
 ·have:=heap_new (w.alloc (.map es cl)) (.cells #[.map (some w.heap.size),.int .i64 next] 170)
  rw [show w.heap.size + 1 = (w.alloc (.map es cl)).heap.size by simp]
  exact this
 ·exact (HH.out.map.cloned HOB.out).same ((heap_old (heap_new w (.map es cl)) _).trans (heap_new w (.map es cl)).symm)
 ·obtain ⟨m,hm⟩:=HH.out.glob
  exact ⟨m,(hb.cell (p:=⟨1,0,none⟩) (World.block_lt_of_cell? w _ hm)).trans hm⟩
end Go.Proofs.YtaonlcgneemimaaGreatDoor
