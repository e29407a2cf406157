/- TopBatches: the contracts of U3, AS7, AS8, U5, K5, U6, S3, S4; no condition. -/
import Derived.Test.YtaonlcgneemimaaGreatDoorB13
import Derived.Test.YtaonlcgneemimaaGreatDoorB21
import Derived.Test.YtaonlcgneemimaaGreatDoorB17
import Derived.Test.YtaonlcgneemimaaGreatDoorB20
import Derived.BigRegion
import Derived.OrdersHeld
namespace Go.Proofs.YtaonlcgneemimaaGreatDoor
open Go.RowKit
theorem info73:(Tryz.prog.info? 73).map (fun i => (i.zero,i.size,i.bytes)) = some (some (.pointer none),1,8):=by kernel_rfl
end Go.Proofs.YtaonlcgneemimaaGreatDoor
namespace Go.Proofs.YtaonlcgneemimaaGreatDoor
open Go.RowKit
structure AbsG where
 T:TreeF
 n:Nat
 next:Int
 S:Int → Option BodyA
def AbsG.new:AbsG:=⟨fun _ => none,0,1,fun _ => none⟩
structure AbsG.ok (x:AbsG) (K:Nat):Prop where
 closed:Closed x.T
 n64:x.n ≤ 64
 next1:1 ≤ x.next ∧ x.next ≤ 100000
 ids:∀ q id d,x.T q = some (id,d) → 1 ≤ id ∧ id < x.next
 inj:∀ q q' id d d',x.T q = some (id,d) → x.T q' = some (id,d') → q = q'
 body:∀ q id,x.T q = some (id,false) → ∃ bd,x.S id = some bd
 held:∀ id bd,x.S id = some bd → bd.may ∧ bd.parts.length ≤ K
theorem AbsG.new_ok (K:Nat):AbsG.new.ok K:=⟨closed_new,by decide,by decide,(fun q id d h => by cases h),(fun q q' id d d' h => by cases h),(fun q id h => by cases h),(fun id bd h => by cases h)⟩
theorem AbsG.ok.mono {x:AbsG} {K K':Nat} (h:x.ok K) (hk:K ≤ K'):x.ok K':=⟨h.closed,h.n64,h.next1,h.ids,h.inj,h.body,fun id bd hS => ⟨(h.held id bd hS).1,Nat.le_trans (h.held id bd hS).2 hk⟩⟩
def AbsG.bodyAt (x:AbsG) (id:Int):BodyA:=(x.S id).getD ⟨0,[]⟩
noncomputable def stepG (x:AbsG) (i:ItemA):AbsG :=
 if i.op = 1 then ⟨gset x.T i.path (some (x.next,false)),x.n + 1,x.next + 1,bset x.S x.next (some ⟨0,[]⟩)⟩
 else if i.op = 2 then ⟨gset x.T i.path (some (x.next,true)),x.n + 1,x.next + 1,x.S⟩
 else if i.op = 3 then ⟨x.T,x.n,x.next,bset x.S (fileG x.T i.path).1 (some (writeB (x.bodyAt (fileG x.T i.path).1) i.off i.parts))⟩
 else if i.op = 4 then ⟨x.T,x.n,x.next,bset x.S (fileG x.T i.path).1 (some (truncB (x.bodyAt (fileG x.T i.path).1) i.size))⟩
 else if i.op = 5 then ⟨ren2T x.T i.path i.to,ren2N x.T x.n i.path i.to,x.next,bset x.S (goneG x.T i.path i.to) none⟩
 else if i.op = 6 ∨ i.op = 7 then ⟨gset x.T i.path none,x.n - 1,x.next,bset x.S ((x.T i.path).getD (0,false)).1 none⟩
 else x
structure OkG (x:AbsG) (K:Nat) (i:ItemA):Prop where
 check:checkG x.T x.n i.op i.path i.to i.off i.size 0 = 0
 path:i.path.size ≤ 1000000
 tt:i.to.size ≤ 1000000
 fits:∀ p ∈ i.parts,p.fits
 room:i.op = 3 → i.off + sumLen i.parts ≤ 1099511627776
 few:K + i.parts.length + 1 ≤ 10000
 next:x.next < 100000
theorem file_node {T:TreeF} {p:ByteArray} (h:(fileG T p).2 = 0):∃ id,fileG T p = (id,0) ∧ T p = some (id,false):=by
 obtain ⟨ri,rd,re,hR⟩:∃ ri rd re,lookG T p = (ri,rd,re):=⟨_,_,_,rfl⟩
 unfold fileG at h ⊢
 rw [hR] at h ⊢
 simp only at h ⊢
 by_cases c:re = 0 ∧ rd = true
 ·rw [if_pos c] at h
  cases h
 ·rw [if_neg c] at h ⊢
  have h:re = 0:=h
  subst h
  have hrd:rd = false:=by simpa using c
  subst hrd
  refine ⟨ri,rfl,look_node hR (fun hr => ?_)⟩
  unfold lookG at hR
  have hs:splitP p = some []:=by unfold splitP;rw [if_pos hr]
  rw [hs] at hR
  simp [lookW] at hR
theorem writeG_zero {T:TreeF} {p:ByteArray} {off:Int} {dn:Nat} (h:writeG T p off dn = 0):(∃ id,fileG T p = (id,0) ∧ T p = some (id,false)) ∧ 0 ≤ off ∧ dn ≤ 1024 ∧ off + dn ≤ 1099511627776:=by
 unfold writeG at h
 split at h
 ·rename_i h1
  exact absurd h h1
 ·rename_i h1
  split at h
  ·cases h
  ·rename_i h2
   split at h
   ·cases h
   ·rename_i h3
    simp only [not_or] at h3
    exact ⟨file_node (by simpa using h1),by omega,by omega,by omega⟩
theorem truncG_zero {T:TreeF} {p:ByteArray} {size:Int} (h:truncG T p size = 0):(∃ id,fileG T p = (id,0) ∧ T p = some (id,false)) ∧ 0 ≤ size ∧ size ≤ 1099511627776:=by
 unfold truncG at h
 split at h
 ·cases h
 ·rename_i h1
  refine ⟨file_node h,?_⟩
  by_cases c:size < 0 ∨ 1099511627776 < size
  ·exact absurd ⟨h,c⟩ h1
  ·simp only [not_or] at c
   omega
theorem ren_src {T:TreeF} {s t:ByteArray} {i:Int} {d:Bool} (R:RenOk T s t i d) {q:ByteArray} {v:Int × Bool} (h:renG T s t q = some v):∃ q0,T q0 = some v ∧ q0 ≠ t ∧ ((InL T s q0 ∧ q = movedP s t q0) ∨ (¬ InL T s q0 ∧ q = q0)):=by
 have tl:¬ InL T s t:=fun h => by
  rcases h with e | ⟨-,e⟩
  ·exact R.ne e
  ·rw [R.nu] at e;cases e
 unfold renG at h
 by_cases a:q = t ∨ (underB t q = true ∧ (T (movedP t s q)).isSome = true)
 ·rw [if_pos a] at h
  have hI:InL T s (movedP t s q) ∧ q = movedP s t (movedP t s q):=by
   rcases a with rfl | ⟨a1,a2⟩
   ·rw [moved_self]
    exact ⟨.inl rfl,(moved_self _ _).symm⟩
   ·refine ⟨.inr ⟨a2,moved_under a1⟩,?_⟩
    obtain ⟨r,hr⟩:=under_tail a1
    exact bytes_ext (by rw [moved_data (moved_data hr),hr])
  exact ⟨_,h,fun e => tl (e ▸ hI.1),.inl hI⟩
 ·rw [if_neg a] at h
  by_cases b:q = s ∨ ((T q).isSome = true ∧ underB s q = true)
  ·rw [if_pos b] at h;cases h
  ·rw [if_neg b] at h
   exact ⟨q,h,fun e => a (.inl e),.inr ⟨b,rfl⟩⟩
theorem goneG_not {T:TreeF} {s t:ByteArray} {i:Int} {d:Bool} {next:Int} (R:RenOk T s t i d) (hne:s.toList ≠ t.toList) (ids:∀ q id d,T q = some (id,d) → 1 ≤ id ∧ id < next) (inj:∀ q q' id d d',T q = some (id,d) → T q' = some (id,d') → q = q') {q0:ByteArray} {id:Int} {e:Bool} (h:T q0 = some (id,e)) (hq:q0 ≠ t):id ≠ goneG T s t:=by
 unfold goneG
 rw [if_neg hne]
 cases hT:T t with
 | none =>
  have:=(ids _ _ _ h).1
  show id ≠ -1
  omega
 | some x =>
  rintro rfl
  exact hq (inj _ _ _ _ _ h (show T t = some (x.1,x.2) from hT))
theorem bset_ne {S:Int → Option BodyA} {id k:Int} {v:Option BodyA} (h:k ≠ id):bset S id v k = S k:=by
 unfold bset
 rw [if_neg h]
theorem bset_eq {S:Int → Option BodyA} {id:Int} {v:Option BodyA}:bset S id v id = v:=by
 unfold bset
 rw [if_pos rfl]
theorem gset_eq {T:TreeF} {s:ByteArray} {v:Option (Int × Bool)}:gset T s v s = v:=by
 unfold gset
 rw [if_pos rfl]
theorem gset_ne {T:TreeF} {s q:ByteArray} {v:Option (Int × Bool)} (h:q ≠ s):gset T s v q = T q:=by
 unfold gset
 rw [if_neg h]
theorem make_ok' {x:AbsG} {K:Nat} (h:x.ok K) {p:ByteArray} (hc:canG x.T x.n p = 0) (hn:x.next < 100000) (d:Bool) {S':Int → Option BodyA} (hb:d = false → S' x.next = some ⟨0,[]⟩) (hs:∀ id,id ≠ x.next → S' id = x.S id) (hh:∀ bd,S' x.next = some bd → bd.may ∧ bd.parts.length ≤ K):AbsG.ok ⟨gset x.T p (some (x.next,d)),x.n + 1,x.next + 1,S'⟩ K:=by
 have h64:=(canG_zero hc).2
 have hn1:=h.next1
 refine ⟨closed_make h.closed hc,by show x.n + 1 ≤ 64;omega,by show 1 ≤ x.next + 1 ∧ x.next + 1 ≤ 100000;omega,fun q id e hq => ?_,fun q q' id e e' hq hq' => ?_,fun q id hq => ?_,fun id bd hS => ?_⟩
 ·have hq:gset x.T p (some (x.next,d)) q = some (id,e):=hq
  show 1 ≤ id ∧ id < x.next + 1
  by_cases c:q = p
  ·subst c
   rw [show gset x.T q (some (x.next,d)) q = _ from gset_eq] at hq
   cases hq
   omega
  ·rw [show gset x.T p (some (x.next,d)) q = _ from gset_ne c] at hq
   have:=h.ids q id e hq
   omega
 ·have hq:gset x.T p (some (x.next,d)) q = some (id,e):=hq
  have hq':gset x.T p (some (x.next,d)) q' = some (id,e'):=hq'
  by_cases c:q = p
  ·by_cases c':q' = p
   ·rw [c,c']
   ·exfalso
    rw [c,show gset x.T p (some (x.next,d)) p = _ from gset_eq] at hq
    rw [show gset x.T p (some (x.next,d)) q' = _ from gset_ne c'] at hq'
    cases hq
    have:=(h.ids _ _ _ hq').2
    omega
  ·rw [show gset x.T p (some (x.next,d)) q = _ from gset_ne c] at hq
   by_cases c':q' = p
   ·exfalso
    rw [c',show gset x.T p (some (x.next,d)) p = _ from gset_eq] at hq'
    cases hq'
    have:=(h.ids _ _ _ hq).2
    omega
   ·rw [show gset x.T p (some (x.next,d)) q' = _ from gset_ne c'] at hq'
    exact h.inj q q' id e e' hq hq'
 ·have hq:gset x.T p (some (x.next,d)) q = some (id,false):=hq
  by_cases c:q = p
  ·subst c
   rw [show gset x.T q (some (x.next,d)) q = _ from gset_eq] at hq
   cases hq
   exact ⟨_,hb rfl⟩
  ·rw [show gset x.T p (some (x.next,d)) q = _ from gset_ne c] at hq
   have:=(h.ids _ _ _ hq).2
   obtain ⟨bd,hbd⟩:=h.body q id hq
   exact ⟨bd,(hs id (by omega)).trans hbd⟩
 ·by_cases c:id = x.next
  ·subst c
   exact hh bd hS
  ·exact h.held id bd ((hs id c).symm.trans hS)
theorem put_ok {x:AbsG} {K K':Nat} (h:x.ok K) (hk:K ≤ K') {id:Int} {bd:BodyA} (hm:bd.may) (hl:bd.parts.length ≤ K'):AbsG.ok ⟨x.T,x.n,x.next,bset x.S id (some bd)⟩ K':=by
 refine ⟨h.closed,h.n64,h.next1,h.ids,h.inj,fun q k hq => ?_,fun k b hS => ?_⟩
 ·by_cases c:k = id
  ·subst c
   exact ⟨bd,bset_eq⟩
  ·obtain ⟨b,hb⟩:=h.body q k hq
   exact ⟨b,(bset_ne c).trans hb⟩
 ·have hS:bset x.S id (some bd) k = some b:=hS
  by_cases c:k = id
  ·subst c
   rw [show bset x.S k (some bd) k = _ from bset_eq] at hS
   cases hS
   exact ⟨hm,hl⟩
  ·rw [show bset x.S id (some bd) k = _ from bset_ne c] at hS
   exact ⟨(h.held k b hS).1,Nat.le_trans (h.held k b hS).2 hk⟩
theorem del_held {x:AbsG} {K:Nat} (h:x.ok K) {g:Int}:∀ id bd,bset x.S g none id = some bd → bd.may ∧ bd.parts.length ≤ K:=fun id bd hS => by
 by_cases c:id = g
 ·subst c
  rw [bset_eq] at hS
  cases hS
 ·rw [bset_ne c] at hS
  exact h.held id bd hS
theorem stepG_ok {x:AbsG} {K:Nat} {i:ItemA} (h:x.ok K) (hi:OkG x K i):(stepG x i).ok (K + i.parts.length + 1):=by
 have hk:K ≤ K + i.parts.length + 1:=by omega
 have hc:=hi.check
 unfold checkG at hc
 unfold stepG
 by_cases o1:i.op = 1
 ·rw [if_pos (.inl o1)] at hc
  rw [if_pos o1]
  exact (make_ok' h hc hi.next false (fun _ => bset_eq) (fun id hid => bset_ne hid) (fun bd hb => by rw [bset_eq] at hb;cases hb;exact ⟨⟨by decide,by decide,trivial⟩,Nat.zero_le _⟩)).mono hk
 by_cases o2:i.op = 2
 ·rw [if_pos (.inr o2)] at hc
  rw [if_neg o1,if_pos o2]
  exact (make_ok' h hc hi.next true (fun e => by cases e) (fun id _ => rfl) (fun bd hb => h.held _ bd hb)).mono hk
 rw [if_neg (fun e => e.elim o1 o2)] at hc
 rw [if_neg o1,if_neg o2]
 by_cases o3:i.op = 3
 ·rw [if_pos o3] at hc
  rw [if_pos o3]
  obtain ⟨⟨id,hf,hT⟩,h0,-,-⟩:=writeG_zero hc
  obtain ⟨bd,hbd⟩:=h.body _ _ hT
  obtain ⟨hm,hl⟩:=h.held _ _ hbd
  have e:x.bodyAt (fileG x.T i.path).1 = bd:=by unfold AbsG.bodyAt;rw [hf,hbd];rfl
  rw [e]
  exact put_ok h hk (writeB_may hm hi.fits h0 (hi.room o3)) (by have:=writeB_few (off:=i.off) hm hi.fits;omega)
 rw [if_neg o3] at hc ⊢
 by_cases o4:i.op = 4
 ·rw [if_pos o4] at hc
  rw [if_pos o4]
  obtain ⟨⟨id,hf,hT⟩,h0,h1⟩:=truncG_zero hc
  obtain ⟨bd,hbd⟩:=h.body _ _ hT
  obtain ⟨hm,hl⟩:=h.held _ _ hbd
  have e:x.bodyAt (fileG x.T i.path).1 = bd:=by unfold AbsG.bodyAt;rw [hf,hbd];rfl
  rw [e]
  exact put_ok h hk (truncB_may hm h0 h1) (by have:=truncB_few (b:=bd) (size:=i.size);omega)
 rw [if_neg o4] at hc ⊢
 by_cases o5:i.op = 5
 ·rw [if_pos o5] at hc
  rw [if_pos o5]
  refine AbsG.ok.mono (K:=K) ?_ hk
  by_cases hst:i.path.toList = i.to.toList
  ·have e1:ren2T x.T i.path i.to = x.T:=if_pos hst
   have e2:ren2N x.T x.n i.path i.to = x.n:=if_pos hst
   have e3:goneG x.T i.path i.to = -1:=if_pos hst
   rw [e1,e2,e3]
   refine ⟨h.closed,h.n64,h.next1,h.ids,h.inj,fun q k hq => ?_,del_held h⟩
   obtain ⟨b,hb⟩:=h.body q k hq
   have:=(h.ids _ _ _ hq).1
   exact ⟨b,(bset_ne (by omega)).trans hb⟩
  ·obtain ⟨j,d,R,-⟩:=renOk_of hc hst
   have e1:ren2T x.T i.path i.to = renG x.T i.path i.to:=if_neg hst
   rw [e1]
   refine ⟨closed_ren R h.closed,?_,h.next1,fun q id e hq => ?_,fun q q' id e e' hq hq' => ?_,fun q id hq => ?_,del_held h⟩
   ·show ren2N x.T x.n i.path i.to ≤ 64
    have:=h.n64
    unfold ren2N
    split
    ·exact this
    ·split <;> omega
   ·obtain ⟨q0,h1,-,-⟩:=ren_src R hq
    exact h.ids _ _ _ h1
   ·obtain ⟨q0,h1,-,h3⟩:=ren_src R hq
    obtain ⟨q1,h1',-,h3'⟩:=ren_src R hq'
    have:=h.inj _ _ _ _ _ h1 h1'
    subst this
    rcases h3 with ⟨h3,e3⟩ | ⟨h3,e3⟩ <;> rcases h3' with ⟨h4,e4⟩ | ⟨h4,e4⟩
    ·rw [e3,e4]
    ·exact absurd h3 h4
    ·exact absurd h4 h3
    ·rw [e3,e4]
   ·obtain ⟨q0,h1,h2,-⟩:=ren_src R hq
    obtain ⟨b,hb⟩:=h.body _ _ h1
    exact ⟨b,(bset_ne (goneG_not R hst h.ids h.inj h1 h2)).trans hb⟩
 rw [if_neg o5] at hc ⊢
 by_cases o67:i.op = 6 ∨ i.op = 7
 ·rw [if_pos o67]
  have hcd:∃ d,canDropG x.T i.path d = 0:=by
   rcases o67 with o | o
   ·rw [if_pos o] at hc
    exact ⟨_,hc⟩
   ·rw [if_neg (by omega),if_pos o] at hc
    exact ⟨_,hc⟩
  obtain ⟨d,hcd⟩:=hcd
  obtain ⟨⟨j,hT⟩,hu⟩:=canDrop_zero hcd
  have e:((x.T i.path).getD (0,false)).1 = j:=by rw [hT];rfl
  rw [e]
  refine AbsG.ok.mono (K:=K) ⟨closed_drop h.closed hu,by have:=h.n64;show x.n - 1 ≤ 64;omega,h.next1,fun q id e hq => ?_,fun q q' id e e' hq hq' => ?_,fun q id hq => ?_,del_held h⟩ hk
  ·have hq:gset x.T i.path none q = some (id,e):=hq
   by_cases c:q = i.path
   ·rw [c,show gset x.T i.path none i.path = _ from gset_eq] at hq;cases hq
   ·rw [show gset x.T i.path none q = _ from gset_ne c] at hq
    exact h.ids _ _ _ hq
  ·have hq:gset x.T i.path none q = some (id,e):=hq
   have hq':gset x.T i.path none q' = some (id,e'):=hq'
   by_cases c:q = i.path
   ·rw [c,show gset x.T i.path none i.path = _ from gset_eq] at hq;cases hq
   ·by_cases c':q' = i.path
    ·rw [c',show gset x.T i.path none i.path = _ from gset_eq] at hq';cases hq'
    ·rw [show gset x.T i.path none q = _ from gset_ne c] at hq
     rw [show gset x.T i.path none q' = _ from gset_ne c'] at hq'
     exact h.inj _ _ _ _ _ hq hq'
  ·have hq:gset x.T i.path none q = some (id,false):=hq
   by_cases c:q = i.path
   ·rw [c,show gset x.T i.path none i.path = _ from gset_eq] at hq;cases hq
   ·rw [show gset x.T i.path none q = _ from gset_ne c] at hq
    obtain ⟨b,hb⟩:=h.body _ _ hq
    refine ⟨b,(bset_ne (fun e => c ?_)).trans hb⟩
    rw [e] at hq
    exact h.inj _ _ _ _ _ hq hT
 ·rw [if_neg o67]
  exact h.mono hk
end Go.Proofs.YtaonlcgneemimaaGreatDoor
namespace Go.Proofs.YtaonlcgneemimaaGreatDoor
open Go.RowKit
def statG (x:AbsG) (p:ByteArray):(Int × Bool × Int) × Int:=if (lookG x.T p).2.2 ≠ 0 then ((0,false,0),(lookG x.T p).2.2) else (((lookG x.T p).1,(lookG x.T p).2.1,(x.bodyAt (lookG x.T p).1).size),0)
def statV (r:(Int × Bool × Int) × Int):Value:=.tuple #[.agg #[.int .i64 r.1.1,.bool r.1.2.1,.int .i64 r.1.2.2],.int .i64 r.2]
theorem lookW_id {T:TreeF} {lo hi:Int} (ids:∀ q id d,T q = some (id,d) → lo ≤ id ∧ id ≤ hi) (h0:lo ≤ 0 ∧ 0 ≤ hi):∀ (rest done:List ByteArray) (x:Int × Bool),lo ≤ x.1 ∧ x.1 ≤ hi → lo ≤ (lookW T done rest x).1 ∧ (lookW T done rest x).1 ≤ hi
 | [],_,x,hx => hx
 | p :: r,done,x,hx => by
  unfold lookW
  split
  ·cases hT:T (joinP (done ++ [p])) with
   | none => exact h0
   | some y => exact lookW_id ids h0 r (done ++ [p]) y (ids _ y.1 y.2 hT)
  ·exact h0
theorem lookG_id {T:TreeF} {lo hi:Int} (ids:∀ q id d,T q = some (id,d) → lo ≤ id ∧ id ≤ hi) (h0:lo ≤ 0 ∧ 0 ≤ hi) (p:ByteArray):lo ≤ (lookG T p).1 ∧ (lookG T p).1 ≤ hi:=by
 unfold lookG
 cases splitP p with
 | none => exact h0
 | some ps => exact lookW_id ids h0 ps [] (0,true) h0
set_option maxRecDepth 100000 in
set_option maxHeartbeats 4000000 in
theorem fstat_g (w:World) (s a b sm n nb:Nat) (x:AbsG) (g:Int → Option Value) (H:StateG w s a b sm n nb x.T x.next x.S g) (p:ByteArray) (hp:p.size ≤ 1000000) (hid:0 ≤ (lookG x.T p).1 ∧ (lookG x.T p).1 ≤ 4611686018427387904) :
  Calls Tryz.prog 44 #[.pointer (some ⟨s,0,none⟩),.string p] w fun e w' => e = .returned (statV (statG x p)) ∧ Below w.heap.size w w':=by
 have HB0:Hid (∀ o,Below w.heap.size w (w.alloc o)):=Lib.hid (fun o => (Below.refl _ _).alloc (Nat.le_refl _) _)
 have HL:=Lib.hid (fun w' (hb:Below w.heap.size w w') => look_g w' a b n x.T x.next (H.tree.below hb) p hp)
 obtain ⟨id,rd,re,hR⟩:∃ ri rd re,lookG x.T p = (ri,rd,re):=⟨_,_,_,rfl⟩
 rw [hR] at HL hid
 simp only at hid
 obtain ⟨bz,s',hbz,hgv⟩:∃ bz s',(x.bodyAt id).size = bz ∧ (g id).getD (.agg #[.int .i64 0,.slice none 0 0]) = .agg #[.int .i64 bz,s']:=by
  cases hS:x.S id with
  | none => exact ⟨0,_,by unfold AbsG.bodyAt;rw [hS];rfl,by rw [H.bodies.none id hS];rfl⟩
  | some bd =>
   obtain ⟨bv,hbv,hBV,-,-⟩:=H.bodies.held id bd hS
   obtain ⟨s',rfl,-⟩:=hBV
   exact ⟨bd.size,s',by unfold AbsG.bodyAt;rw [hS];rfl,by rw [hbv];rfl⟩
 have HLK:Hid (∀ W:World,W.heap[sm]? = w.heap[sm]? → (Instr.lookup 119 (.map (some sm)) (.int .i64 id) false).run Tryz.prog W = .ok (.agg #[.int .i64 bz,s']) W):=Lib.hid (fun W hW => by
  have h:=((H.bodies.map.same hW).look Tryz.underlying119 (zero100 W) (KI_good (x:=id) (by omega))).2
  rw [hgv] at h
  exact h)
 have hsml:=H.bodies.map.lt
 have hs0:=heap_lt H.cell
 have x0:(w.alloc (.cells #[.int .i64 0,.bool false,.int .i64 0] 54)).cell? ⟨s,0,none⟩ = some (.pointer (some ⟨a,0,none⟩)):=cellAt (heap_old H.cell _) 0
 have HC:=Lib.hid H.cell
 have hfd:∀ w:World,(Instr.field 100 (.agg #[.int .i64 bz,s']) 0).run Tryz.prog w = .ok (.int .i64 bz) w:=fun _ => by kernel_rfl
 clear H hgv
 by_cases hre:re ≠ 0
 ·have hv:statG x p = ((0,false,0),re):=by unfold statG;rw [hR];exact if_pos hre
  rw [hv]
  have d1:(re != 0) = true:=by simpa using hre
  have d2:(re == 0) = false:=by simpa using hre
  clear hR hv
  go_enter Tryz.func44,Tryz.ntmps44
  go_wp2_with (go_at_call 87;refine (HL.out _ (HB0.out _)).mono ?_;rintro e w1 ⟨rfl,hq⟩;have HQ:=Lib.hid ((HB0.out (.cells #[.int .i64 0,.bool false,.int .i64 0] 54)).trans (hq.mono (HB0.out _).size));have HN:=Lib.hid (Below.heap hq (Nat.le_refl _) (heap_new w (.cells #[.int .i64 0,.bool false,.int .i64 0] 54)));have n0:w1.cell? ⟨w.heap.size,0,none⟩ = some (.int .i64 0):=cellAt HN.out 0;have n1:w1.cell? ⟨w.heap.size,1,none⟩ = some (.bool false):=cellAt HN.out 1;have n2:w1.cell? ⟨w.heap.size,2,none⟩ = some (.int .i64 0):=cellAt HN.out 2;have f0:=frozenAt HN.out 0;have f1:=frozenAt HN.out 1;have f2:=frozenAt HN.out 2;clear hq;unfold lookR)
  have hF:=setAt (setAt (setAt HN.out 0 (.int .i64 0)) 1 (.bool false)) 2 (.int .i64 0)
  have j0:=cellAt hF 0
  have j1:=cellAt hF 1
  have j2:=cellAt hF 2
  simp at j0 j1 j2
  refine bodyPost_ret (v:=.tuple #[.agg #[.int .i64 0,.bool false,.int .i64 0],.int .i64 re]) (by simp [results,Tryz.results44,go_sem,j0,j1,j2]) rfl ?_
  exact ⟨rfl,((HQ.out.setCell (p:=⟨w.heap.size,0,none⟩) (Nat.le_refl _) _).setCell (p:=⟨w.heap.size,1,none⟩) (Nat.le_refl _) _).setCell (p:=⟨w.heap.size,2,none⟩) (Nat.le_refl _) _⟩
 ·have hre:re = 0:=by simpa using hre
  subst hre
  have hv:statG x p = ((id,rd,bz),0):=by unfold statG;rw [hR];simp [hbz]
  rw [hv]
  clear hR hv hbz
  go_enter Tryz.func44,Tryz.ntmps44
  go_wp2_with (go_at_call 87;refine (HL.out _ (HB0.out _)).mono ?_;rintro e w1 ⟨rfl,hq⟩;have HQ:=Lib.hid ((HB0.out (.cells #[.int .i64 0,.bool false,.int .i64 0] 54)).trans (hq.mono (HB0.out _).size));have x1:w1.cell? ⟨s,1,none⟩ = some (.map (some sm)):=cellAt (Below.heap HQ.out (Nat.le_refl _) HC.out) 1;have l1:=HLK.out w1 (HQ.out.block sm hsml);have HN:=Lib.hid (Below.heap hq (Nat.le_refl _) (heap_new w (.cells #[.int .i64 0,.bool false,.int .i64 0] 54)));have n0:w1.cell? ⟨w.heap.size,0,none⟩ = some (.int .i64 0):=cellAt HN.out 0;have n1:w1.cell? ⟨w.heap.size,1,none⟩ = some (.bool false):=cellAt HN.out 1;have n2:w1.cell? ⟨w.heap.size,2,none⟩ = some (.int .i64 0):=cellAt HN.out 2;have f0:=frozenAt HN.out 0;have f1:=frozenAt HN.out 1;have f2:=frozenAt HN.out 2;clear hq;unfold lookR)
  have hF:=setAt (setAt (setAt HN.out 0 (.int .i64 id)) 1 (.bool rd)) 2 (.int .i64 bz)
  have j0:=cellAt hF 0
  have j1:=cellAt hF 1
  have j2:=cellAt hF 2
  simp at j0 j1 j2
  refine bodyPost_ret (v:=.tuple #[.agg #[.int .i64 id,.bool rd,.int .i64 bz],.int .i64 0]) (by simp [results,Tryz.results44,go_sem,j0,j1,j2]) rfl ?_
  exact ⟨rfl,((HQ.out.setCell (p:=⟨w.heap.size,0,none⟩) (Nat.le_refl _) _).setCell (p:=⟨w.heap.size,1,none⟩) (Nat.le_refl _) _).setCell (p:=⟨w.heap.size,2,none⟩) (Nat.le_refl _) _⟩
set_option maxRecDepth 100000 in
set_option maxHeartbeats 2000000 in
theorem fbody_g (w:World) (s a b sm n nb:Nat) (T:TreeF) (next:Int) (S:Int → Option BodyA) (g:Int → Option Value) (H:StateG w s a b sm n nb T next S g) (id:Int) (bd:BodyA) (hS:S id = some bd) (hid:0 ≤ id ∧ id ≤ 4611686018427387904) :
  Calls Tryz.prog 37 #[.pointer (some ⟨s,0,none⟩),.int .i64 id] w fun e w' => ∃ v,e = .returned (.tuple #[v,.bool true]) ∧ BodyV w' v bd ∧ Below w.heap.size w w':=by
 obtain ⟨bv,hbv,hBV,-,hfew⟩:=H.bodies.held id bd hS
 obtain ⟨s',rfl,hsl⟩:=hBV
 obtain ⟨pa,pc,rfl,-,-⟩:=parts_cells hsl
 have hlook:∀ W,W.heap[sm]? = w.heap[sm]? → (Instr.lookup 119 (.map (some sm)) (.int .i64 id) true).run Tryz.prog W = .ok (.tuple #[.agg #[.int .i64 bd.size,.slice pa bd.parts.length pc],.bool true]) W:=fun W hW => by
  have h:=((H.bodies.map.same hW).look Tryz.underlying119 (zero100 W) (KI_good (x:=id) (by omega))).1
  rw [hbv] at h
  exact h
 have hsml:=H.bodies.map.lt
 have hs0:=heap_lt H.cell
 have x1:(w.alloc (.cells #[.int .i64 0,.slice none 0 0] 100)).cell? ⟨s,1,none⟩ = some (.map (some sm)):=cellAt (heap_old H.cell _) 1
 have l1:=hlook _ (Below.heap_alloc w (.cells #[.int .i64 0,.slice none 0 0] 100) sm hsml)
 have HS:=Lib.hid hsl
 clear H hS hbv hlook hsl
 go_enter Tryz.func37,Tryz.ntmps37
 go_wp2_with (go_at_call 78;refine (clonePart_any _ _ _ _ (HS.out.below (((Below.refl w.heap.size w).alloc (Nat.le_refl _) _).alloc (by simp) _)) (by omega)).mono ?_;rintro e w1 ⟨v',rfl,ho,hn,hq⟩;have HOS:=Lib.hid (Sl.of_own ho (partsC_one _) (by rcases Nat.eq_zero_or_pos bd.parts.length with h0 | h0;exact .inl (hn.2 h0);exact .inr h0));have HO:=Lib.hid ho;(obtain ⟨va,vc,rfl,-,-⟩:=parts_cells HOS.out);have HN:=Lib.hid hn;have HQ:=Lib.hid hq;have hN:=Below.heap hq (Nat.le_refl _) (heap_old (heap_new w (.cells #[.int .i64 0,.slice none 0 0] 100)) (.cells #[.int .i64 bd.size,.slice pa bd.parts.length pc] 100));have hM:=Below.heap hq (Nat.le_refl _) (heap_new (w.alloc (.cells #[.int .i64 0,.slice none 0 0] 100)) (.cells #[.int .i64 bd.size,.slice pa bd.parts.length pc] 100));simp only [World.size_alloc] at hM;have HN0:=Lib.hid hN;have HM0:=Lib.hid hM;have n0:=cellAt hN 0;have n1:=cellAt hN 1;have m0:=cellAt hM 0;have m1:=cellAt hM 1;simp only [List.getElem?_toArray,List.getElem?_cons_zero,List.getElem?_cons_succ] at n0 n1 m0 m1;have f0:=frozenAt hN 0;have f1:=frozenAt hN 1;have g0:=frozenAt hM 0;have g1:=frozenAt hM 1;clear ho hn hq hN hM)
 have hF:=setAt (setAt ((heap_set_ne (w:=w1) (i:=1) (.slice va bd.parts.length vc) (by omega:w.heap.size ≠ w.heap.size + 1)).trans HN0.out) 0 (.int .i64 bd.size)) 1 (.slice va bd.parts.length vc)
 have j0:=cellAt hF 0
 have j1:=cellAt hF 1
 simp at j0 j1
 refine bodyPost_ret (v:=.tuple #[.agg #[.int .i64 bd.size,.slice va bd.parts.length vc],.bool true]) (by simp [results,Tryz.results37,go_sem,j0,j1]) rfl ?_
 refine ⟨_,rfl,⟨_,rfl,HOS.out.kept (fun k arr hk => ?_)⟩,((((((Below.refl w.heap.size w).alloc (Nat.le_refl _) _).alloc (by simp) _).trans (HQ.out.mono (by simp;omega))).setCell (p:=⟨w.heap.size + 1,1,none⟩) (by simp) _).setCell (p:=⟨w.heap.size,0,none⟩) (Nat.le_refl _) _).setCell (p:=⟨w.heap.size,1,none⟩) (Nat.le_refl _) _⟩
 have k1:k ≠ w.heap.size:=fun e => by rw [e,HN0.out] at hk;injection hk with hk;injection hk with _ h;exact absurd h (by decide)
 have k2:k ≠ w.heap.size + 1:=fun e => by rw [e,HM0.out] at hk;injection hk with hk;injection hk with _ h;exact absurd h (by decide)
 rw [heap_set_ne _ k1,heap_set_ne _ k1,heap_set_ne _ k2]
 exact hk
structure StXG where
 s:Nat
 a:Nat
 b:Nat
 sm:Nat
 nb:Nat
 g:Int → Option Value
 x:AbsG
def StXG.blocks (y:StXG):List Nat:=[y.s,y.a,y.b,y.sm]
structure StGt (w:World) (K:Nat) (y:StXG):Prop where
 at':StateG w y.s y.a y.b y.sm y.x.n y.nb y.x.T y.x.next y.x.S y.g
 nb:(y.nb:Int) + 1 ≤ y.x.next
 ok:y.x.ok K
theorem StGt.below {w w':World} {K:Nat} {y:StXG} (h:StGt w K y) (hb:Below w.heap.size w w'):StGt w' K y:=⟨h.at'.below hb,h.nb,h.ok⟩
theorem StGt.mono {w:World} {K K':Nat} {y:StXG} (h:StGt w K y) (hk:K ≤ K'):StGt w K' y:=⟨h.at',h.nb,h.ok.mono hk⟩
theorem StateG.frame {M:List Nat} {w w':World} {s a b sm n nb:Nat} {T:TreeF} {next:Int} {S:Int → Option BodyA} {g:Int → Option Value} (h:StateG w s a b sm n nb T next S g) (hf:Frame M w w') (hs:s ∉ M) (ha:a ∉ M) (hb:b ∉ M) (hsm:sm ∉ M) (h1:1 ∉ M) (hM:∀ k ∈ M,∀ arr,w.heap[k]? ≠ some (.cells arr 134 (0,0))):StateG w' s a b sm n nb T next S g :=
 ⟨hf.heap h.cell hs,h.tree.frame hf ha hb h1,h.bodies.frame hf hsm hM,h.ne⟩
theorem StGt.frame {M:List Nat} {w w':World} {K:Nat} {y:StXG} (h:StGt w K y) (hf:Frame M w w') (hs:∀ k ∈ y.blocks,k ∉ M) (h1:1 ∉ M) (hM:∀ k ∈ M,∀ arr,w.heap[k]? ≠ some (.cells arr 134 (0,0))):StGt w' K y :=
 ⟨h.at'.frame hf (hs _ (by simp [StXG.blocks])) (hs _ (by simp [StXG.blocks])) (hs _ (by simp [StXG.blocks])) (hs _ (by simp [StXG.blocks])) h1 hM,h.nb,h.ok⟩
theorem StGt.lt {w:World} {K:Nat} {y:StXG} (h:StGt w K y):∀ k ∈ y.blocks,k < w.heap.size:=by
 intro k hk
 simp only [StXG.blocks,List.mem_cons,List.not_mem_nil,or_false] at hk
 rcases hk with rfl | rfl | rfl | rfl
 ·exact heap_lt h.at'.cell
 ·exact heap_lt h.at'.tree.cell
 ·exact h.at'.tree.map.lt
 ·exact h.at'.bodies.map.lt
theorem copyS_g (w:World) (K:Nat) (y:StXG) (H:StGt w K y) :
  Calls Tryz.prog 129 #[.pointer (some ⟨y.s,0,none⟩)] w fun e w' => ∃ y':StXG,e = .returned (.pointer (some ⟨y'.s,0,none⟩)) ∧ StGt w' K y' ∧ y'.x = y.x ∧ (∀ k ∈ y'.blocks,w.heap.size ≤ k) ∧ Below w.heap.size w w':=by
 refine (copyState_g w _ _ _ _ _ _ _ _ _ _ H.at').mono ?_
 rintro e w' ⟨s',a',b',sm',rfl,h1,h2,h3⟩
 exact ⟨⟨s',a',b',sm',y.nb,y.g,y.x⟩,rfl,⟨h1,H.nb,H.ok⟩,rfl,by simp [StXG.blocks];omega,h3⟩
theorem newS_g (w:World) (hg:∃ m,w.cell? ⟨1,0,none⟩ = some (.int .i64 m)) (K:Nat) :
  Calls Tryz.prog 22 #[] w fun e w' => ∃ y':StXG,e = .returned (.pointer (some ⟨y'.s,0,none⟩)) ∧ StGt w' K y' ∧ y'.x = AbsG.new ∧ (∀ k ∈ y'.blocks,w.heap.size ≤ k) ∧ Below w.heap.size w w':=by
 refine (newState_g w hg).mono ?_
 rintro e w' ⟨s',a',b',sm',rfl,h1,h2,h3⟩
 exact ⟨⟨s',a',b',sm',0,fun _ => none,AbsG.new⟩,rfl,⟨h1,(by show ((0:Nat):Int) + 1 ≤ 1;decide),AbsG.new_ok K⟩,rfl,by simp [StXG.blocks];omega,h3⟩
theorem checkS_g (w:World) (K:Nat) (y:StXG) (H:StGt w K y) (op:Int) (p tt:ByteArray) (hp:p.size ≤ 1000000) (ht:tt.size ≤ 1000000) (off size:Int) (da:Option Addr) (dn dc:Nat) (hd:dn ≤ 9223372036854775807) :
  Calls Tryz.prog 23 #[.pointer (some ⟨y.s,0,none⟩),.agg #[.int .i64 op,.string p,.string tt,.int .i64 off,.int .i64 size,.slice da dn dc]] w fun e w' => e = .returned (.int .i64 (checkG y.x.T y.x.n op p tt off size dn)) ∧ Below w.heap.size w w' :=
 check_g w _ _ _ _ _ _ _ _ _ _ H.at' (by have:=H.ok.n64;omega) op p tt hp ht off size da dn dc hd
theorem statS_g (w:World) (K:Nat) (y:StXG) (H:StGt w K y) (p:ByteArray) (hp:p.size ≤ 1000000) :
  Calls Tryz.prog 44 #[.pointer (some ⟨y.s,0,none⟩),.string p] w fun e w' => e = .returned (statV (statG y.x p)) ∧ Below w.heap.size w w':=by
 have hn:=H.ok.next1
 exact fstat_g w _ _ _ _ _ _ y.x _ H.at' p hp (lookG_id (fun q id d h => by have:=H.ok.ids q id d h;omega) (by omega) p)
theorem bodyS_g (w:World) (K:Nat) (y:StXG) (H:StGt w K y) (id:Int) (bd:BodyA) (hS:y.x.S id = some bd) (hid:0 ≤ id ∧ id ≤ 4611686018427387904) :
  Calls Tryz.prog 37 #[.pointer (some ⟨y.s,0,none⟩),.int .i64 id] w fun e w' => ∃ v,e = .returned (.tuple #[v,.bool true]) ∧ BodyV w' v bd ∧ Below w.heap.size w w' :=
 fbody_g w _ _ _ _ _ _ _ _ _ _ H.at' id bd hS hid
theorem applyS_g (w:World) (K:Nat) (y:StXG) (H:StGt w K y) (i:ItemA) (hi:OkG y.x K i) (lv:Value) (hl:Sl w 134 4 lv i.parts.length (partsC i.parts)) :
  Calls Tryz.prog 30 #[.pointer (some ⟨y.s,0,none⟩),.agg #[.int .i64 i.op,.string i.path,.string i.to,.int .i64 i.off,.int .i64 i.size,.slice none 0 0],lv] w fun e w' => e = .returned (.int .i64 0) ∧ ∃ nb' g',StGt w' (K + i.parts.length + 1) ⟨y.s,y.a,y.b,y.sm,nb',g',stepG y.x i⟩ ∧ Frame [y.a,y.b,y.sm] w w':=by
 have hok:=stepG_ok H.ok hi
 have hnb:=H.nb
 have hn64:=H.ok.n64
 have hnx:=H.ok.next1
 have hc:=hi.check
 unfold checkG at hc
 by_cases o1:i.op = 1
 ·rw [if_pos (.inl o1)] at hc
  have e:stepG y.x i = ⟨gset y.x.T i.path (some (y.x.next,false)),y.x.n + 1,y.x.next + 1,bset y.x.S y.x.next (some ⟨0,[]⟩)⟩:=by unfold stepG;rw [if_pos o1]
  rw [e] at hok ⊢
  rw [o1]
  refine (applyCreate_g w _ _ _ _ _ _ _ _ _ _ H.at' i.path hi.path i.off i.size i.to hi.tt none 0 0 lv (by decide) hc (by omega) (by omega)).mono ?_
  rintro e w' ⟨rfl,nb',g',h1,h2,h3⟩
  exact ⟨rfl,nb',g',⟨h2,(by show (nb':Int) + 1 ≤ y.x.next + 1;omega),hok⟩,h3⟩
 by_cases o2:i.op = 2
 ·rw [if_pos (.inr o2)] at hc
  have e:stepG y.x i = ⟨gset y.x.T i.path (some (y.x.next,true)),y.x.n + 1,y.x.next + 1,y.x.S⟩:=by unfold stepG;rw [if_neg o1,if_pos o2]
  rw [e] at hok ⊢
  rw [o2]
  refine (applyMkdir_g w _ _ _ _ _ _ _ _ _ _ H.at' i.path hi.path i.off i.size i.to hi.tt none 0 0 lv (by decide) hc (by omega)).mono ?_
  rintro e w' ⟨rfl,h2,h3⟩
  exact ⟨rfl,y.nb,y.g,⟨h2,(by show (y.nb:Int) + 1 ≤ y.x.next + 1;omega),hok⟩,h3⟩
 rw [if_neg (fun e => e.elim o1 o2)] at hc
 by_cases o3:i.op = 3
 ·rw [if_pos o3] at hc
  obtain ⟨⟨id,hf,hT⟩,h0,-,-⟩:=writeG_zero hc
  obtain ⟨bd,hbd⟩:=H.ok.body _ _ hT
  obtain ⟨hm,hl2⟩:=H.ok.held _ _ hbd
  have hid:=H.ok.ids _ _ _ hT
  have hfew:=hi.few
  have e:stepG y.x i = ⟨y.x.T,y.x.n,y.x.next,bset y.x.S id (some (writeB bd i.off i.parts))⟩:=by
   unfold stepG AbsG.bodyAt
   rw [if_neg o1,if_neg o2,if_pos o3,hf,hbd]
   rfl
  rw [e] at hok ⊢
  rw [o3]
  refine (applyWrite_g w _ _ _ _ _ _ _ _ _ _ H.at' i.path hi.path id hf bd hbd (by omega) i.off i.size i.to hi.tt hc i.parts lv hl hi.fits (by omega) h0 (hi.room o3) (by omega) (by omega)).mono ?_
  rintro e w' ⟨rfl,g',h2,h3⟩
  exact ⟨rfl,y.nb,g',⟨h2,hnb,hok⟩,h3.mono (fun k hk => .inl (by simp at hk;simp [hk]))⟩
 rw [if_neg o3] at hc
 by_cases o4:i.op = 4
 ·rw [if_pos o4] at hc
  obtain ⟨⟨id,hf,hT⟩,h0,h1⟩:=truncG_zero hc
  obtain ⟨bd,hbd⟩:=H.ok.body _ _ hT
  have hid:=H.ok.ids _ _ _ hT
  have e:stepG y.x i = ⟨y.x.T,y.x.n,y.x.next,bset y.x.S id (some (truncB bd i.size))⟩:=by
   unfold stepG AbsG.bodyAt
   rw [if_neg o1,if_neg o2,if_neg o3,if_pos o4,hf,hbd]
   rfl
  rw [e] at hok ⊢
  rw [o4]
  refine (applyTrunc_g w _ _ _ _ _ _ _ _ _ _ H.at' i.path hi.path id hf bd hbd (by omega) i.off i.size i.to hi.tt hc lv h0 h1 (by omega) (by omega)).mono ?_
  rintro e w' ⟨rfl,g',h2,h3⟩
  exact ⟨rfl,y.nb,g',⟨h2,hnb,hok⟩,h3.mono (fun k hk => .inl (by simp at hk;simp [hk]))⟩
 rw [if_neg o4] at hc
 by_cases o5:i.op = 5
 ·rw [if_pos o5] at hc
  have e:stepG y.x i = ⟨ren2T y.x.T i.path i.to,ren2N y.x.T y.x.n i.path i.to,y.x.next,bset y.x.S (goneG y.x.T i.path i.to) none⟩:=by
   unfold stepG
   rw [if_neg o1,if_neg o2,if_neg o3,if_neg o4,if_pos o5]
  rw [e] at hok ⊢
  rw [o5]
  refine (applyRename_g w _ _ _ _ _ _ _ _ _ _ H.at' i.path i.to hi.path hi.tt i.off i.size none 0 0 (by decide) lv H.ok.closed hc hn64 (fun v hv => by have:=H.ok.ids _ v.1 v.2 hv;omega)).mono ?_
  rintro e w' ⟨rfl,nb',g',h1,h2,h3⟩
  exact ⟨rfl,nb',g',⟨h2,(by show (nb':Int) + 1 ≤ y.x.next;omega),hok⟩,h3⟩
 rw [if_neg o5] at hc
 have e67:∀ id d,y.x.T i.path = some (id,d) → (i.op = 6 ∨ i.op = 7) → stepG y.x i = ⟨gset y.x.T i.path none,y.x.n - 1,y.x.next,bset y.x.S id none⟩:=fun id d hT o => by
  unfold stepG
  rw [if_neg o1,if_neg o2,if_neg o3,if_neg o4,if_neg o5,if_pos o,hT]
  rfl
 by_cases o6:i.op = 6
 ·rw [if_pos o6] at hc
  obtain ⟨⟨id,hT⟩,-⟩:=canDrop_zero hc
  have hid:=H.ok.ids _ _ _ hT
  rw [e67 id _ hT (.inl o6)] at hok ⊢
  rw [o6]
  refine (applyUnlink_g w _ _ _ _ _ _ _ _ _ _ H.at' i.path i.to hi.path hi.tt i.off i.size none 0 0 (by decide) lv hc (by omega) id hT (by omega)).mono ?_
  rintro e w' ⟨rfl,nb',g',h1,h2,h3⟩
  exact ⟨rfl,nb',g',⟨h2,(by show (nb':Int) + 1 ≤ y.x.next;omega),hok⟩,h3⟩
 rw [if_neg o6] at hc
 by_cases o7:i.op = 7
 ·rw [if_pos o7] at hc
  obtain ⟨⟨id,hT⟩,-⟩:=canDrop_zero hc
  have hid:=H.ok.ids _ _ _ hT
  rw [e67 id _ hT (.inr o7)] at hok ⊢
  rw [o7]
  refine (applyRmdir_g w _ _ _ _ _ _ _ _ _ _ H.at' i.path i.to hi.path hi.tt i.off i.size none 0 0 (by decide) lv hc (by omega) id hT (by omega)).mono ?_
  rintro e w' ⟨rfl,nb',g',h1,h2,h3⟩
  exact ⟨rfl,nb',g',⟨h2,(by show (nb':Int) + 1 ≤ y.x.next;omega),hok⟩,h3⟩
 rw [if_neg o7] at hc
 by_cases o8:i.op = 8
 ·rw [if_pos o8] at hc
  have hnm:nameOk i.path = true:=by
   cases h:nameOk i.path with
   | true => rfl
   | false => rw [h] at hc;simp at hc
  have e:stepG y.x i = y.x:=by
   unfold stepG
   rw [if_neg o1,if_neg o2,if_neg o3,if_neg o4,if_neg o5,if_neg (fun h => h.elim o6 o7)]
  rw [e] at hok ⊢
  rw [o8]
  refine (applyMark_g w _ _ _ _ _ _ _ _ _ _ H.at' (by omega) i.path i.to hi.path hi.tt i.off i.size none 0 0 (by decide) lv hnm).mono ?_
  rintro e w' ⟨rfl,hq⟩
  exact ⟨rfl,y.nb,y.g,⟨H.at'.below hq,hnb,hok⟩,Frame.of_below hq _⟩
 ·rw [if_neg o8] at hc
  cases hc
end Go.Proofs.YtaonlcgneemimaaGreatDoor
namespace Go.Proofs.YtaonlcgneemimaaGreatDoor
open Go.RowKit
theorem own_below {w w':World} {B e sz n:Nat} {v:Value} {xs:List Value} (h:w.ownsRow B e sz v n xs) (hb:Below w.heap.size w w'):w'.ownsRow B e sz v n xs :=
 row_kept h (fun _ _ hk _ => Below.heap hb (Nat.le_refl _) hk)
theorem Frame.belowIf {M:List Nat} {B:Nat} {w w1 w2:World} (h:Frame M w1 w2) (hb:Below B w w1) (hM:∀ k ∈ M,B ≤ k) (hs:B ≤ w1.heap.size):Below B w w2:=by
 refine hb.trans ⟨h.os,h.tape,h.output,h.size,fun k hk => h.block k (by omega) (fun hm => ?_)⟩
 have:=hM k hm
 omega
theorem app_pt {w:World} {pv:Value} {n k:Nat} (hp:w.ownsRow 0 52 3 pv n (ptsC n)) (hk:w.heap[k]? = some (.cells #[.int .i64 ((n:Int) + 1),.float .f64 0,.string ⟨#[]⟩] 52 (0,0))) (hn:n ≤ 10000) :
  ∃ v' w',(Builtin.append_ #[46,46] 46 #[pv,.slice (some ⟨k,0,none⟩) 1 1]).run Tryz.prog w = .ok v' w' ∧ w'.ownsRow 0 52 3 v' (n + 1) (ptsC (n + 1)) ∧ w.grownBy w' pv.ownBlock ∧ (v'.ownBlock = pv.ownBlock ∨ v'.ownBlock = some w.heap.size):=by
 obtain ⟨i0,hi,hz0,hz1,hz2⟩:=info_parts info52
 obtain ⟨v',w',h1,h2,h3,-,h5⟩:=append_run_sl (P:=Tryz.prog) (w:=w) 0 46 46 52 i0 _ 3 32 Tryz.underlying46 hi hz0 hz1 hz2 rfl (by decide) pv n _ hp _ 1 _ (Sl.block' hk rfl (by simp [Value.oneCell']) (by decide) (by decide)) (by omega) (by decide) (Nat.zero_le _)
 exact ⟨v',w',h1,h2,h3,h5⟩
theorem app_st {w:World} {sv:Value} {n k s:Nat} {ps:List Value} (hp:w.ownsRow 0 73 1 sv n ps) (hk:w.heap[k]? = some (.cells #[.pointer (some ⟨s,0,none⟩)] 73 (0,0))) (hn:n ≤ 10000) :
  ∃ v' w',(Builtin.append_ #[113,113] 113 #[sv,.slice (some ⟨k,0,none⟩) 1 1]).run Tryz.prog w = .ok v' w' ∧ w'.ownsRow 0 73 1 v' (n + 1) (ps ++ [.pointer (some ⟨s,0,none⟩)]) ∧ w.grownBy w' sv.ownBlock ∧ (v'.ownBlock = sv.ownBlock ∨ v'.ownBlock = some w.heap.size):=by
 obtain ⟨i0,hi,hz0,hz1,hz2⟩:=info_parts info73
 obtain ⟨v',w',h1,h2,h3,-,h5⟩:=append_run_sl (P:=Tryz.prog) (w:=w) 0 113 113 73 i0 _ 1 8 Tryz.underlying113 hi hz0 hz1 hz2 rfl (by decide) sv n _ hp _ 1 _ (Sl.block' hk rfl (by simp [Value.oneCell']) (by decide) (by decide)) (by omega) (by decide) (Nat.zero_le _)
 exact ⟨v',w',h1,h2,h3,h5⟩
theorem other_row {w w':World} {e1 e2 s1 s2 n m:Nat} {v1 v2:Value} {xs ys:List Value} (h1:w.ownsRow 0 e1 s1 v1 n xs) (h2:w.ownsRow 0 e2 s2 v2 m ys) (hne:e1 ≠ e2) (hg:w.grownBy w' v1.ownBlock):w'.ownsRow 0 e2 s2 v2 m ys:=by
 refine h2.kept hg ?_
 rcases h2.2 with ⟨rfl,_⟩ | ⟨g,cap,cur,rfl,_,hg2,_⟩
 ·exact .inl rfl
 ·refine .inr (fun e => ?_)
  exact own_neq h1 hg2 hne e.symm
theorem heap_new2 (w:World) (a b:Obj):((w.alloc a).alloc b).drew.heap[w.heap.size + 1]? = some b:=by
 have:=heap_new (w.alloc a) b
 rw [World.size_alloc] at this
 exact this
end Go.Proofs.YtaonlcgneemimaaGreatDoor
namespace Go.Proofs.YtaonlcgneemimaaGreatDoor
open Go.RowKit
/-! A region whose loads come first,though its last stores write what they read: the condition on the world may hang on which operations have come up. -/
section
variable {P:Program} {ops:Array Oper} {Q:Exit → Act → World → Prop} {md:Region.Mode}
def wpAnyT (P:Program) (md:Region.Mode) (ops:Array Oper) (Q:Exit → Act → World → Prop) (S:Array Bool → World → Prop):Nat → Array Bool → Act → World → Prop
 | 0,L,a,w => Region.ready md ops L = [] ∧ Q .normal a w
 | f + 1,L,a,w => (Region.ready md ops L = [] → Q .normal a w) ∧ ∀ i ∈ Region.ready md ops L,wpOp P ops Q i (fun a' w' => S (L.setIfInBounds i true) w' ∧ wpAnyT P md ops Q S f (L.setIfInBounds i true) a' w') a w
theorem any_of_T {S:Array Bool → World → Prop}:∀ (f:Nat) (L:Array Bool) (a:Act) (w:World),wpAnyT P md ops Q S f L a w → wpAny P md ops Q f L a w
 | 0,_,_,_,h => h
 | f + 1,_,_,_,h => ⟨h.1,fun i hi => wpOp_mono (fun a' w' h' => any_of_T f _ a' w' h'.2) (h.2 i hi)⟩
theorem wp_region_T {id:Nat} {a:Act} {w:World} (S:Array Bool → World → Prop) (hm:P.follows .mixedOrders = true)
  (h:wpAnyT P .any ops Q S ops.size (Array.replicate ops.size false) a w.drew):(Code.region id ops true).wp P Q a w :=
 wp_region_any hm (any_of_T _ _ _ _ h)
def Till (S:Array Bool → World → Prop) (p:Nat) (w:World):Prop:=∃ L:Array Bool,L.getD p true = false ∧ S L w
theorem anyT_first {S:Array Bool → World → Prop} {i p:Nat} {oi op:Oper} {v:Value} (hi:ops[i]? = some oi) (hp:ops[p]? = some op) (hwait:∃ e ∈ op.after,Region.binds md e = true ∧ e.on = i)
  (hS:∀ L w,S (L.setIfInBounds i true) w ↔ S L w)
  (hsel:∀ (j:Nat) (o:Oper) cs b,ops[j]? = some o → o.op ≠ .select cs b) (hQ:∀ c a w,Q (.panic c) (a.put oi.dst v) w → Q (.panic c) a w) :
  ∀ (f:Nat) (L:Array Bool) (a:Act) (w:World),
   (∀ j oj,ops[j]? = some oj → j ≠ i → L.getD j true = false → (∀ e ∈ oj.after,Region.binds md e = true → e.on ≠ i) → oi.apart ops oj = true) →
   i ∈ Region.ready md ops L → L.getD p true = false → YieldsIf P ops (Till S p) oi v a → S L w →
   wpAnyT P md ops Q S f (L.setIfInBounds i true) (a.put oi.dst v) w → wpAnyT P md ops Q S (f + 1) L a w:=by
 intro f
 induction f with
 | zero =>
  intro L a w _ hr hpL hy hSL H
  refine ⟨fun h => (by rw [h] at hr;cases hr),fun j hj => ?_⟩
  by_cases hji:j = i
  ·subst hji
   exact hy.wpOp hi ⟨L,hpL,hSL⟩ ⟨(hS L w).2 hSL,H⟩
  ·have:=ready_mono hj hji
   rw [H.1] at this
   cases this
 | succ f ih =>
  intro L a w hfree hr hpL hy hSL H
  refine ⟨fun h => (by rw [h] at hr;cases hr),fun j hj => ?_⟩
  by_cases hji:j = i
  ·subst hji
   exact hy.wpOp hi ⟨L,hpL,hSL⟩ ⟨(hS L w).2 hSL,H⟩
  ·have h1:=H.2 j (ready_mono hj hji)
   obtain ⟨hjun,oj,hoj,hall⟩:=mem_ready.1 hj
   have hiun:=(mem_ready.1 hr).1
   have hnot:∀ e ∈ oj.after,Region.binds md e = true → e.on ≠ i:=fun e he hb heq => by
    have h2:=hall e he hb
    rw [heq] at h2
    rcases Nat.lt_or_ge i L.size with h' | h'
    ·simp [h'] at h2 hiun
     rw [hiun] at h2
     cases h2
    ·simp [Array.getElem?_eq_none h'] at h2
   have hjp:j ≠ p:=by
    rintro rfl
    obtain ⟨e,he,hb,heq⟩:=hwait
    rw [hp] at hoj
    cases hoj
    exact hnot e he hb heq
   have h2:=wpOp_putIf hoj (hfree j oj hoj hji hjun hnot) (fun cs b => hsel i oi cs b hi) (fun cs b => hsel j oj cs b hoj) hQ hy h1
   have hfree':∀ k ok,ops[k]? = some ok → k ≠ i → (L.setIfInBounds j true).getD k true = false →
     (∀ e ∈ ok.after,Region.binds md e = true → e.on ≠ i) → oi.apart ops ok = true:=fun k ok hk hki hun hno => by
    refine hfree k ok hk hki ?_ hno
    by_cases hjk:j = k
    ·subst hjk;exact hjun
    ·rw [getD_set_ne true hjk] at hun;exact hun
   refine wpOp_mono (fun a' w' h3 => ?_) h2
   obtain ⟨hy',hS',H'⟩:=h3
   rw [Array.setIfInBounds_comm _ _ (Ne.symm hji)] at hS'
   have hSj:=(hS _ _).1 hS'
   refine ⟨hSj,ih (L.setIfInBounds j true) a' w' hfree' (ready_mono hr (Ne.symm hji)) (by rw [getD_set_ne true hjp];exact hpL) hy' hSj ?_⟩
   rw [Array.setIfInBounds_comm _ _ hji]
   exact H'
theorem anyT_take {S:Array Bool → World → Prop} {i p:Nat} {oi op:Oper} {v:Value} {f:Nat} {L:Array Bool} {a:Act} {w:World} (hi:ops[i]? = some oi) (hp:ops[p]? = some op) (hwait:(op.after.any fun e => Region.binds md e && e.on == i) = true)
  (hS:∀ L w,S (L.setIfInBounds i true) w ↔ S L w)
  (hs:Region.noSelect ops = true) (hf:Region.free md ops L i = true) (hr:(Region.ready md ops L).contains i = true) (hpL:L.getD p true = false)
  (hQ:∀ c a w,Q (.panic c) (a.put oi.dst v) w → Q (.panic c) a w) (hy:YieldsIf P ops (Till S p) oi v a) (hSL:S L w)
  (h:wpAnyT P md ops Q S f (L.setIfInBounds i true) (a.put oi.dst v) w):wpAnyT P md ops Q S (f + 1) L a w :=
 anyT_first hi hp (by obtain ⟨k,hk,he⟩:=Array.any_eq_true.1 hwait;simp at he;exact ⟨_,Array.getElem_mem hk,he.1,he.2⟩) hS (Region.noSelect_spec hs) hQ f L a w (Region.free_spec hi hf) (by simpa using hr) hpL hy hSL h
theorem anyT_all {S:Array Bool → World → Prop} {rs:List Nat} {f:Nat} {L:Array Bool} {a:Act} {w:World} (hr:Region.ready md ops L = rs) (hne:rs ≠ [])
  (h:∀ i ∈ rs,wpOp P ops Q i (fun a' w' => S (L.setIfInBounds i true) w' ∧ wpAnyT P md ops Q S f (L.setIfInBounds i true) a' w') a w):wpAnyT P md ops Q S (f + 1) L a w :=
 ⟨fun h0 => absurd (hr ▸ h0) hne,hr ▸ h⟩
theorem anyT_done {S:Array Bool → World → Prop} {L:Array Bool} {a:Act} {w:World} (hr:Region.ready md ops L = []) (h:Q .normal a w):∀ f,wpAnyT P md ops Q S f L a w
 | 0 => ⟨hr,h⟩
 | _ + 1 => ⟨fun _ => h,by rw [hr];simp⟩
theorem T_step {S:Array Bool → World → Prop} {i:Nat} {o:Oper} {f:Nat} {L:Array Bool} {a:Act} {w:World} (ho:ops[i]? = some o)
  (h:∀ K':Act → World → Prop,Hid (∀ a w,S (L.setIfInBounds i true) w → wpAnyT P md ops Q S f (L.setIfInBounds i true) a w → K' a w) → if Region.wanted o (yielded ops a.tmps) = true then Oper.wp P o a w K' Q else K' (a.put o.dst undef) w) :
  wpOp P ops Q i (fun a' w' => S (L.setIfInBounds i true) w' ∧ wpAnyT P md ops Q S f (L.setIfInBounds i true) a' w') a w :=
 wpOp_step ho (fun K' hK => h K' (Lib.hid fun a w h1 h2 => hK a w ⟨h1,h2⟩))
def TillS (p0 p1 p2:Nat) (c0 c1 c2:World → Prop) (L:Array Bool) (w:World):Prop:=(L.getD p0 true = false → c0 w) ∧ (L.getD p1 true = false → c1 w) ∧ (L.getD p2 true = false → c2 w)
theorem TillS_set {p0 p1 p2 i:Nat} {c0 c1 c2:World → Prop} (h0:i ≠ p0) (h1:i ≠ p1) (h2:i ≠ p2) (L:Array Bool) (w:World):TillS p0 p1 p2 c0 c1 c2 (L.setIfInBounds i true) w ↔ TillS p0 p1 p2 c0 c1 c2 L w:=by
 unfold TillS
 rw [getD_set_ne _ h0,getD_set_ne _ h1,getD_set_ne _ h2]
end
end Go.Proofs.YtaonlcgneemimaaGreatDoor
namespace Go.Proofs.YtaonlcgneemimaaGreatDoor
open Go.RowKit
theorem cells_ty {w:World} {a b t u:Nat} {x y:Array Value} (h1:w.heap[a]? = some (.cells x t (0,0))) (h2:w.heap[b]? = some (.cells y u (0,0))) (hne:t ≠ u):a ≠ b:=by
 rintro rfl
 rw [h1] at h2
 injection h2 with h2
 injection h2 with _ h2
 exact hne h2
theorem own_heap {w:World} {B e sz n g:Nat} {v:Value} {xs:List Value} (h:w.ownsRow B e sz v n xs) (hg:v.ownBlock = some g):∃ arr,w.heap[g]? = some (.cells arr e (0,0)):=by
 rcases h.2 with ⟨rfl,_⟩ | ⟨g',cap,cur,rfl,_,hg2,_⟩
 ·simp [Value.ownBlock] at hg
 ·simp only [Value.ownBlock,Option.some.injEq] at hg
  subst hg
  exact ⟨_,hg2⟩
def histM (h:Nat) (pv sv:Value):List Nat:=h :: (pv.ownBlock.toList ++ sv.ownBlock.toList)
end Go.Proofs.YtaonlcgneemimaaGreatDoor
namespace Go.Proofs.YtaonlcgneemimaaGreatDoor
open Go.RowKit
theorem below_alloc3 (w:World) (a b c:Obj):Below w.heap.size w (((w.alloc a).alloc b).alloc c):=(((Below.refl _ _).alloc (Nat.le_refl _) _).alloc (by simp) _).alloc (by simp;omega) _
end Go.Proofs.YtaonlcgneemimaaGreatDoor
namespace Go.Proofs.YtaonlcgneemimaaGreatDoor
open Go.RowKit
set_option maxRecDepth 100000 in
set_option maxHeartbeats 1000000 in
theorem pieces_none (w:World) (c:Option Addr) (op:Int) (h3:op ≠ 3) (path tt:ByteArray) (off size:Int) (da:Option Addr) (dn dc:Nat) :
  Calls Tryz.prog 27 #[.pointer c,.agg #[.int .i64 op,.string path,.string tt,.int .i64 off,.int .i64 size,.slice da dn dc]] w fun e w' => e = .returned (.slice none 0 0) ∧ Below w.heap.size w w':=by
 have d3:(op != 3) = true:=by simpa using h3
 have d4:¬ op = 3:=h3
 go_enter Tryz.func27,Tryz.ntmps27
 go_wp2
 go_ret
 exact ⟨rfl,(Below.refl _ _).alloc (Nat.le_refl _) _⟩
noncomputable def newPart (P:List (List Int)) (p:List Int):PartA:=⟨0,p.length,putId P p,0⟩
end Go.Proofs.YtaonlcgneemimaaGreatDoor
