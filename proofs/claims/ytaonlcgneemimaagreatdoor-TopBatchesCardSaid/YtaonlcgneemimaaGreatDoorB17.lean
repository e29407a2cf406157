/- TopBatches: the contracts of X4, AT5, AT6, AT7, AT8, AT9; no condition. -/
import Derived.Maps.OwnSet
import Derived.Sort.MapsRangeIn
import Derived.Test.YtaonlcgneemimaaGreatDoorB15
import Derived.Test.YtaonlcgneemimaaGreatDoorB13
namespace Go.Proofs.YtaonlcgneemimaaGreatDoor
open Go.RowKit
theorem bodies_drop {w w':World} {sm nb:Nat} {S:Int → Option BodyA} {g:Int → Option Value} (h:BodiesAt w sm nb S g) (id:Int) {n':Nat} (hmap:MapX KI w' sm n' (fput g id none)) (ht:w.mapTurned w' sm):BodiesAt w' sm n' (bset S id none) (fput g id none):=by
 have hk:∀ (k:Nat) (arr:Array Value),w.heap[k]? = some (.cells arr 134 (0,0)) → w'.heap[k]? = some (.cells arr 134 (0,0)):=fun k arr hk => by
  refine turned_keep ht hk (fun e => ?_)
  subst e
  exact h.map.cells hk
 refine ⟨hmap,fun y hy => ?_,fun y b hy => ?_⟩
 ·unfold bset at hy
  unfold fput
  by_cases e:y = id
  ·rw [if_pos e]
  ·rw [if_neg e] at hy ⊢
   exact h.none y hy
 ·unfold bset at hy
  unfold fput
  by_cases e:y = id
  ·rw [if_pos e] at hy;cases hy
  ·rw [if_neg e] at hy ⊢
   obtain ⟨v,h1,h2,h3⟩:=h.held y b hy
   exact ⟨v,h1,h2.kept hk,h3⟩
end Go.Proofs.YtaonlcgneemimaaGreatDoor
namespace Go.Proofs.YtaonlcgneemimaaGreatDoor
open Go.RowKit
theorem KS_invG:KeyInv KS:=fun key kl h => by
 obtain ⟨x,rfl⟩:=Maps.keyOf_string_inv Tryz.underlying9 h
 simp [keyOf,Tryz.underlying9,mapKey] at h
 exact ⟨x,h.1,rfl,h.2.symm⟩
theorem info168g:(Tryz.prog.info? 168).map (fun i => (i.zero,i.size,i.bytes)) = some (some (.agg #[.string ⟨#[]⟩,.int .i64 0,.bool false]),3,32):=by kernel_rfl
theorem own_belowG {w w':World} {B e sz n:Nat} {v:Value} {xs:List Value} (h:w.ownsRow B e sz v n xs) (hb:Below w.heap.size w w'):w'.ownsRow B e sz v n xs :=
 row_kept h (fun _ _ hk _ => Below.heap hb (Nat.le_refl _) hk)
theorem belowOne (w:World) (o:Obj):Below w.heap.size w (w.alloc o):=(Below.refl _ _).alloc (Nat.le_refl _) o
def gnodes (T:TreeF) (qs:List ByteArray):List Value:=qs.flatMap fun q => [.string q,.int .i64 ((T q).getD (0,false)).1,.bool ((T q).getD (0,false)).2]
theorem gnodes_snoc (T:TreeF) (qs:List ByteArray) (q:ByteArray) (id:Int) (d:Bool) (h:T q = some (id,d)):gnodes T (qs ++ [q]) = gnodes T qs ++ [.string q,.int .i64 id,.bool d]:=by simp [gnodes,h]
theorem gnodes_one (T:TreeF) (qs:List ByteArray):∀ u ∈ gnodes T qs,u.oneCell' = true:=by
 intro u hu
 obtain ⟨p,_,h⟩:=List.mem_flatMap.1 hu
 simp at h
 rcases h with rfl | rfl | rfl <;> rfl
theorem gnodes_get (T:TreeF):∀ (qs:List ByteArray) (j:Nat) (q:ByteArray),qs[j]? = some q → (gnodes T qs)[j * 3]? = some (.string q) ∧ (gnodes T qs)[j * 3 + 1]? = some (.int .i64 ((T q).getD (0,false)).1) ∧ (gnodes T qs)[j * 3 + 2]? = some (.bool ((T q).getD (0,false)).2)
 | [],j,q,h => by simp at h
 | p :: qs,0,q,h => by
  simp at h
  subst h
  simp [gnodes]
 | p :: qs,j + 1,q,h => by
  have:=gnodes_get T qs j q (by simpa using h)
  have e:∀ k,(gnodes T (p :: qs))[(j + 1) * 3 + k]? = (gnodes T qs)[j * 3 + k]?:=by
   intro k
   show ([.string p,.int .i64 ((T p).getD (0,false)).1,.bool ((T p).getD (0,false)).2] ++ gnodes T qs)[(j + 1) * 3 + k]? = _
   rw [List.getElem?_append_right (by simp;omega)]
   congr 1
   simp
   omega
  exact ⟨(e 0).trans this.1,(e 1).trans this.2.1,(e 2).trans this.2.2⟩
def underB (s q:ByteArray):Bool:=Lib.hasPrefix q.data.toList (s ++ ⟨#[47]⟩).data.toList
structure UnderOf (T:TreeF) (s:ByteArray) (qs:List ByteArray):Prop where
 nodup:qs.Nodup
 mem:∀ q,q ∈ qs ↔ (T q).isSome = true ∧ underB s q = true
structure UnderI (T:TreeF) (s:ByteArray) (left:ByteArray → Bool) (qs:List ByteArray):Prop where
 nodup:qs.Nodup
 out:∀ q ∈ qs,left q = false ∧ (T q).isSome = true ∧ underB s q = true
 all:∀ q,KS.good q → (T q).isSome = true → underB s q = true → left q = false → q ∈ qs
theorem UnderI.skip {T:TreeF} {s:ByteArray} {left:ByteArray → Bool} {qs:List ByteArray} (h:UnderI T s left qs) {x:ByteArray} (hx:underB s x = false):UnderI T s (fun y => left y && !decide (y = x)) qs:=by
 refine ⟨h.nodup,fun q hq => ?_,fun q hg h1 h2 h3 => ?_⟩
 ·obtain ⟨a,b,c⟩:=h.out q hq
  exact ⟨by simp [a],b,c⟩
 ·by_cases e:q = x
  ·subst e
   rw [hx] at h2
   cases h2
  ·exact h.all q hg h1 h2 (by simpa [e] using h3)
theorem UnderI.add {T:TreeF} {s:ByteArray} {left:ByteArray → Bool} {qs:List ByteArray} (h:UnderI T s left qs) {x:ByteArray} (hx:underB s x = true) (hT:(T x).isSome = true) (hl:left x = true):UnderI T s (fun y => left y && !decide (y = x)) (qs ++ [x]):=by
 refine ⟨?_,fun q hq => ?_,fun q hg h1 h2 h3 => ?_⟩
 ·rw [List.nodup_append]
  refine ⟨h.nodup,by simp,fun y hy z hz => ?_⟩
  simp only [List.mem_singleton] at hz
  subst hz
  rintro rfl
  have:=(h.out _ hy).1
  rw [hl] at this
  cases this
 ·rcases List.mem_append.1 hq with hq | hq
  ·obtain ⟨a,b,c⟩:=h.out q hq
   exact ⟨by simp [a],b,c⟩
  ·simp only [List.mem_singleton] at hq
   subst hq
   exact ⟨by simp,hT,hx⟩
 ·by_cases e:q = x
  ·simp [e]
  ·exact List.mem_append.2 (.inl (h.all q hg h1 h2 (by simpa [e] using h3)))
set_option maxRecDepth 100000 in
set_option maxHeartbeats 4000000 in
theorem under_g (w:World) (a b n:Nat) (T:TreeF) (next:Int) (H:TreeG w a b n T next) (s:ByteArray) (hs:s.size ≤ 1000000) (hn:n ≤ 100000) :
  Calls Tryz.prog 99 #[.pointer (some ⟨a,0,none⟩),.string s] w fun e w' => ∃ v qs,e = .returned v ∧ UnderOf T s qs ∧ (w'.ownsRow w.heap.size 168 3 v qs.length (gnodes T qs) ∧ (v = .slice none 0 0 ∨ 0 < qs.length)) ∧ qs.length ≤ n ∧ Below w.heap.size w w':=by
 have HH:=Lib.hid H
 have HM:=Lib.hid H.map
 have c0:=cellAt H.cell 0
 simp only [List.getElem?_toArray,List.getElem?_cons_zero] at c0
 have HP:Hid (∀ q:ByteArray,∀ W,Calls Tryz.prog 141 #[.string q,.string (s ++ ⟨#[47]⟩)] W fun e w' => e = .returned (.bool (underB s q)) ∧ w' = W):=Lib.hid (fun q W => by
  refine (Tryz.strings_HasPrefix _ _ _).mono ?_
  rintro e w' ⟨rfl,rfl⟩
  exact ⟨rfl,rfl⟩)
 have hss:¬ (9223372036854775807 < s.size + 1):=by omega
 obtain ⟨i0,hi,hz0,hz1,hz2⟩:=info_parts info168g
 clear H
 go_enter Tryz.func99,Tryz.ntmps99
 go_wp2_with (first | (at_range;refine wpx_range _ rfl _ 166 rfl KS 168 Tryz.underlying166 b n (gmap T) rfl HM.out ?_;intro w0 hrg0 hg0 hs0;have HR0:=Lib.hid hrg0;have HG0:=Lib.hid hg0;clear hrg0 hg0) | go_in)
 go_frame
 go_loopw [5,7] (fun t5 _ wr => ∃ left cnt qs,RangeX KS wr b w.heap.size n (gmap T) left cnt ∧ qs.length + cnt ≤ n ∧ (t5 = .slice none 0 0 ∨ 0 < qs.length) ∧ Hid (UnderI T s left qs) ∧ Hid (wr.ownsRow (w.heap.size + 1) 168 3 t5 qs.length (gnodes T qs)) ∧ Hid (Below w.heap.size w wr ∧ w.heap.size + 1 ≤ wr.heap.size)) (fun _ _ wr => wr.rangeLeft b w.heap.size)
 case atStart =>
  refine ⟨_,_,[],HR0.out,by simp,.inl rfl,Lib.hid ⟨by simp,fun q hq => by simp at hq,fun q hg h1 h2 h3 => ?_⟩,Lib.hid (World.ownsRow_nil _ _ _ _),Lib.hid ⟨⟨HG0.out.os,HG0.out.tape,HG0.out.output,HG0.out.size,fun k hk => HG0.out.block k hk (by simp)⟩,by omega⟩⟩
  unfold gmap at h3
  cases hT:T q with
  | none => rw [hT] at h1;cases h1
  | some y => rw [hT] at h3;simp at h3
 case round =>
  obtain ⟨left,cnt,qs,hrg,hcnt,hnil,hU,hown,hbel⟩:=hrel
  have HRG:=Lib.hid hrg
  clear hrg
  go_wp2_with (first | (at_next;refine wpx_next _ rfl _ rfl KS KS_invG b w.heap.size n (gmap T) left cnt rfl HRG.out ?_ ?_) | go_in)
  ·intro h0 hl0
   have HL0:=Lib.hid hl0
   clear hl0
   go_wp2
   go_ret
   refine ⟨u5,qs,rfl,⟨hU.out.nodup,fun q => ⟨fun h => (hU.out.out q h).2,fun h => by
    obtain ⟨x,hx⟩:=Option.isSome_iff_exists.1 h.1
    have hg:KS.good q:=KS_big (by have:=HH.out.small q x hx;omega)
    exact hU.out.all q hg h.1 h.2 (HL0.out q hg)⟩⟩,⟨own_mono hown.out (Nat.le_succ _),hnil⟩,by omega,hbel.out.1⟩
  ·intro x v w1 cnt1 hx hlx hfx hrg1 hlt1 hg1 hsz1 hen
   obtain ⟨id,d,hT,rfl⟩:∃ id d,T x = some (id,d) ∧ v = .agg #[.string x,.int .i64 id,.bool d]:=by
    unfold gmap at hfx
    cases hT:T x with
    | none => rw [hT] at hfx;simp at hfx
    | some y => rw [hT] at hfx;simp at hfx;exact ⟨y.1,y.2,rfl,hfx.symm⟩
   have HPd:=Lib.hid (HP.out x)
   have HT:=Lib.hid hT
   have HLX:=Lib.hid hlx
   have HRG1:=Lib.hid hrg1
   have HLT1:=Lib.hid hlt1
   have hcnt1:qs.length + 1 + cnt1 ≤ n:=by omega
   have hb1:Hid (Below w.heap.size w w1 ∧ w.heap.size + 1 ≤ w1.heap.size):=Lib.hid ⟨hbel.out.1.grown hg1 hbel.out.1.size (fun k hk => by cases hk;exact Nat.le_refl _),by have:=hbel.out.2;omega⟩
   have hen2:(Instr.entry (.pointer (some ⟨w.heap.size,0,none⟩))).run Tryz.prog w1 = .ok (.tuple #[.string x,.agg #[.string x,.int .i64 id,.bool d]]) w1:=hen
   have HO1:Hid (w1.ownsRow (w.heap.size + 1) 168 3 u5 qs.length (gnodes T qs)):=Lib.hid (row_kept hown.out (fun k o hk hb => (hg1.block k (heap_lt hk) (fun e => by have:=(hown.out.lt k hb).1;injection e with e;omega)).trans hk))
   have OA:Hid (∀ o o2,((w1.alloc o).alloc o2).ownsRow (w.heap.size + 1) 168 3 u5 qs.length (gnodes T qs)):=Lib.hid (fun o o2 => own_belowG (own_belowG HO1.out (belowOne _ _)) (belowOne _ _))
   have HS2:Hid (∀ o o2,w.heap.size + 1 ≤ ((w1.alloc o).alloc o2).heap.size):=Lib.hid (fun o o2 => by have:=hb1.out.2;simp;omega)
   have HN2:Hid (∀ o o2,((w1.alloc o).alloc o2).heap[w1.heap.size + 1]? = some o2):=Lib.hid (fun o o2 => by have:=heap_new (w1.alloc o) o2;simpa using this)
   clear hx hlx hfx hrg1 hlt1 hg1 hsz1 hT hen hown
   obtain ⟨ub,hub⟩:∃ ub,Hid (underB s x = ub):=⟨_,Lib.hid rfl⟩
   rw [hub.out] at HPd
   cases ub with
   | false =>
    go_wp2_with (go_at_call 141;with_reducible refine (HPd.out _).mono ?_;rintro e1 w2 ⟨rfl,hw⟩;have hw:=hw.symm;subst hw)
    go_roundw
    case rel =>
     refine ⟨_,cnt1,qs,HRG1.out.kept ?_ ?_,by omega,hnil,Lib.hid (hU.out.skip hub.out),Lib.hid (own_belowG HO1.out (belowOne _ _)),Lib.hid ⟨hb1.out.1.alloc hb1.out.1.size _,by have:=hb1.out.2;simp;omega⟩⟩
     ·exact Below.heap_alloc _ _ _ HRG1.out.map.lt
     ·exact Below.heap_alloc _ _ _ HRG1.out.lt
    case measure =>
     rw [HRG.out.left_eq,(HRG1.out.kept (w':=w1.alloc (.cells #[.string x,.int .i64 id,.bool d] 168)) (Below.heap_alloc _ _ _ HRG1.out.map.lt) (Below.heap_alloc _ _ _ HRG1.out.lt)).left_eq]
     exact HLT1.out
   | true =>
    have FIN:Hid (∀ v3 w6 o o2,w6.ownsRow (w.heap.size + 1) 168 3 v3 (qs.length + 1) (gnodes T qs ++ [.string x,.int .i64 id,.bool d]) → ((w1.alloc o).alloc o2).grownBy w6 u5.ownBlock → w6.ownsRow (w.heap.size + 1) 168 3 v3 (qs ++ [x]).length (gnodes T (qs ++ [x])) ∧ (Below w.heap.size w w6 ∧ w.heap.size + 1 ≤ w6.heap.size) ∧ RangeX KS w6 b w.heap.size n (gmap T) (fun y => left y && !decide (y = x)) cnt1):=Lib.hid (fun v3 w6 o o2 ho hgr => by
     have hr:=HRG1.out.lt
     have hb:=HRG1.out.map.lt
     have hbw:=HM.out.lt
     have hls:=hgr.size
     have l2:∀ k,u5.ownBlock = some k → w.heap.size + 1 ≤ k:=fun k hk => (HO1.out.lt k hk).1
     have kp:∀ k,k < w1.heap.size → u5.ownBlock ≠ some k → w6.heap[k]? = w1.heap[k]?:=fun k hk hne => by
      rw [hgr.block k (by simp;omega) (fun e => hne e.symm)]
      exact (Below.heap_alloc _ _ _ (by simp;omega)).trans (Below.heap_alloc _ _ _ hk)
     refine ⟨?_,⟨((hb1.out.1.alloc hb1.out.1.size o).alloc (by have:=hb1.out.2;simp;omega) o2).grown hgr (by have:=hb1.out.2;simp;omega) (fun k hk => by have:=l2 k hk;omega),by have:=hb1.out.2;simp at hls;omega⟩,HRG1.out.kept (kp b hb (fun e => by have:=l2 b e;omega)) (kp _ hr (fun e => by have:=l2 _ e;omega))⟩
     rw [List.length_append,gnodes_snoc T qs x id d HT.out]
     exact ho)
    go_wp2_with (first | (go_at_call 141;with_reducible refine (HPd.out _).mono ?_;rintro e1 w2 ⟨rfl,hw⟩;have hw:=hw.symm;subst hw) | (at_builtin;refine wp_append_sl rfl _ _ 184 rfl (w.heap.size + 1) 168 i0 _ 3 32 Tryz.underlying184 hi hz0 hz1 hz2 rfl (by decide) _ qs.length _ rfl (OA.out _ _) _ 1 _ rfl (Sl.block' (HN2.out (.cells #[.string x,.int .i64 id,.bool d] 168) (.cells #[.string x,.int .i64 id,.bool d] 168)) rfl (by simp [Value.oneCell']) (by decide) (by decide)) (by omega) (by decide) (HS2.out _ _) ?_;intro v3 w6 ho hgr _ _;obtain ⟨f1,f2,f3⟩:=FIN.out _ _ _ _ ho hgr;have F1:=Lib.hid f1;have F2:=Lib.hid f2;have F3:=Lib.hid f3;clear ho hgr f1 f2 f3))
    go_roundw
    case rel =>
     exact ⟨_,cnt1,qs ++ [x],F3.out,by rw [List.length_append];simp;omega,.inr (by simp),Lib.hid (hU.out.add hub.out (by rw [HT.out];rfl) HLX.out),F1,F2⟩
    case measure =>
     rw [HRG.out.left_eq,F3.out.left_eq]
     exact HLT1.out
end Go.Proofs.YtaonlcgneemimaaGreatDoor
namespace Go.Proofs.YtaonlcgneemimaaGreatDoor
open Go.RowKit
def movedP (s t q:ByteArray):ByteArray:=t ++ q.extract s.size q.size
def deepG (T:TreeF) (s t:ByteArray):Prop:=∃ q,(T q).isSome = true ∧ underB s q = true ∧ splitP (movedP s t q) = none
theorem underB_size {s q:ByteArray} (h:underB s q = true):s.size < q.size:=by
 unfold underB at h
 have h1:=Lib.hasPrefix_le h
 rw [bytesLen,bytesLen,ByteArray.size_append] at h1
 have:(⟨#[47]⟩:ByteArray).size = 1:=rfl
 omega
theorem gnodes_cells {w:World} {T:TreeF} {v:Value} {qs:List ByteArray} (h:Sl w 168 3 v qs.length (gnodes T qs)):∃ a cap,v = .slice a qs.length cap ∧ qs.length ≤ cap ∧ (a = none → qs.length = 0) ∧ ∀ j q,qs[j]? = some q → ∃ g off,a = some ⟨g,off,none⟩ ∧ g < w.heap.size ∧ w.cell? ⟨g,off + j * 3,none⟩ = some (.string q) ∧ w.cell? ⟨g,off + j * 3 + 1,none⟩ = some (.int .i64 ((T q).getD (0,false)).1) ∧ w.cell? ⟨g,off + j * 3 + 2,none⟩ = some (.bool ((T q).getD (0,false)).2):=by
 obtain ⟨a,cap,rfl,h1,h2,h3⟩:=h.shape
 refine ⟨a,cap,rfl,h1,h2,fun j q hq => ?_⟩
 obtain ⟨g,off,e,hg,hc⟩:=h3 j (List.getElem?_eq_some_iff.1 hq).1
 obtain ⟨k0,k1,k2⟩:=gnodes_get T qs j q hq
 exact ⟨g,off,e,hg,hc 0 _ (by decide) k0,hc 1 _ (by decide) k1,hc 2 _ (by decide) k2⟩
open Classical in
set_option maxRecDepth 100000 in
set_option maxHeartbeats 4000000 in
theorem deep_g (w:World) (a b n:Nat) (T:TreeF) (next:Int) (H:TreeG w a b n T next) (s t:ByteArray) (hs:s.size ≤ 1000000) (ht:t.size ≤ 1000000) (hn:n ≤ 100000) :
  Calls Tryz.prog 98 #[.pointer (some ⟨a,0,none⟩),.string s,.string t] w fun e w' => e = .returned (.bool (decide (deepG T s t))) ∧ Below w.heap.size w w':=by
 obtain ⟨mg,hm⟩:=H.glob
 have h1lt:1 < w.heap.size:=World.block_lt_of_cell? w ⟨1,0,none⟩ hm
 have HU:=Lib.hid (under_g w a b n T next H s hs hn)
 have SP:Hid (∀ W q,Below w.heap.size w W → (T q).isSome = true → Calls Tryz.prog 96 #[.string (movedP s t q)] W (splitPost (movedP s t q) W)):=Lib.hid (fun W q hW hq => by
  obtain ⟨x,hx⟩:=Option.isSome_iff_exists.1 hq
  have h64:=H.small q x hx
  have hsz:(movedP s t q).size ≤ 2000000:=by
   unfold movedP
   rw [ByteArray.size_append,ByteArray.size_extract]
   omega
  exact split_any _ (by omega) mg W ((hW.cell (p:=⟨1,0,none⟩) h1lt).trans hm))
 have HS:=Lib.hid H.small
 obtain ⟨D,hD⟩:∃ D,Hid (D = decide (deepG T s t)):=⟨_,Lib.hid rfl⟩
 rw [← hD.out]
 clear H hm
 go_enter Tryz.func98,Tryz.ntmps98
 go_wp2_with (go_at_call 99;with_reducible refine HU.out.mono ?_;rintro e1 w1 ⟨v,qs,rfl,hU,hsl,hqn,hq⟩;obtain ⟨pa,pk,rfl,c1,c2,c3⟩:=gnodes_cells (Sl.of_own hsl.1 (gnodes_one _ _) hsl.2);have UO:=Lib.hid hU;have PC:=Lib.hid c3;have Q1:=Lib.hid hq;obtain ⟨m,hmq⟩:∃ m,Hid (m = qs.length):=⟨_,Lib.hid rfl⟩;rw [← hmq.out] at hqn c1 c2 ⊢;clear hq hU hsl c3)
 go_loopw [8,9,10,15] (fun _ _ _ ti wr => ∃ k:Nat,k ≤ m ∧ ti = .int .i64 k ∧ Hid (∀ j q,j < k → qs[j]? = some q → splitP (movedP s t q) ≠ none) ∧ Hid (Below w1.heap.size w1 wr)) (fun _ _ _ ti _ => m - (intOf ti).toNat)
 case atStart => exact ⟨0,by omega,rfl,Lib.hid (fun j q hj => by omega),Lib.hid (Below.refl _ _)⟩
 case round =>
  obtain ⟨k,hk,rfl,hno,hb⟩:=hrel
  by_cases hlt:k < m
  ·obtain ⟨q,hq⟩:∃ q,qs[k]? = some q:=⟨_,List.getElem?_eq_getElem (by rw [← hmq.out];exact hlt)⟩
   obtain ⟨g,off,rfl,hg,c0,cc1,cc2⟩:=PC.out k q hq
   have tr:∀ o u,w1.cell? ⟨g,o,none⟩ = some u → wr.cell? ⟨g,o,none⟩ = some u:=fun o u h => (hb.out.cell (p:=⟨g,o,none⟩) hg).trans h
   have q0:=tr _ _ c0
   have q1:=tr _ _ cc1
   have q2:=tr _ _ cc2
   obtain ⟨hT,hub⟩:=(UO.out.mem q).1 (List.mem_of_getElem? hq)
   have hsq:=underB_size hub
   obtain ⟨x,hx⟩:=Option.isSome_iff_exists.1 hT
   have h64:=HS.out q x hx
   have hbs:=Q1.out.size
   have hbw:Hid (Below w.heap.size w wr):=Lib.hid (Q1.out.trans (hb.out.mono hbs))
   have SQ:Hid (∀ o,Calls Tryz.prog 96 #[.string (t ++ q.extract s.size q.size)] (wr.alloc o) (splitPost (movedP s t q) (wr.alloc o))):=Lib.hid (fun o => SP.out (wr.alloc o) q (hbw.out.alloc hbw.out.size o) hT)
   have HQ:=Lib.hid hq
   have HT:=Lib.hid (And.intro hT hub)
   have dk:(k:Int) < m:=by omega
   have e1:(s.size:Int) ≤ q.size:=by omega
   have e2:¬ (9223372036854775807 < t.size + (q.size - s.size)):=by omega
   obtain ⟨i1,hi1⟩:∃ i:Int,Hid (i = ((T q).getD (0,false)).1):=⟨_,Lib.hid rfl⟩
   obtain ⟨i2,hi2⟩:∃ i:Bool,Hid (i = ((T q).getD (0,false)).2):=⟨_,Lib.hid rfl⟩
   rw [← hi1.out] at q1
   rw [← hi2.out] at q2
   clear c0 cc1 cc2 tr hq hT hub hx
   cases hsp:splitP (movedP s t q) with
   | none =>
    have HSP:=Lib.hid hsp
    clear hsp
    have hDv:D = true:=by
     rw [hD.out]
     exact decide_eq_true ⟨q,HT.out.1,HT.out.2,HSP.out⟩
    subst hDv
    go_wp2_with (go_at_call 96;refine (SQ.out _).mono ?_;rintro e2 w2 ⟨hpost,hq2⟩;rw [HSP.out] at hpost;have hpost2:e2 = .returned (.tuple #[.slice none 0 0,.int .i64 3]):=hpost;subst hpost2;have Q2:=Lib.hid ((hbw.out.alloc hbw.out.size _).trans (hq2.mono (by have:=hbw.out.size;simp;omega)));clear hpost hq2)
    go_ret
    exact ⟨rfl,Q2.out⟩
   | some L =>
    have HSP:=Lib.hid hsp
    clear hsp
    go_wp2_with (go_at_call 96;refine (SQ.out _).mono ?_;rintro e2 w2 ⟨hpost,hq2⟩;rw [HSP.out] at hpost;obtain ⟨v2,hpost2,-⟩:=hpost;subst hpost2;have Q2:=Lib.hid ((hb.out.alloc hb.out.size _).trans (hq2.mono (by have:=hb.out.size;simp;omega)));clear hq2)
    go_roundw
    case rel => exact ⟨k + 1,by omega,by go_num,Lib.hid (fun j q2 hj hq2 => by
      by_cases e:j = k
      ·subst e
       rw [HQ.out] at hq2
       cases hq2
       rw [HSP.out]
       simp
      ·exact hno.out j q2 (by omega) hq2),Q2⟩
    case measure => simp [intOf];omega
  ·have hkm:k = m:=by omega
   have hDv:D = false:=by
    rw [hD.out]
    refine decide_eq_false ?_
    rintro ⟨q,h1,h2,h3⟩
    obtain ⟨j,hj⟩:=List.mem_iff_getElem?.1 ((UO.out.mem q).2 ⟨h1,h2⟩)
    exact hno.out j q (by rw [hkm,hmq.out];exact (List.getElem?_eq_some_iff.1 hj).1) hj h3
   subst hDv
   have dk:¬ ((k:Int) < m):=by omega
   go_wp2
   go_ret
   exact ⟨rfl,Q1.out.trans (hb.out.mono Q1.out.size)⟩
end Go.Proofs.YtaonlcgneemimaaGreatDoor
namespace Go.Proofs.YtaonlcgneemimaaGreatDoor
open Go.RowKit
open Classical in
noncomputable def canRenG (T:TreeF) (s t:ByteArray):Int :=
 if splitP s = none ∨ splitP t = none then 3
 else if (lookG T s).2.2 ≠ 0 then (lookG T s).2.2
 else if s.toList = [47] then 8
 else if underP t s = true then 10
 else if parentG T t ≠ 0 then parentG T t
 else if s.toList = t.toList then 0
 else if t.toList = [47] ∨ ((T t).isSome = true ∧ (((T t).getD (0,false)).2 = true ∨ (lookG T s).2.1 = true)) then 5
 else if deepG T s t then 3 else 0
theorem split_two (s:ByteArray) (hs:s.size ≤ 1000000) (m:Int) (w:World) (hm:w.cell? ⟨1,0,none⟩ = some (.int .i64 m)) :
  Calls Tryz.prog 96 #[.string s] w fun e w' => ∃ a n c,e = .returned (.tuple #[.slice a n c,.int .i64 (if splitP s = none then 3 else 0)]) ∧ Below w.heap.size w w':=by
 refine (split_any s (by omega) m w hm).mono ?_
 rintro e w' ⟨h,hb⟩
 cases hP:splitP s with
 | none =>
  rw [hP] at h
  exact ⟨none,0,0,by rw [if_pos rfl];exact h,hb⟩
 | some l =>
  rw [hP] at h
  obtain ⟨v,rfl,hv⟩:=h
  rw [if_neg (by simp)]
  rcases hv with ⟨-,rfl⟩ | ⟨g,-,-,-,rfl,-⟩
  ·exact ⟨none,0,0,rfl,hb⟩
  ·exact ⟨_,_,_,rfl,hb⟩
open Classical in
set_option maxRecDepth 100000 in
set_option maxHeartbeats 8000000 in
theorem canRename_g (w:World) (a b n:Nat) (T:TreeF) (next:Int) (H:TreeG w a b n T next) (s t:ByteArray) (hs:s.size ≤ 1000000) (ht:t.size ≤ 1000000) (hn:n ≤ 100000) :
  Calls Tryz.prog 52 #[.pointer (some ⟨a,0,none⟩),.string s,.string t] w fun e w' => e = .returned (.int .i64 (canRenG T s t)) ∧ Below w.heap.size w w':=by
 obtain ⟨m,hm⟩:=H.glob
 have h1:1 < w.heap.size:=World.block_lt_of_cell? w ⟨1,0,none⟩ hm
 have GM:Hid (∀ W,Below w.heap.size w W → W.cell? ⟨1,0,none⟩ = some (.int .i64 m)):=Lib.hid (fun W hW => (hW.cell (p:=⟨1,0,none⟩) h1).trans hm)
 have HH:=Lib.hid H
 have SC:=Lib.hid (fun W (hW:Below w.heap.size w W) => split_two s hs m W (GM.out W hW))
 have SD:=Lib.hid (fun W (hW:Below w.heap.size w W) => split_two t ht m W (GM.out W hW))
 have LK:=Lib.hid (fun W (hW:Below w.heap.size w W) => look_g W a b n T next (HH.out.below hW) s hs)
 have UN:=Lib.hid (fun W (hW:Below w.heap.size w W) => under_any t s (by omega) (by omega) m W (by have:=hW.size;omega) (GM.out W hW))
 have PA:=Lib.hid (fun W (hW:Below w.heap.size w W) => parent_g W a b n T next (HH.out.below hW) t ht)
 have DP:=Lib.hid (fun W (hW:Below w.heap.size w W) => deep_g W a b n T next (HH.out.below hW) s t hs ht hn)
 obtain ⟨ns,ni,nd,ok,hv⟩:=foundV (T:=T) t
 have LU:Hid (∀ W,Below w.heap.size w W → W.cell? ⟨a,0,none⟩ = some (.map (some b)) ∧ (Instr.lookup 166 (.map (some b)) (.string t) true).run Tryz.prog W = .ok (.tuple #[.agg #[.string ns,.int .i64 ni,.bool nd],.bool ok]) W):=Lib.hid (fun W hW => ⟨cellAt (HH.out.below hW).cell 0,HH.out.lookup t ht ns ni nd ok hv.out.1 hv.out.2.1 W (hW.block b HH.out.map.lt)⟩)
 have hTs:(T t).isSome = ok:=by rw [← hv.out.2.1];unfold gmap;cases T t <;> rfl
 have hTd:ok = true → ((T t).getD (0,false)).2 = nd:=fun h => by rw [hv.out.2.2.2.1 h];rfl
 obtain ⟨ri,rd,re,hR⟩:∃ ri rd re,lookG T s = (ri,rd,re):=⟨_,_,_,rfl⟩
 obtain ⟨C,hC⟩:∃ C,C = canRenG T s t:=⟨_,rfl⟩
 rw [← hC]
 unfold canRenG at hC
 rw [hR,hTs] at hC
 rw [hR] at LK
 simp only at hC
 clear H hm hv
 by_cases hss:splitP s = none
 ·rw [if_pos (.inl hss)] at hC
  have hss2:(if splitP s = none then (3:Int) else 0) = 3:=if_pos hss
  by_cases hst:splitP t = none
  ·have hst2:(if splitP t = none then (3:Int) else 0) = 3:=if_pos hst
   subst hC
   clear hss hst hR
   go_enter Tryz.func52,Tryz.ntmps52
   go_wp2_with (first | (go_at_call 96;with_reducible refine (SC.out w (Below.refl _ _)).mono ?_;rintro e1 w1 ⟨a1,n1,k1,rfl,hq⟩;have Q1:=Lib.hid hq;clear hq;simp only [hss2]) | (go_at_call 96;with_reducible refine (SD.out w1 Q1.out).mono ?_;rintro e1 w2 ⟨a2,n2,k2,rfl,hq⟩;have Q2:=Lib.hid (Q1.out.trans (hq.mono Q1.out.size));clear hq;simp only [hst2]) | (go_at_call 87;with_reducible refine (LK.out w2 Q2.out).mono ?_;rintro e1 w3 ⟨rfl,hq⟩;have Q3:=Lib.hid (Q2.out.trans (hq.mono Q2.out.size));clear hq;unfold lookR) | (go_at_call 97;with_reducible refine (UN.out w3 Q3.out).mono ?_;rintro e1 w4 ⟨rfl,hq⟩;have Q4:=Lib.hid (Q3.out.trans (hq.mono Q3.out.size));clear hq;simp only [hun]) | (go_at_call 95;with_reducible refine (PA.out w4 Q4.out).mono ?_;rintro e1 w5 ⟨rfl,hq⟩;have Q5:=Lib.hid (Q4.out.trans (hq.mono Q4.out.size));(have hlu:=LU.out w5 Q5.out);obtain ⟨hl1,hl2⟩:=hlu;have Q6:=Lib.hid (fun o => Q5.out.alloc Q5.out.size o);clear hq;simp only [hpar]) | (go_at_call 98;with_reducible refine (DP.out _ (Q6.out _)).mono ?_;rintro e1 w6 ⟨rfl,hq⟩;have Q7:=Lib.hid ((Q6.out _).trans (hq.mono (Q6.out _).size));clear hq;simp only [hdp]))
   go_ret
   first | exact ⟨rfl,Q7.out⟩ | exact ⟨rfl,Q6.out _⟩ | exact ⟨rfl,Q5.out⟩ | exact ⟨rfl,Q4.out⟩ | exact ⟨rfl,Q3.out⟩ | exact ⟨rfl,Q2.out⟩
  ·have hst2:(if splitP t = none then (3:Int) else 0) = 0:=if_neg hst
   subst hC
   clear hss hst hR
   go_enter Tryz.func52,Tryz.ntmps52
   go_wp2_with (first | (go_at_call 96;with_reducible refine (SC.out w (Below.refl _ _)).mono ?_;rintro e1 w1 ⟨a1,n1,k1,rfl,hq⟩;have Q1:=Lib.hid hq;clear hq;simp only [hss2]) | (go_at_call 96;with_reducible refine (SD.out w1 Q1.out).mono ?_;rintro e1 w2 ⟨a2,n2,k2,rfl,hq⟩;have Q2:=Lib.hid (Q1.out.trans (hq.mono Q1.out.size));clear hq;simp only [hst2]) | (go_at_call 87;with_reducible refine (LK.out w2 Q2.out).mono ?_;rintro e1 w3 ⟨rfl,hq⟩;have Q3:=Lib.hid (Q2.out.trans (hq.mono Q2.out.size));clear hq;unfold lookR) | (go_at_call 97;with_reducible refine (UN.out w3 Q3.out).mono ?_;rintro e1 w4 ⟨rfl,hq⟩;have Q4:=Lib.hid (Q3.out.trans (hq.mono Q3.out.size));clear hq;simp only [hun]) | (go_at_call 95;with_reducible refine (PA.out w4 Q4.out).mono ?_;rintro e1 w5 ⟨rfl,hq⟩;have Q5:=Lib.hid (Q4.out.trans (hq.mono Q4.out.size));(have hlu:=LU.out w5 Q5.out);obtain ⟨hl1,hl2⟩:=hlu;have Q6:=Lib.hid (fun o => Q5.out.alloc Q5.out.size o);clear hq;simp only [hpar]) | (go_at_call 98;with_reducible refine (DP.out _ (Q6.out _)).mono ?_;rintro e1 w6 ⟨rfl,hq⟩;have Q7:=Lib.hid ((Q6.out _).trans (hq.mono (Q6.out _).size));clear hq;simp only [hdp]))
   go_ret
   first | exact ⟨rfl,Q7.out⟩ | exact ⟨rfl,Q6.out _⟩ | exact ⟨rfl,Q5.out⟩ | exact ⟨rfl,Q4.out⟩ | exact ⟨rfl,Q3.out⟩ | exact ⟨rfl,Q2.out⟩
 have hss2:(if splitP s = none then (3:Int) else 0) = 0:=if_neg hss
 by_cases hst:splitP t = none
 ·rw [if_pos (.inr hst)] at hC
  have hst2:(if splitP t = none then (3:Int) else 0) = 3:=if_pos hst
  subst hC
  clear hss hst hR
  go_enter Tryz.func52,Tryz.ntmps52
  go_wp2_with (first | (go_at_call 96;with_reducible refine (SC.out w (Below.refl _ _)).mono ?_;rintro e1 w1 ⟨a1,n1,k1,rfl,hq⟩;have Q1:=Lib.hid hq;clear hq;simp only [hss2]) | (go_at_call 96;with_reducible refine (SD.out w1 Q1.out).mono ?_;rintro e1 w2 ⟨a2,n2,k2,rfl,hq⟩;have Q2:=Lib.hid (Q1.out.trans (hq.mono Q1.out.size));clear hq;simp only [hst2]) | (go_at_call 87;with_reducible refine (LK.out w2 Q2.out).mono ?_;rintro e1 w3 ⟨rfl,hq⟩;have Q3:=Lib.hid (Q2.out.trans (hq.mono Q2.out.size));clear hq;unfold lookR) | (go_at_call 97;with_reducible refine (UN.out w3 Q3.out).mono ?_;rintro e1 w4 ⟨rfl,hq⟩;have Q4:=Lib.hid (Q3.out.trans (hq.mono Q3.out.size));clear hq;simp only [hun]) | (go_at_call 95;with_reducible refine (PA.out w4 Q4.out).mono ?_;rintro e1 w5 ⟨rfl,hq⟩;have Q5:=Lib.hid (Q4.out.trans (hq.mono Q4.out.size));(have hlu:=LU.out w5 Q5.out);obtain ⟨hl1,hl2⟩:=hlu;have Q6:=Lib.hid (fun o => Q5.out.alloc Q5.out.size o);clear hq;simp only [hpar]) | (go_at_call 98;with_reducible refine (DP.out _ (Q6.out _)).mono ?_;rintro e1 w6 ⟨rfl,hq⟩;have Q7:=Lib.hid ((Q6.out _).trans (hq.mono (Q6.out _).size));clear hq;simp only [hdp]))
  go_ret
  first | exact ⟨rfl,Q7.out⟩ | exact ⟨rfl,Q6.out _⟩ | exact ⟨rfl,Q5.out⟩ | exact ⟨rfl,Q4.out⟩ | exact ⟨rfl,Q3.out⟩ | exact ⟨rfl,Q2.out⟩
 have hst2:(if splitP t = none then (3:Int) else 0) = 0:=if_neg hst
 rw [if_neg (fun h => h.elim hss hst)] at hC
 clear hss hst
 by_cases hre:re ≠ 0
 ·rw [if_pos hre] at hC
  have d1:(re != 0) = true:=by simpa using hre
  have d2:(re == 0) = false:=by simpa using hre
  subst hC
  clear hR
  go_enter Tryz.func52,Tryz.ntmps52
  go_wp2_with (first | (go_at_call 96;with_reducible refine (SC.out w (Below.refl _ _)).mono ?_;rintro e1 w1 ⟨a1,n1,k1,rfl,hq⟩;have Q1:=Lib.hid hq;clear hq;simp only [hss2]) | (go_at_call 96;with_reducible refine (SD.out w1 Q1.out).mono ?_;rintro e1 w2 ⟨a2,n2,k2,rfl,hq⟩;have Q2:=Lib.hid (Q1.out.trans (hq.mono Q1.out.size));clear hq;simp only [hst2]) | (go_at_call 87;with_reducible refine (LK.out w2 Q2.out).mono ?_;rintro e1 w3 ⟨rfl,hq⟩;have Q3:=Lib.hid (Q2.out.trans (hq.mono Q2.out.size));clear hq;unfold lookR) | (go_at_call 97;with_reducible refine (UN.out w3 Q3.out).mono ?_;rintro e1 w4 ⟨rfl,hq⟩;have Q4:=Lib.hid (Q3.out.trans (hq.mono Q3.out.size));clear hq;simp only [hun]) | (go_at_call 95;with_reducible refine (PA.out w4 Q4.out).mono ?_;rintro e1 w5 ⟨rfl,hq⟩;have Q5:=Lib.hid (Q4.out.trans (hq.mono Q4.out.size));(have hlu:=LU.out w5 Q5.out);obtain ⟨hl1,hl2⟩:=hlu;have Q6:=Lib.hid (fun o => Q5.out.alloc Q5.out.size o);clear hq;simp only [hpar]) | (go_at_call 98;with_reducible refine (DP.out _ (Q6.out _)).mono ?_;rintro e1 w6 ⟨rfl,hq⟩;have Q7:=Lib.hid ((Q6.out _).trans (hq.mono (Q6.out _).size));clear hq;simp only [hdp]))
  go_ret
  first | exact ⟨rfl,Q7.out⟩ | exact ⟨rfl,Q6.out _⟩ | exact ⟨rfl,Q5.out⟩ | exact ⟨rfl,Q4.out⟩ | exact ⟨rfl,Q3.out⟩ | exact ⟨rfl,Q2.out⟩
 have hre:re = 0:=by simpa using hre
 subst hre
 rw [if_neg (by simp)] at hC
 by_cases hro:s.toList = [47]
 ·rw [if_pos hro] at hC
  have d1:(s.toList == [47]) = true:=by simpa using hro
  subst hC
  clear hR hro
  go_enter Tryz.func52,Tryz.ntmps52
  go_wp2_with (first | (go_at_call 96;with_reducible refine (SC.out w (Below.refl _ _)).mono ?_;rintro e1 w1 ⟨a1,n1,k1,rfl,hq⟩;have Q1:=Lib.hid hq;clear hq;simp only [hss2]) | (go_at_call 96;with_reducible refine (SD.out w1 Q1.out).mono ?_;rintro e1 w2 ⟨a2,n2,k2,rfl,hq⟩;have Q2:=Lib.hid (Q1.out.trans (hq.mono Q1.out.size));clear hq;simp only [hst2]) | (go_at_call 87;with_reducible refine (LK.out w2 Q2.out).mono ?_;rintro e1 w3 ⟨rfl,hq⟩;have Q3:=Lib.hid (Q2.out.trans (hq.mono Q2.out.size));clear hq;unfold lookR) | (go_at_call 97;with_reducible refine (UN.out w3 Q3.out).mono ?_;rintro e1 w4 ⟨rfl,hq⟩;have Q4:=Lib.hid (Q3.out.trans (hq.mono Q3.out.size));clear hq;simp only [hun]) | (go_at_call 95;with_reducible refine (PA.out w4 Q4.out).mono ?_;rintro e1 w5 ⟨rfl,hq⟩;have Q5:=Lib.hid (Q4.out.trans (hq.mono Q4.out.size));(have hlu:=LU.out w5 Q5.out);obtain ⟨hl1,hl2⟩:=hlu;have Q6:=Lib.hid (fun o => Q5.out.alloc Q5.out.size o);clear hq;simp only [hpar]) | (go_at_call 98;with_reducible refine (DP.out _ (Q6.out _)).mono ?_;rintro e1 w6 ⟨rfl,hq⟩;have Q7:=Lib.hid ((Q6.out _).trans (hq.mono (Q6.out _).size));clear hq;simp only [hdp]))
  go_ret
  first | exact ⟨rfl,Q7.out⟩ | exact ⟨rfl,Q6.out _⟩ | exact ⟨rfl,Q5.out⟩ | exact ⟨rfl,Q4.out⟩ | exact ⟨rfl,Q3.out⟩ | exact ⟨rfl,Q2.out⟩
 rw [if_neg hro] at hC
 have dro:(s.toList == [47]) = false:=by simpa using hro
 clear hro
 by_cases hun:underP t s = true
 ·rw [if_pos hun] at hC
  subst hC
  clear hR
  go_enter Tryz.func52,Tryz.ntmps52
  go_wp2_with (first | (go_at_call 96;with_reducible refine (SC.out w (Below.refl _ _)).mono ?_;rintro e1 w1 ⟨a1,n1,k1,rfl,hq⟩;have Q1:=Lib.hid hq;clear hq;simp only [hss2]) | (go_at_call 96;with_reducible refine (SD.out w1 Q1.out).mono ?_;rintro e1 w2 ⟨a2,n2,k2,rfl,hq⟩;have Q2:=Lib.hid (Q1.out.trans (hq.mono Q1.out.size));clear hq;simp only [hst2]) | (go_at_call 87;with_reducible refine (LK.out w2 Q2.out).mono ?_;rintro e1 w3 ⟨rfl,hq⟩;have Q3:=Lib.hid (Q2.out.trans (hq.mono Q2.out.size));clear hq;unfold lookR) | (go_at_call 97;with_reducible refine (UN.out w3 Q3.out).mono ?_;rintro e1 w4 ⟨rfl,hq⟩;have Q4:=Lib.hid (Q3.out.trans (hq.mono Q3.out.size));clear hq;simp only [hun]) | (go_at_call 95;with_reducible refine (PA.out w4 Q4.out).mono ?_;rintro e1 w5 ⟨rfl,hq⟩;have Q5:=Lib.hid (Q4.out.trans (hq.mono Q4.out.size));(have hlu:=LU.out w5 Q5.out);obtain ⟨hl1,hl2⟩:=hlu;have Q6:=Lib.hid (fun o => Q5.out.alloc Q5.out.size o);clear hq;simp only [hpar]) | (go_at_call 98;with_reducible refine (DP.out _ (Q6.out _)).mono ?_;rintro e1 w6 ⟨rfl,hq⟩;have Q7:=Lib.hid ((Q6.out _).trans (hq.mono (Q6.out _).size));clear hq;simp only [hdp]))
  go_ret
  first | exact ⟨rfl,Q7.out⟩ | exact ⟨rfl,Q6.out _⟩ | exact ⟨rfl,Q5.out⟩ | exact ⟨rfl,Q4.out⟩ | exact ⟨rfl,Q3.out⟩ | exact ⟨rfl,Q2.out⟩
 rw [if_neg hun] at hC
 have hun:underP t s = false:=by simpa using hun
 obtain ⟨P,hpar⟩:∃ P,parentG T t = P:=⟨_,rfl⟩
 rw [hpar] at hC
 by_cases hp0:P ≠ 0
 ·rw [if_pos hp0] at hC
  have d1:(P != 0) = true:=by simpa using hp0
  have d2:(P == 0) = false:=by simpa using hp0
  subst hC
  clear hR
  go_enter Tryz.func52,Tryz.ntmps52
  go_wp2_with (first | (go_at_call 96;with_reducible refine (SC.out w (Below.refl _ _)).mono ?_;rintro e1 w1 ⟨a1,n1,k1,rfl,hq⟩;have Q1:=Lib.hid hq;clear hq;simp only [hss2]) | (go_at_call 96;with_reducible refine (SD.out w1 Q1.out).mono ?_;rintro e1 w2 ⟨a2,n2,k2,rfl,hq⟩;have Q2:=Lib.hid (Q1.out.trans (hq.mono Q1.out.size));clear hq;simp only [hst2]) | (go_at_call 87;with_reducible refine (LK.out w2 Q2.out).mono ?_;rintro e1 w3 ⟨rfl,hq⟩;have Q3:=Lib.hid (Q2.out.trans (hq.mono Q2.out.size));clear hq;unfold lookR) | (go_at_call 97;with_reducible refine (UN.out w3 Q3.out).mono ?_;rintro e1 w4 ⟨rfl,hq⟩;have Q4:=Lib.hid (Q3.out.trans (hq.mono Q3.out.size));clear hq;simp only [hun]) | (go_at_call 95;with_reducible refine (PA.out w4 Q4.out).mono ?_;rintro e1 w5 ⟨rfl,hq⟩;have Q5:=Lib.hid (Q4.out.trans (hq.mono Q4.out.size));(have hlu:=LU.out w5 Q5.out);obtain ⟨hl1,hl2⟩:=hlu;have Q6:=Lib.hid (fun o => Q5.out.alloc Q5.out.size o);clear hq;simp only [hpar]) | (go_at_call 98;with_reducible refine (DP.out _ (Q6.out _)).mono ?_;rintro e1 w6 ⟨rfl,hq⟩;have Q7:=Lib.hid ((Q6.out _).trans (hq.mono (Q6.out _).size));clear hq;simp only [hdp]))
  go_ret
  first | exact ⟨rfl,Q7.out⟩ | exact ⟨rfl,Q6.out _⟩ | exact ⟨rfl,Q5.out⟩ | exact ⟨rfl,Q4.out⟩ | exact ⟨rfl,Q3.out⟩ | exact ⟨rfl,Q2.out⟩
 have hp0:P = 0:=by simpa using hp0
 subst hp0
 rw [if_neg (by simp)] at hC
 by_cases heq:s.toList = t.toList
 ·rw [if_pos heq] at hC
  have d1:(s.toList == t.toList) = true:=by simpa using heq
  subst hC
  clear hR heq
  go_enter Tryz.func52,Tryz.ntmps52
  go_wp2_with (first | (go_at_call 96;with_reducible refine (SC.out w (Below.refl _ _)).mono ?_;rintro e1 w1 ⟨a1,n1,k1,rfl,hq⟩;have Q1:=Lib.hid hq;clear hq;simp only [hss2]) | (go_at_call 96;with_reducible refine (SD.out w1 Q1.out).mono ?_;rintro e1 w2 ⟨a2,n2,k2,rfl,hq⟩;have Q2:=Lib.hid (Q1.out.trans (hq.mono Q1.out.size));clear hq;simp only [hst2]) | (go_at_call 87;with_reducible refine (LK.out w2 Q2.out).mono ?_;rintro e1 w3 ⟨rfl,hq⟩;have Q3:=Lib.hid (Q2.out.trans (hq.mono Q2.out.size));clear hq;unfold lookR) | (go_at_call 97;with_reducible refine (UN.out w3 Q3.out).mono ?_;rintro e1 w4 ⟨rfl,hq⟩;have Q4:=Lib.hid (Q3.out.trans (hq.mono Q3.out.size));clear hq;simp only [hun]) | (go_at_call 95;with_reducible refine (PA.out w4 Q4.out).mono ?_;rintro e1 w5 ⟨rfl,hq⟩;have Q5:=Lib.hid (Q4.out.trans (hq.mono Q4.out.size));(have hlu:=LU.out w5 Q5.out);obtain ⟨hl1,hl2⟩:=hlu;have Q6:=Lib.hid (fun o => Q5.out.alloc Q5.out.size o);clear hq;simp only [hpar]) | (go_at_call 98;with_reducible refine (DP.out _ (Q6.out _)).mono ?_;rintro e1 w6 ⟨rfl,hq⟩;have Q7:=Lib.hid ((Q6.out _).trans (hq.mono (Q6.out _).size));clear hq;simp only [hdp]))
  go_ret
  first | exact ⟨rfl,Q7.out⟩ | exact ⟨rfl,Q6.out _⟩ | exact ⟨rfl,Q5.out⟩ | exact ⟨rfl,Q4.out⟩ | exact ⟨rfl,Q3.out⟩ | exact ⟨rfl,Q2.out⟩
 rw [if_neg heq] at hC
 have deq:(s.toList == t.toList) = false:=by simpa using heq
 clear heq
 by_cases hto:t.toList = [47]
 ·rw [if_pos (.inl hto)] at hC
  have d1:(t.toList == [47]) = true:=by simpa using hto
  subst hC
  clear hR hto
  go_enter Tryz.func52,Tryz.ntmps52
  go_wp2_with (first | (go_at_call 96;with_reducible refine (SC.out w (Below.refl _ _)).mono ?_;rintro e1 w1 ⟨a1,n1,k1,rfl,hq⟩;have Q1:=Lib.hid hq;clear hq;simp only [hss2]) | (go_at_call 96;with_reducible refine (SD.out w1 Q1.out).mono ?_;rintro e1 w2 ⟨a2,n2,k2,rfl,hq⟩;have Q2:=Lib.hid (Q1.out.trans (hq.mono Q1.out.size));clear hq;simp only [hst2]) | (go_at_call 87;with_reducible refine (LK.out w2 Q2.out).mono ?_;rintro e1 w3 ⟨rfl,hq⟩;have Q3:=Lib.hid (Q2.out.trans (hq.mono Q2.out.size));clear hq;unfold lookR) | (go_at_call 97;with_reducible refine (UN.out w3 Q3.out).mono ?_;rintro e1 w4 ⟨rfl,hq⟩;have Q4:=Lib.hid (Q3.out.trans (hq.mono Q3.out.size));clear hq;simp only [hun]) | (go_at_call 95;with_reducible refine (PA.out w4 Q4.out).mono ?_;rintro e1 w5 ⟨rfl,hq⟩;have Q5:=Lib.hid (Q4.out.trans (hq.mono Q4.out.size));(have hlu:=LU.out w5 Q5.out);obtain ⟨hl1,hl2⟩:=hlu;have Q6:=Lib.hid (fun o => Q5.out.alloc Q5.out.size o);clear hq;simp only [hpar]) | (go_at_call 98;with_reducible refine (DP.out _ (Q6.out _)).mono ?_;rintro e1 w6 ⟨rfl,hq⟩;have Q7:=Lib.hid ((Q6.out _).trans (hq.mono (Q6.out _).size));clear hq;simp only [hdp]))
  go_ret
  first | exact ⟨rfl,Q7.out⟩ | exact ⟨rfl,Q6.out _⟩ | exact ⟨rfl,Q5.out⟩ | exact ⟨rfl,Q4.out⟩ | exact ⟨rfl,Q3.out⟩ | exact ⟨rfl,Q2.out⟩
 have dto:(t.toList == [47]) = false:=by simpa using hto
 by_cases hth:ok = true ∧ (nd = true ∨ rd = true)
 ·obtain ⟨hok,hnr⟩:=hth
  rw [if_pos (.inr ⟨hok,by rw [hTd hok];exact hnr⟩)] at hC
  subst hok
  clear hto
  rcases hnr with hnr | hnr
  ·subst hnr
   subst hC
   clear hR
   go_enter Tryz.func52,Tryz.ntmps52
   go_wp2_with (first | (go_at_call 96;with_reducible refine (SC.out w (Below.refl _ _)).mono ?_;rintro e1 w1 ⟨a1,n1,k1,rfl,hq⟩;have Q1:=Lib.hid hq;clear hq;simp only [hss2]) | (go_at_call 96;with_reducible refine (SD.out w1 Q1.out).mono ?_;rintro e1 w2 ⟨a2,n2,k2,rfl,hq⟩;have Q2:=Lib.hid (Q1.out.trans (hq.mono Q1.out.size));clear hq;simp only [hst2]) | (go_at_call 87;with_reducible refine (LK.out w2 Q2.out).mono ?_;rintro e1 w3 ⟨rfl,hq⟩;have Q3:=Lib.hid (Q2.out.trans (hq.mono Q2.out.size));clear hq;unfold lookR) | (go_at_call 97;with_reducible refine (UN.out w3 Q3.out).mono ?_;rintro e1 w4 ⟨rfl,hq⟩;have Q4:=Lib.hid (Q3.out.trans (hq.mono Q3.out.size));clear hq;simp only [hun]) | (go_at_call 95;with_reducible refine (PA.out w4 Q4.out).mono ?_;rintro e1 w5 ⟨rfl,hq⟩;have Q5:=Lib.hid (Q4.out.trans (hq.mono Q4.out.size));(have hlu:=LU.out w5 Q5.out);obtain ⟨hl1,hl2⟩:=hlu;have Q6:=Lib.hid (fun o => Q5.out.alloc Q5.out.size o);clear hq;simp only [hpar]) | (go_at_call 98;with_reducible refine (DP.out _ (Q6.out _)).mono ?_;rintro e1 w6 ⟨rfl,hq⟩;have Q7:=Lib.hid ((Q6.out _).trans (hq.mono (Q6.out _).size));clear hq;simp only [hdp]))
   go_ret
   first | exact ⟨rfl,Q7.out⟩ | exact ⟨rfl,Q6.out _⟩ | exact ⟨rfl,Q5.out⟩ | exact ⟨rfl,Q4.out⟩ | exact ⟨rfl,Q3.out⟩ | exact ⟨rfl,Q2.out⟩
  ·subst hnr
   cases nd
   all_goals subst hC
   all_goals clear hR
   all_goals go_enter Tryz.func52,Tryz.ntmps52
   all_goals go_wp2_with (first | (go_at_call 96;with_reducible refine (SC.out w (Below.refl _ _)).mono ?_;rintro e1 w1 ⟨a1,n1,k1,rfl,hq⟩;have Q1:=Lib.hid hq;clear hq;simp only [hss2]) | (go_at_call 96;with_reducible refine (SD.out w1 Q1.out).mono ?_;rintro e1 w2 ⟨a2,n2,k2,rfl,hq⟩;have Q2:=Lib.hid (Q1.out.trans (hq.mono Q1.out.size));clear hq;simp only [hst2]) | (go_at_call 87;with_reducible refine (LK.out w2 Q2.out).mono ?_;rintro e1 w3 ⟨rfl,hq⟩;have Q3:=Lib.hid (Q2.out.trans (hq.mono Q2.out.size));clear hq;unfold lookR) | (go_at_call 97;with_reducible refine (UN.out w3 Q3.out).mono ?_;rintro e1 w4 ⟨rfl,hq⟩;have Q4:=Lib.hid (Q3.out.trans (hq.mono Q3.out.size));clear hq;simp only [hun]) | (go_at_call 95;with_reducible refine (PA.out w4 Q4.out).mono ?_;rintro e1 w5 ⟨rfl,hq⟩;have Q5:=Lib.hid (Q4.out.trans (hq.mono Q4.out.size));(have hlu:=LU.out w5 Q5.out);obtain ⟨hl1,hl2⟩:=hlu;have Q6:=Lib.hid (fun o => Q5.out.alloc Q5.out.size o);clear hq;simp only [hpar]) | (go_at_call 98;with_reducible refine (DP.out _ (Q6.out _)).mono ?_;rintro e1 w6 ⟨rfl,hq⟩;have Q7:=Lib.hid ((Q6.out _).trans (hq.mono (Q6.out _).size));clear hq;simp only [hdp]))
   all_goals go_ret
   all_goals first | exact ⟨rfl,Q7.out⟩ | exact ⟨rfl,Q6.out _⟩ | exact ⟨rfl,Q5.out⟩ | exact ⟨rfl,Q4.out⟩ | exact ⟨rfl,Q3.out⟩ | exact ⟨rfl,Q2.out⟩
 rw [if_neg (fun h => h.elim hto (fun h2 => hth ⟨h2.1,by rw [← hTd h2.1];exact h2.2⟩))] at hC
 clear hto
 have hcase:ok = false ∨ (ok = true ∧ nd = false ∧ rd = false):=by
  cases ok
  ·exact .inl rfl
  ·exact .inr ⟨rfl,by simpa using fun h => hth ⟨rfl,.inl h⟩,by simpa using fun h => hth ⟨rfl,.inr h⟩⟩
 clear hth
 by_cases hdp:deepG T s t
 ·rw [if_pos hdp] at hC
  have hdp:decide (deepG T s t) = true:=decide_eq_true hdp
  rcases hcase with hok | ⟨hok,hnd,hrd⟩
  ·subst hok
   subst hC
   clear hR
   go_enter Tryz.func52,Tryz.ntmps52
   go_wp2_with (first | (go_at_call 96;with_reducible refine (SC.out w (Below.refl _ _)).mono ?_;rintro e1 w1 ⟨a1,n1,k1,rfl,hq⟩;have Q1:=Lib.hid hq;clear hq;simp only [hss2]) | (go_at_call 96;with_reducible refine (SD.out w1 Q1.out).mono ?_;rintro e1 w2 ⟨a2,n2,k2,rfl,hq⟩;have Q2:=Lib.hid (Q1.out.trans (hq.mono Q1.out.size));clear hq;simp only [hst2]) | (go_at_call 87;with_reducible refine (LK.out w2 Q2.out).mono ?_;rintro e1 w3 ⟨rfl,hq⟩;have Q3:=Lib.hid (Q2.out.trans (hq.mono Q2.out.size));clear hq;unfold lookR) | (go_at_call 97;with_reducible refine (UN.out w3 Q3.out).mono ?_;rintro e1 w4 ⟨rfl,hq⟩;have Q4:=Lib.hid (Q3.out.trans (hq.mono Q3.out.size));clear hq;simp only [hun]) | (go_at_call 95;with_reducible refine (PA.out w4 Q4.out).mono ?_;rintro e1 w5 ⟨rfl,hq⟩;have Q5:=Lib.hid (Q4.out.trans (hq.mono Q4.out.size));(have hlu:=LU.out w5 Q5.out);obtain ⟨hl1,hl2⟩:=hlu;have Q6:=Lib.hid (fun o => Q5.out.alloc Q5.out.size o);clear hq;simp only [hpar]) | (go_at_call 98;with_reducible refine (DP.out _ (Q6.out _)).mono ?_;rintro e1 w6 ⟨rfl,hq⟩;have Q7:=Lib.hid ((Q6.out _).trans (hq.mono (Q6.out _).size));clear hq;simp only [hdp]))
   go_ret
   first | exact ⟨rfl,Q7.out⟩ | exact ⟨rfl,Q6.out _⟩ | exact ⟨rfl,Q5.out⟩ | exact ⟨rfl,Q4.out⟩ | exact ⟨rfl,Q3.out⟩ | exact ⟨rfl,Q2.out⟩
  ·subst hok
   subst hnd
   subst hrd
   subst hC
   clear hR
   go_enter Tryz.func52,Tryz.ntmps52
   go_wp2_with (first | (go_at_call 96;with_reducible refine (SC.out w (Below.refl _ _)).mono ?_;rintro e1 w1 ⟨a1,n1,k1,rfl,hq⟩;have Q1:=Lib.hid hq;clear hq;simp only [hss2]) | (go_at_call 96;with_reducible refine (SD.out w1 Q1.out).mono ?_;rintro e1 w2 ⟨a2,n2,k2,rfl,hq⟩;have Q2:=Lib.hid (Q1.out.trans (hq.mono Q1.out.size));clear hq;simp only [hst2]) | (go_at_call 87;with_reducible refine (LK.out w2 Q2.out).mono ?_;rintro e1 w3 ⟨rfl,hq⟩;have Q3:=Lib.hid (Q2.out.trans (hq.mono Q2.out.size));clear hq;unfold lookR) | (go_at_call 97;with_reducible refine (UN.out w3 Q3.out).mono ?_;rintro e1 w4 ⟨rfl,hq⟩;have Q4:=Lib.hid (Q3.out.trans (hq.mono Q3.out.size));clear hq;simp only [hun]) | (go_at_call 95;with_reducible refine (PA.out w4 Q4.out).mono ?_;rintro e1 w5 ⟨rfl,hq⟩;have Q5:=Lib.hid (Q4.out.trans (hq.mono Q4.out.size));(have hlu:=LU.out w5 Q5.out);obtain ⟨hl1,hl2⟩:=hlu;have Q6:=Lib.hid (fun o => Q5.out.alloc Q5.out.size o);clear hq;simp only [hpar]) | (go_at_call 98;with_reducible refine (DP.out _ (Q6.out _)).mono ?_;rintro e1 w6 ⟨rfl,hq⟩;have Q7:=Lib.hid ((Q6.out _).trans (hq.mono (Q6.out _).size));clear hq;simp only [hdp]))
   go_ret
   first | exact ⟨rfl,Q7.out⟩ | exact ⟨rfl,Q6.out _⟩ | exact ⟨rfl,Q5.out⟩ | exact ⟨rfl,Q4.out⟩ | exact ⟨rfl,Q3.out⟩ | exact ⟨rfl,Q2.out⟩
 ·rw [if_neg hdp] at hC
  have hdp:decide (deepG T s t) = false:=decide_eq_false hdp
  rcases hcase with hok | ⟨hok,hnd,hrd⟩
  ·subst hok
   subst hC
   clear hR
   go_enter Tryz.func52,Tryz.ntmps52
   go_wp2_with (first | (go_at_call 96;with_reducible refine (SC.out w (Below.refl _ _)).mono ?_;rintro e1 w1 ⟨a1,n1,k1,rfl,hq⟩;have Q1:=Lib.hid hq;clear hq;simp only [hss2]) | (go_at_call 96;with_reducible refine (SD.out w1 Q1.out).mono ?_;rintro e1 w2 ⟨a2,n2,k2,rfl,hq⟩;have Q2:=Lib.hid (Q1.out.trans (hq.mono Q1.out.size));clear hq;simp only [hst2]) | (go_at_call 87;with_reducible refine (LK.out w2 Q2.out).mono ?_;rintro e1 w3 ⟨rfl,hq⟩;have Q3:=Lib.hid (Q2.out.trans (hq.mono Q2.out.size));clear hq;unfold lookR) | (go_at_call 97;with_reducible refine (UN.out w3 Q3.out).mono ?_;rintro e1 w4 ⟨rfl,hq⟩;have Q4:=Lib.hid (Q3.out.trans (hq.mono Q3.out.size));clear hq;simp only [hun]) | (go_at_call 95;with_reducible refine (PA.out w4 Q4.out).mono ?_;rintro e1 w5 ⟨rfl,hq⟩;have Q5:=Lib.hid (Q4.out.trans (hq.mono Q4.out.size));(have hlu:=LU.out w5 Q5.out);obtain ⟨hl1,hl2⟩:=hlu;have Q6:=Lib.hid (fun o => Q5.out.alloc Q5.out.size o);clear hq;simp only [hpar]) | (go_at_call 98;with_reducible refine (DP.out _ (Q6.out _)).mono ?_;rintro e1 w6 ⟨rfl,hq⟩;have Q7:=Lib.hid ((Q6.out _).trans (hq.mono (Q6.out _).size));clear hq;simp only [hdp]))
   go_ret
   first | exact ⟨rfl,Q7.out⟩ | exact ⟨rfl,Q6.out _⟩ | exact ⟨rfl,Q5.out⟩ | exact ⟨rfl,Q4.out⟩ | exact ⟨rfl,Q3.out⟩ | exact ⟨rfl,Q2.out⟩
  ·subst hok
   subst hnd
   subst hrd
   subst hC
   clear hR
   go_enter Tryz.func52,Tryz.ntmps52
   go_wp2_with (first | (go_at_call 96;with_reducible refine (SC.out w (Below.refl _ _)).mono ?_;rintro e1 w1 ⟨a1,n1,k1,rfl,hq⟩;have Q1:=Lib.hid hq;clear hq;simp only [hss2]) | (go_at_call 96;with_reducible refine (SD.out w1 Q1.out).mono ?_;rintro e1 w2 ⟨a2,n2,k2,rfl,hq⟩;have Q2:=Lib.hid (Q1.out.trans (hq.mono Q1.out.size));clear hq;simp only [hst2]) | (go_at_call 87;with_reducible refine (LK.out w2 Q2.out).mono ?_;rintro e1 w3 ⟨rfl,hq⟩;have Q3:=Lib.hid (Q2.out.trans (hq.mono Q2.out.size));clear hq;unfold lookR) | (go_at_call 97;with_reducible refine (UN.out w3 Q3.out).mono ?_;rintro e1 w4 ⟨rfl,hq⟩;have Q4:=Lib.hid (Q3.out.trans (hq.mono Q3.out.size));clear hq;simp only [hun]) | (go_at_call 95;with_reducible refine (PA.out w4 Q4.out).mono ?_;rintro e1 w5 ⟨rfl,hq⟩;have Q5:=Lib.hid (Q4.out.trans (hq.mono Q4.out.size));(have hlu:=LU.out w5 Q5.out);obtain ⟨hl1,hl2⟩:=hlu;have Q6:=Lib.hid (fun o => Q5.out.alloc Q5.out.size o);clear hq;simp only [hpar]) | (go_at_call 98;with_reducible refine (DP.out _ (Q6.out _)).mono ?_;rintro e1 w6 ⟨rfl,hq⟩;have Q7:=Lib.hid ((Q6.out _).trans (hq.mono (Q6.out _).size));clear hq;simp only [hdp]))
   go_ret
   first | exact ⟨rfl,Q7.out⟩ | exact ⟨rfl,Q6.out _⟩ | exact ⟨rfl,Q5.out⟩ | exact ⟨rfl,Q4.out⟩ | exact ⟨rfl,Q3.out⟩ | exact ⟨rfl,Q2.out⟩
end Go.Proofs.YtaonlcgneemimaaGreatDoor
namespace Go.Proofs.YtaonlcgneemimaaGreatDoor
open Go.RowKit
theorem nameOk_no {x:ByteArray} (h:nameOk x = true):(47:UInt8) ∉ x.data.toList:=by
 intro hm
 unfold nameOk at h
 simp only [Bool.and_eq_true] at h
 have h2:=h.2
 rw [Lib.toList_data,List.all_eq_true] at h2
 have:=h2 47 hm
 revert this
 decide
theorem joinTail_cons (x:List UInt8) (r:List (List UInt8)):Lib.joinTail [47] (x :: r) = [47] ++ Lib.join (x :: r) [47]:=by
 rw [Lib.join_cons]
 simp [Lib.joinTail]
theorem splitK_ne:∀ (k:Nat) (l:List UInt8),Lib.splitK [47] 0 k l ≠ []
 | 0,l => by simp [Lib.splitK]
 | k + 1,l => by
  unfold Lib.splitK
  split <;> simp
theorem splitK_join:∀ (k:Nat) (l:List UInt8),Lib.join (Lib.splitK [47] 0 k l) [47] = l
 | 0,l => Lib.join_one _ _
 | k + 1,l => by
  unfold Lib.splitK
  rcases Lib.index_spec l [47] with ⟨h,-⟩ | ⟨i,h,hi,ho,-⟩
  ·rw [h]
   exact Lib.join_one _ _
  ·rw [if_neg (by rw [h];simp),h]
   have hc:=Lib.occAt_head (c:=47) (t:=[]) rfl ho
   obtain ⟨hl,hg⟩:=List.getElem?_eq_some_iff.1 hc
   rw [Lib.join_cons]
   obtain ⟨y,r,e⟩:∃ y r,Lib.splitK [47] 0 k (l.drop ((i:Int).toNat + ([47]:List UInt8).length)) = y :: r:=List.exists_cons_of_ne_nil (splitK_ne _ _)
   rw [e,joinTail_cons,← e,splitK_join k]
   simp only [Int.toNat_natCast,Nat.add_zero,List.length_cons,List.length_nil,Nat.zero_add]
   have e2:[47] ++ l.drop (i + 1) = l.drop i:=by
    rw [List.drop_eq_getElem_cons hl,hg]
    rfl
   rw [e2,List.take_append_drop]
theorem join_splitK:∀ (r:List (List UInt8)) (x:List UInt8),(∀ y ∈ x :: r,(47:UInt8) ∉ y) → Lib.splitK [47] 0 r.length (Lib.join (x :: r) [47]) = x :: r
 | [],x,_ => by
  rw [Lib.join_one]
  rfl
 | y :: r,x,h => by
  have hx:=h x (by simp)
  have e:Lib.join (x :: y :: r) [47] = x ++ 47 :: Lib.join (y :: r) [47]:=by
   rw [Lib.join_cons,joinTail_cons]
   simp
  have hi:Lib.index (x ++ 47 :: Lib.join (y :: r) [47]) [47] = x.length:=by
   refine Lib.index_first (by simp) ?_ (fun j hj => ?_)
   ·unfold Lib.occAt
    rw [List.drop_left]
    rfl
   ·cases ho:Lib.occAt (x ++ 47 :: Lib.join (y :: r) [47]) [47] j with
    | false => rfl
    | true =>
     have hc:=Lib.occAt_head (c:=47) (t:=[]) rfl ho
     rw [List.getElem?_append_left hj] at hc
     exact absurd (List.mem_of_getElem? hc) hx
  rw [e]
  show Lib.splitK [47] 0 (r.length + 1) _ = _
  unfold Lib.splitK
  rw [hi,if_neg (by simp)]
  simp only [Int.toNat_natCast,Nat.add_zero,List.length_cons,List.length_nil,Nat.zero_add]
  rw [List.take_left,show x.length + 1 = (x ++ [47]).length by simp,show x ++ 47 :: Lib.join (y :: r) [47] = (x ++ [47]) ++ Lib.join (y :: r) [47] by simp,List.drop_left,join_splitK r y (fun z hz => h z (by simp [hz]))]
theorem bytes_ext {a b:ByteArray} (h:a.data.toList = b.data.toList):a = b:=ByteArray.ext (Array.toList_inj.1 h)
theorem joinP_join (ps:List ByteArray):(joinP ps).data.toList = 47 :: Lib.join (ps.map (·.data.toList)) [47]:=by
 unfold joinP joinT slash
 simp
theorem splitP_pre {s:ByteArray} {l:List ByteArray} (h:splitP s = some l) (hs:s.toList ≠ [47]):Lib.hasPrefix s.data.toList [47] = true:=by
 unfold splitP at h
 rw [if_neg hs] at h
 split at h
 ·cases h
 ·rename_i h1
  simp only [not_or,Bool.not_eq_false] at h1
  exact h1.2
theorem cutAt_data (t:ByteArray):(cutAt t).map (·.data.toList) = Lib.splitK [47] 0 (Lib.countB t slash) t.data.toList:=Lib.splitB_data _ _ _ _
theorem rest_data {s:ByteArray}:(s.extract 1 s.size).data.toList = s.data.toList.drop 1:=by
 rw [ByteArray.data_extract,Array.toList_extract]
 show List.take (s.size - 1) (List.drop 1 s.data.toList) = _
 exact List.take_of_length_le (by rw [List.length_drop,bytesLen];exact Nat.le_refl _)
theorem map_bytes_inj:∀ (a b:List ByteArray),a.map (·.data.toList) = b.map (·.data.toList) → a = b
 | [],[],_ => rfl
 | x :: a,[],h => by simp at h
 | [],y :: b,h => by simp at h
 | x :: a,y :: b,h => by
  simp only [List.map_cons,List.cons.injEq] at h
  rw [bytes_ext h.1,map_bytes_inj a b h.2]
theorem joinP_split {s:ByteArray} {ps:List ByteArray} (h:splitP s = some ps) (hs:s.toList ≠ [47]):joinP ps = s ∧ ps ≠ []:=by
 have hp:=splitP_pre h hs
 rcases splitP_some h with ⟨h1,-⟩ | ⟨-,h1,-⟩
 ·exact absurd h1 hs
 ·have hne:ps ≠ []:=by
   rw [h1]
   intro e
   have:=cutAt_length (s.extract 1 s.size)
   rw [e] at this
   simp at this
  refine ⟨bytes_ext ?_,hne⟩
  rw [joinP_join,h1,cutAt_data,splitK_join,rest_data]
  have hp2:[47] <+: s.data.toList:=List.isPrefixOf_iff_prefix.1 hp
  obtain ⟨t,ht⟩:=hp2
  rw [← ht]
  rfl
theorem count_join:∀ (r:List (List UInt8)) (x:List UInt8),(∀ y ∈ x :: r,(47:UInt8) ∉ y) → (Lib.join (x :: r) [47]).count 47 = r.length
 | [],x,h => by
  rw [Lib.join_one]
  exact List.count_eq_zero.2 (h x (by simp))
 | y :: r,x,h => by
  have e:Lib.join (x :: y :: r) [47] = x ++ 47 :: Lib.join (y :: r) [47]:=by
   rw [Lib.join_cons,joinTail_cons]
   simp
  rw [e,List.count_append,List.count_eq_zero.2 (h x (by simp)),List.count_cons_self,count_join r y (fun z hz => h z (by simp [hz]))]
  simp
theorem splitP_join {ps:List ByteArray} (hn:∀ p ∈ ps,nameOk p = true) (hl:ps.length ≤ 8) (hne:ps ≠ []) (hs:(joinP ps).size ≤ 64):splitP (joinP ps) = some ps:=by
 have hno:∀ y ∈ ps.map (·.data.toList),(47:UInt8) ∉ y:=fun y hy => by
  obtain ⟨p,hp,rfl⟩:=List.mem_map.1 hy
  exact nameOk_no (hn p hp)
 obtain ⟨x,r,e⟩:=List.exists_cons_of_ne_nil hne
 have hno2:∀ y ∈ x.data.toList :: r.map (·.data.toList),(47:UInt8) ∉ y:=by
  rw [e] at hno
  exact hno
 have hj:=joinP_join ps
 have hroot:(joinP ps).toList ≠ [47]:=by
  rw [Lib.toList_data,joinP_data ps hne,e]
  intro h
  have h1:=congrArg List.length h
  have h2:(flatP (x :: r)).length = 1 + x.size + (flatP r).length:=by
   have e2:flatP (x :: r) = ([47] ++ x.data.toList) ++ flatP r:=rfl
   rw [e2,List.length_append,List.length_append,bytesLen]
   rfl
  have h3:=(nameOk_size (hn x (by simp [e]))).1
  rw [h2] at h1
  simp at h1
  omega
 have hcut:cutAt ((joinP ps).extract 1 (joinP ps).size) = ps:=by
  have hd:((joinP ps).extract 1 (joinP ps).size).data.toList = Lib.join (ps.map (·.data.toList)) [47]:=by
   rw [rest_data,hj]
   rfl
  have hc:Lib.countB ((joinP ps).extract 1 (joinP ps).size) slash = (ps.map (·.data.toList)).length - 1:=by
   show Lib.count _ [47] = _
   rw [Lib.count_one,hd,e]
   have:=count_join (r.map (·.data.toList)) x.data.toList hno2
   rw [List.map_cons,this]
   simp
  have h1:(cutAt ((joinP ps).extract 1 (joinP ps).size)).map (·.data.toList) = ps.map (·.data.toList):=by
   rw [cutAt_data,hc,hd,e,List.map_cons]
   have:=join_splitK (r.map (·.data.toList)) x.data.toList hno2
   simpa using this
  exact map_bytes_inj _ _ h1
 have hpre:Lib.hasPrefix (joinP ps).data.toList slash.data.toList = true:=by
  rw [hj]
  exact List.isPrefixOf_iff_prefix.2 ⟨_,rfl⟩
 unfold splitP
 rw [if_neg hroot,if_neg (by rw [hpre];simp;omega),hcut,if_neg (by rw [List.all_eq_true.2 hn];simp;omega)]
end Go.Proofs.YtaonlcgneemimaaGreatDoor
namespace Go.Proofs.YtaonlcgneemimaaGreatDoor
open Go.RowKit
theorem flatP_cons (x:ByteArray) (r:List ByteArray):flatP (x :: r) = (47 :: x.data.toList) ++ flatP r:=rfl
theorem pre_flat:∀ (ps:List ByteArray) (p:List UInt8),(∀ x ∈ ps,nameOk x = true) → (p ++ [47]) <+: flatP ps → ∃ i,i < ps.length ∧ p = flatP (ps.take i)
 | [],p,_,h => by
  have:=h.length_le
  simp [flatP] at this
 | x :: r,p,hn,h => by
  by_cases hp:p = []
  ·exact ⟨0,by simp,by rw [hp];rfl⟩
  ·have hp0:0 < p.length:=List.length_pos_iff.2 hp
   obtain ⟨t,ht⟩:=h
   rw [flatP_cons] at ht
   by_cases hl:p.length < 1 + x.size
   ·exfalso
    have h1:(p ++ [47] ++ t)[p.length]? = some 47:=by simp
    rw [ht,List.getElem?_append_left (by rw [List.length_cons,bytesLen];omega)] at h1
    obtain ⟨k,hk⟩:∃ k,p.length = k + 1:=⟨p.length - 1,by omega⟩
    rw [hk,List.getElem?_cons_succ] at h1
    exact nameOk_no (hn x (by simp)) (List.mem_of_getElem? h1)
   ·have h1:(47 :: x.data.toList) <+: p:=List.prefix_of_prefix_length_le (l₃:=p ++ [47] ++ t) ⟨flatP r,ht.symm⟩ ⟨[47] ++ t,by simp⟩ (by rw [List.length_cons,bytesLen];omega)
    obtain ⟨p',rfl⟩:=h1
    have h2:p' ++ [47] ++ t = flatP r:=by
     rw [List.append_assoc,List.append_assoc] at ht
     have:=List.append_cancel_left ht
     rw [← this,List.append_assoc]
    obtain ⟨i,hi,e⟩:=pre_flat r p' (fun y hy => hn y (by simp [hy])) ⟨t,h2⟩
    exact ⟨i + 1,by simp;omega,by rw [List.take_succ_cons,flatP_cons,← e]⟩
theorem underB_iff (p q:ByteArray):underB p q = true ↔ (p.data.toList ++ [47]) <+: q.data.toList:=by
 unfold underB
 have e:(p ++ (⟨#[47]⟩:ByteArray)).data.toList = p.data.toList ++ [47]:=by simp
 rw [e]
 exact List.isPrefixOf_iff_prefix
theorem anc {q p:ByteArray} {ps:List ByteArray} (hP:splitP q = some ps) (hq:q.toList ≠ [47]) (hu:underB p q = true) (hp:0 < p.size):∃ i,1 ≤ i ∧ i < ps.length ∧ p = joinP (ps.take i):=by
 obtain ⟨h1,h2⟩:=joinP_split hP hq
 rw [underB_iff,← h1,joinP_data ps h2] at hu
 obtain ⟨i,hi,e⟩:=pre_flat ps _ (splitP_names hP).2 hu
 have h0:1 ≤ i:=by
  cases i with
  | zero =>
   have:=congrArg List.length e
   rw [bytesLen,List.take_zero] at this
   have h0:(flatP []).length = 0:=rfl
   omega
  | succ i => omega
 refine ⟨i,h0,hi,bytes_ext ?_⟩
 rw [e,joinP_data]
 intro e2
 have:=congrArg List.length e2
 rw [List.length_take,List.length_nil] at this
 omega
theorem lookW_ok {T:TreeF}:∀ (rest done:List ByteArray) (x:Int × Bool) (id:Int) (d:Bool),lookW T done rest x = (id,d,0) → rest ≠ [] → x.2 = true ∧ T (joinP (done ++ rest)) = some (id,d) ∧ ∀ i,1 ≤ i → i < rest.length → ∃ j,T (joinP (done ++ rest.take i)) = some (j,true)
 | [],_,_,_,_,_,h => absurd rfl h
 | p :: r,done,x,id,d,h,_ => by
  unfold lookW at h
  cases hx:x.2 with
  | false => rw [hx] at h;simp at h
  | true =>
   rw [hx,if_pos rfl] at h
   cases hT:T (joinP (done ++ [p])) with
   | none => rw [hT] at h;simp at h
   | some y =>
    rw [hT] at h
    have h:lookW T (done ++ [p]) r y = (id,d,0):=h
    refine ⟨rfl,?_⟩
    by_cases hr:r = []
    ·subst hr
     unfold lookW at h
     simp only [Prod.mk.injEq,and_true] at h
     refine ⟨by rw [hT,← h.1,← h.2],fun i h1 h2 => by simp at h2;omega⟩
    ·obtain ⟨a1,a2,a3⟩:=lookW_ok r (done ++ [p]) y id d h hr
     rw [List.append_assoc] at a2
     refine ⟨a2,fun i h1 h2 => ?_⟩
     obtain ⟨k,rfl⟩:∃ k,i = k + 1:=⟨i - 1,by omega⟩
     rw [List.take_succ_cons]
     by_cases hk:k = 0
     ·subst hk
      exact ⟨y.1,by rw [List.take_zero,hT,← a1]⟩
     ·obtain ⟨j,hj⟩:=a3 k (by omega) (by simp at h2;omega)
      rw [List.append_assoc] at hj
      exact ⟨j,hj⟩
theorem look_node {T:TreeF} {s:ByteArray} {id:Int} {d:Bool} (h:lookG T s = (id,d,0)) (hs:s.toList ≠ [47]):T s = some (id,d):=by
 unfold lookG at h
 cases hP:splitP s with
 | none => rw [hP] at h;simp at h
 | some ps =>
  rw [hP] at h
  obtain ⟨h1,h2⟩:=joinP_split hP hs
  have:=(lookW_ok ps [] (0,true) id d h h2).2.1
  rwa [List.nil_append,h1] at this
theorem parent_ok {T:TreeF} {s:ByteArray} (h:parentG T s = 0) (hs:s.toList ≠ [47]):(∃ ps,splitP s = some ps) ∧ ∀ p,underB p s = true → 0 < p.size → ∃ id,T p = some (id,true):=by
 unfold parentG at h
 cases hP:splitP s with
 | none => rw [hP] at h;simp at h
 | some ps =>
  refine ⟨⟨ps,rfl⟩,fun p hu hp => ?_⟩
  obtain ⟨h1,h2⟩:=joinP_split hP hs
  obtain ⟨i,hi1,hi2,e⟩:=anc hP hs hu hp
  obtain ⟨hl,hn⟩:=splitP_names hP
  cases ps with
  | nil => exact absurd rfl h2
  | cons x r =>
   rw [hP] at h
   have h:(if (lookG T (joinP (x :: r).dropLast)).2.2 = 0 ∧ (lookG T (joinP (x :: r).dropLast)).2.1 = false then (7:Int) else (lookG T (joinP (x :: r).dropLast)).2.2) = 0:=h
   have hdl:(x :: r).dropLast = (x :: r).take r.length:=by rw [List.dropLast_eq_take];rfl
   have hne:(x :: r).dropLast ≠ []:=by
    rw [hdl]
    intro e2
    have:=congrArg List.length e2
    rw [List.length_take,List.length_nil] at this
    rw [List.length_cons] at this hi2
    omega
   have hsz:(joinP (x :: r).dropLast).size ≤ 64:=by
    have h3:flatP ((x :: r).take r.length) <+: flatP (x :: r):=by
     refine ⟨flatP ((x :: r).drop r.length),?_⟩
     unfold flatP
     rw [← List.flatten_append,← List.map_append,List.take_append_drop]
    have h4:=h3.length_le
    rw [← hdl,← joinP_data _ hne,← joinP_data _ h2,bytesLen,bytesLen,h1] at h4
    have:=splitP_size hP
    omega
   have hsp:=splitP_join (fun q hq => hn q ((List.dropLast_sublist _).subset hq)) (by rw [List.length_dropLast];omega) hne hsz
   obtain ⟨ri,rd,re,hR⟩:∃ ri rd re,lookG T (joinP (x :: r).dropLast) = (ri,rd,re):=⟨_,_,_,rfl⟩
   rw [hR] at h
   simp only at h
   have hre:re = 0 ∧ rd = true:=by
    by_cases c:re = 0 ∧ rd = false
    ·rw [if_pos c] at h;cases h
    ·rw [if_neg c] at h
     refine ⟨h,?_⟩
     cases rd with
     | true => rfl
     | false => exact absurd ⟨h,rfl⟩ c
   obtain ⟨rfl,rfl⟩:=hre
   unfold lookG at hR
   rw [hsp] at hR
   obtain ⟨-,a2,a3⟩:=lookW_ok _ [] (0,true) ri true hR hne
   rw [List.nil_append] at a2
   by_cases hir:i = r.length
   ·rw [e,hir,← hdl]
    exact ⟨ri,a2⟩
   ·obtain ⟨j,hj⟩:=a3 i hi1 (by rw [List.length_dropLast];simp at hi2 ⊢;omega)
    rw [List.nil_append,hdl,List.take_take,Nat.min_eq_left (by simp at hi2;omega)] at hj
    rw [e]
    exact ⟨j,hj⟩
def Closed (T:TreeF):Prop:=∀ q p,(T q).isSome = true → underB p q = true → 0 < p.size → ∃ id,T p = some (id,true)
theorem closed_new:Closed (fun _ => none):=fun q p h => by cases h
theorem closed_make {T:TreeF} {n:Nat} {s:ByteArray} {id:Int} {d:Bool} (h:Closed T) (hc:canG T n s = 0):Closed (gset T s (some (id,d))):=by
 have hT:=(canG_zero hc).1
 have hpar:parentG T s = 0 ∧ s.toList ≠ [47]:=by
  unfold canG at hc
  split at hc
  ·rename_i h1
   exact absurd hc h1
  ·rename_i h1
   split at hc
   ·cases hc
   ·rename_i h2
    simp only [not_or] at h2
    exact ⟨by simpa using h1,h2.2⟩
 have hp:=(parent_ok hpar.1 hpar.2).2
 intro q p hq hu hp0
 have hpq:∃ j,T p = some (j,true):=by
  unfold gset at hq
  by_cases e:q = s
  ·rw [e] at hu
   exact hp p hu hp0
  ·rw [if_neg e] at hq
   exact h q p hq hu hp0
 obtain ⟨j,hj⟩:=hpq
 have hps:p ≠ s:=fun e => by rw [e,hT] at hj;cases hj
 exact ⟨j,by unfold gset;rw [if_neg hps];exact hj⟩
theorem closed_drop {T:TreeF} {s:ByteArray} (h:Closed T) (hu:∀ q,(T q).isSome = true → underB s q = false):Closed (gset T s none):=by
 intro q p hq hup hp0
 unfold gset at hq ⊢
 by_cases e:q = s
 ·rw [if_pos e] at hq;cases hq
 ·rw [if_neg e] at hq
  have hps:p ≠ s:=fun e2 => by rw [e2,hu q hq] at hup;cases hup
  rw [if_neg hps]
  exact h q p hq hup hp0
end Go.Proofs.YtaonlcgneemimaaGreatDoor
