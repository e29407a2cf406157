/- TopBatches: the contracts of K3, B5, E1, E2, E3, E4; no condition. -/
import Derived.Lib.SliceRun
import Derived.Test.YtaonlcgneemimaaGreatDoorB03
namespace Go.Proofs.YtaonlcgneemimaaGreatDoor
open Go.RowKit
theorem info3:(Tryz.prog.info? 3).map (fun i => (i.zero,i.size,i.bytes)) = some (some (.int .i64 0),1,8):=by kernel_rfl
theorem info52:(Tryz.prog.info? 52).map (fun i => (i.zero,i.size,i.bytes)) = some (some (.agg #[.int .i64 0,.float .f64 0,.string ⟨#[]⟩]),3,32):=by kernel_rfl
set_option maxRecDepth 100000 in
set_option maxHeartbeats 1000000 in
theorem clonePart_any (w:World) (v:Value) (n:Nat) (xs:List Value) (h:Sl w 134 4 v n xs) (hn:n ≤ 1000000) :
  Calls Tryz.prog 78 #[v] w fun e w' => ∃ v',e = .returned v' ∧ w'.ownsRow w.heap.size 134 4 v' n xs ∧ (v' = .slice none 0 0 ↔ n = 0) ∧ Below w.heap.size w w':=by
 obtain ⟨i0,hi,hz0,hz1,hz2⟩:=info_parts info134
 obtain ⟨hl,h1,hv⟩:=h
 rcases hv with ⟨rfl,rfl⟩ | ⟨g,off,cap,arr,rfl,e2,e3,e4,e5,e6⟩
 ·have heq:=fun wx => Lib.run_eql_slice_nil (P:=Tryz.prog) wx 81 134 none 0 0 0 0 Tryz.underlying81
  obtain rfl:xs = []:=List.eq_nil_of_length_eq_zero (by simpa using hl)
  go_enter Tryz.func78,Tryz.ntmps78
  go_wp2
  go_ret
  exact ⟨_,rfl,World.ownsRow_nil _ _ _ _,by simp,Below.refl _ _⟩
 ·have hgl:g < w.heap.size:=heap_lt e5
  have HS:Hid (Sl (w.alloc (.cells #[] 134)) 134 4 (.slice (some ⟨g,off,none⟩) n cap) n xs):=Lib.hid (Sl.below ⟨hl,h1,.inr ⟨g,off,cap,arr,rfl,e2,e3,e4,e5,e6⟩⟩ ((Below.refl _ _).alloc (Nat.le_refl _) _))
  have HN:=Lib.hid e2
  clear e5 e6 hl h1 e2 e3 e4
  have heq:=fun wx => Lib.run_eql_slice_nil (P:=Tryz.prog) wx 81 134 (some ⟨g,off,none⟩) n cap 0 0 Tryz.underlying81
  have HL:=Lib.hid (World.ownsRow_lit (base:=w.heap.size) (size:=4) (e:=134) w #[] 0 (Nat.le_refl _) (by decide) rfl)
  go_enter Tryz.func78,Tryz.ntmps78
  go_wp2_with (at_builtin;refine wp_append_sl rfl _ _ 81 rfl w.heap.size 134 i0 (.agg #[.int .i64 0,.int .i64 0,.int .i64 0,.int .i64 0]) 4 32 Tryz.underlying81 hi hz0 hz1 hz2 rfl (by decide) _ 0 [] rfl HL.out _ n xs rfl HS.out ?c1 ?c2 ?c3 ?_)
  intro v' w' ho hg hne hat
  have FIN:Hid (w'.ownsRow w.heap.size 134 4 v' n xs ∧ (v' = .slice none 0 0 ↔ n = 0) ∧ Below w.heap.size w w'):=Lib.hid ⟨ho,⟨fun h => absurd h hne,fun h => by have:=HN.out;omega⟩,((Below.refl _ _).alloc (Nat.le_refl _) _).grown hg (by simp) (by intro k hk;simp [Value.ownBlock] at hk;omega)⟩
  clear ho hg hne hat
  go_wp2
  go_ret
  exact ⟨_,rfl,FIN.out⟩
set_option maxRecDepth 100000 in
set_option maxHeartbeats 1000000 in
theorem cloneByte_any (w:World) (v:Value) (n:Nat) (xs:List Value) (h:Sl w 5 1 v n xs) (hn:n ≤ 1000000) :
  Calls Tryz.prog 104 #[v] w fun e w' => ∃ v',e = .returned v' ∧ w'.ownsRow w.heap.size 5 1 v' n xs ∧ (v' = .slice none 0 0 ↔ n = 0) ∧ Below w.heap.size w w':=by
 obtain ⟨i0,hi,hz0,hz1,hz2⟩:=info_parts info5
 obtain ⟨hl,h1,hv⟩:=h
 rcases hv with ⟨rfl,rfl⟩ | ⟨g,off,cap,arr,rfl,e2,e3,e4,e5,e6⟩
 ·have heq:=fun wx => Lib.run_eql_slice_nil (P:=Tryz.prog) wx 33 5 none 0 0 0 0 Tryz.underlying33
  obtain rfl:xs = []:=List.eq_nil_of_length_eq_zero (by simpa using hl)
  go_enter Tryz.func104,Tryz.ntmps104
  go_wp2
  go_ret
  exact ⟨_,rfl,World.ownsRow_nil _ _ _ _,by simp,Below.refl _ _⟩
 ·have hgl:g < w.heap.size:=heap_lt e5
  have HS:Hid (Sl (w.alloc (.cells #[] 5)) 5 1 (.slice (some ⟨g,off,none⟩) n cap) n xs):=Lib.hid (Sl.below ⟨hl,h1,.inr ⟨g,off,cap,arr,rfl,e2,e3,e4,e5,e6⟩⟩ ((Below.refl _ _).alloc (Nat.le_refl _) _))
  have HN:=Lib.hid e2
  clear e5 e6 hl h1 e2 e3 e4
  have heq:=fun wx => Lib.run_eql_slice_nil (P:=Tryz.prog) wx 33 5 (some ⟨g,off,none⟩) n cap 0 0 Tryz.underlying33
  have HL:=Lib.hid (World.ownsRow_lit (base:=w.heap.size) (size:=1) (e:=5) w #[] 0 (Nat.le_refl _) (by decide) rfl)
  go_enter Tryz.func104,Tryz.ntmps104
  go_wp2_with (at_builtin;refine wp_append_sl rfl _ _ 33 rfl w.heap.size 5 i0 (.int .u8 0) 1 1 Tryz.underlying33 hi hz0 hz1 hz2 rfl (by decide) _ 0 [] rfl HL.out _ n xs rfl HS.out ?c1 ?c2 ?c3 ?_)
  intro v' w' ho hg hne hat
  have FIN:Hid (w'.ownsRow w.heap.size 5 1 v' n xs ∧ (v' = .slice none 0 0 ↔ n = 0) ∧ Below w.heap.size w w'):=Lib.hid ⟨ho,⟨fun h => absurd h hne,fun h => by have:=HN.out;omega⟩,((Below.refl _ _).alloc (Nat.le_refl _) _).grown hg (by simp) (by intro k hk;simp [Value.ownBlock] at hk;omega)⟩
  clear ho hg hne hat
  go_wp2
  go_ret
  exact ⟨_,rfl,FIN.out⟩
set_option maxRecDepth 100000 in
set_option maxHeartbeats 1000000 in
theorem cloneInt_any (w:World) (v:Value) (n:Nat) (xs:List Value) (h:Sl w 3 1 v n xs) (hn:n ≤ 1000000) :
  Calls Tryz.prog 57 #[v] w fun e w' => ∃ v',e = .returned v' ∧ w'.ownsRow w.heap.size 3 1 v' n xs ∧ (v' = .slice none 0 0 ↔ n = 0) ∧ Below w.heap.size w w':=by
 obtain ⟨i0,hi,hz0,hz1,hz2⟩:=info_parts info3
 obtain ⟨hl,h1,hv⟩:=h
 rcases hv with ⟨rfl,rfl⟩ | ⟨g,off,cap,arr,rfl,e2,e3,e4,e5,e6⟩
 ·have heq:=fun wx => Lib.run_eql_slice_nil (P:=Tryz.prog) wx 90 3 none 0 0 0 0 Tryz.underlying90
  obtain rfl:xs = []:=List.eq_nil_of_length_eq_zero (by simpa using hl)
  go_enter Tryz.func57,Tryz.ntmps57
  go_wp2
  go_ret
  exact ⟨_,rfl,World.ownsRow_nil _ _ _ _,by simp,Below.refl _ _⟩
 ·have hgl:g < w.heap.size:=heap_lt e5
  have HS:Hid (Sl (w.alloc (.cells #[] 3)) 3 1 (.slice (some ⟨g,off,none⟩) n cap) n xs):=Lib.hid (Sl.below ⟨hl,h1,.inr ⟨g,off,cap,arr,rfl,e2,e3,e4,e5,e6⟩⟩ ((Below.refl _ _).alloc (Nat.le_refl _) _))
  have HN:=Lib.hid e2
  clear e5 e6 hl h1 e2 e3 e4
  have heq:=fun wx => Lib.run_eql_slice_nil (P:=Tryz.prog) wx 90 3 (some ⟨g,off,none⟩) n cap 0 0 Tryz.underlying90
  have HL:=Lib.hid (World.ownsRow_lit (base:=w.heap.size) (size:=1) (e:=3) w #[] 0 (Nat.le_refl _) (by decide) rfl)
  go_enter Tryz.func57,Tryz.ntmps57
  go_wp2_with (at_builtin;refine wp_append_sl rfl _ _ 90 rfl w.heap.size 3 i0 (.int .i64 0) 1 8 Tryz.underlying90 hi hz0 hz1 hz2 rfl (by decide) _ 0 [] rfl HL.out _ n xs rfl HS.out ?c1 ?c2 ?c3 ?_)
  intro v' w' ho hg hne hat
  have FIN:Hid (w'.ownsRow w.heap.size 3 1 v' n xs ∧ (v' = .slice none 0 0 ↔ n = 0) ∧ Below w.heap.size w w'):=Lib.hid ⟨ho,⟨fun h => absurd h hne,fun h => by have:=HN.out;omega⟩,((Below.refl _ _).alloc (Nat.le_refl _) _).grown hg (by simp) (by intro k hk;simp [Value.ownBlock] at hk;omega)⟩
  clear ho hg hne hat
  go_wp2
  go_ret
  exact ⟨_,rfl,FIN.out⟩
set_option maxRecDepth 100000 in
set_option maxHeartbeats 1000000 in
theorem clonePoint_any (w:World) (v:Value) (n:Nat) (xs:List Value) (h:Sl w 52 3 v n xs) (hn:n ≤ 1000000) :
  Calls Tryz.prog 83 #[v] w fun e w' => ∃ v',e = .returned v' ∧ w'.ownsRow w.heap.size 52 3 v' n xs ∧ (v' = .slice none 0 0 ↔ n = 0) ∧ Below w.heap.size w w':=by
 obtain ⟨i0,hi,hz0,hz1,hz2⟩:=info_parts info52
 obtain ⟨hl,h1,hv⟩:=h
 rcases hv with ⟨rfl,rfl⟩ | ⟨g,off,cap,arr,rfl,e2,e3,e4,e5,e6⟩
 ·have heq:=fun wx => Lib.run_eql_slice_nil (P:=Tryz.prog) wx 46 52 none 0 0 0 0 Tryz.underlying46
  obtain rfl:xs = []:=List.eq_nil_of_length_eq_zero (by simpa using hl)
  go_enter Tryz.func83,Tryz.ntmps83
  go_wp2
  go_ret
  exact ⟨_,rfl,World.ownsRow_nil _ _ _ _,by simp,Below.refl _ _⟩
 ·have hgl:g < w.heap.size:=heap_lt e5
  have HS:Hid (Sl (w.alloc (.cells #[] 52)) 52 3 (.slice (some ⟨g,off,none⟩) n cap) n xs):=Lib.hid (Sl.below ⟨hl,h1,.inr ⟨g,off,cap,arr,rfl,e2,e3,e4,e5,e6⟩⟩ ((Below.refl _ _).alloc (Nat.le_refl _) _))
  have HN:=Lib.hid e2
  clear e5 e6 hl h1 e2 e3 e4
  have heq:=fun wx => Lib.run_eql_slice_nil (P:=Tryz.prog) wx 46 52 (some ⟨g,off,none⟩) n cap 0 0 Tryz.underlying46
  have HL:=Lib.hid (World.ownsRow_lit (base:=w.heap.size) (size:=3) (e:=52) w #[] 0 (Nat.le_refl _) (by decide) rfl)
  go_enter Tryz.func83,Tryz.ntmps83
  go_wp2_with (at_builtin;refine wp_append_sl rfl _ _ 46 rfl w.heap.size 52 i0 (.agg #[.int .i64 0,.float .f64 0,.string ⟨#[]⟩]) 3 32 Tryz.underlying46 hi hz0 hz1 hz2 rfl (by decide) _ 0 [] rfl HL.out _ n xs rfl HS.out ?c1 ?c2 ?c3 ?_)
  intro v' w' ho hg hne hat
  have FIN:Hid (w'.ownsRow w.heap.size 52 3 v' n xs ∧ (v' = .slice none 0 0 ↔ n = 0) ∧ Below w.heap.size w w'):=Lib.hid ⟨ho,⟨fun h => absurd h hne,fun h => by have:=HN.out;omega⟩,((Below.refl _ _).alloc (Nat.le_refl _) _).grown hg (by simp) (by intro k hk;simp [Value.ownBlock] at hk;omega)⟩
  clear ho hg hne hat
  go_wp2
  go_ret
  exact ⟨_,rfl,FIN.out⟩
set_option maxRecDepth 100000 in
set_option maxHeartbeats 1000000 in
theorem bytesClone_any (w:World) (v:Value) (n:Nat) (xs:List Value) (h:Sl w 5 1 v n xs) (hn:n ≤ 1000000) :
  Calls Tryz.prog 119 #[v] w fun e w' => ∃ v',e = .returned v' ∧ w'.ownsRow w.heap.size 5 1 v' n xs ∧ (v' = .slice none 0 0 ↔ n = 0) ∧ Below w.heap.size w w':=by
 obtain ⟨i0,hi,hz0,hz1,hz2⟩:=info_parts info5
 obtain ⟨hl,h1,hv⟩:=h
 rcases hv with ⟨rfl,rfl⟩ | ⟨g,off,cap,arr,rfl,e2,e3,e4,e5,e6⟩
 ·have heq:=fun wx => Lib.run_eql_slice_nil (P:=Tryz.prog) wx 33 5 none 0 0 0 0 Tryz.underlying33
  obtain rfl:xs = []:=List.eq_nil_of_length_eq_zero (by simpa using hl)
  go_enter Tryz.func119,Tryz.ntmps119
  go_wp2
  go_ret
  exact ⟨_,rfl,World.ownsRow_nil _ _ _ _,by simp,Below.refl _ _⟩
 ·have hgl:g < w.heap.size:=heap_lt e5
  have HS:Hid (Sl (w.alloc (.cells #[] 5)) 5 1 (.slice (some ⟨g,off,none⟩) n cap) n xs):=Lib.hid (Sl.below ⟨hl,h1,.inr ⟨g,off,cap,arr,rfl,e2,e3,e4,e5,e6⟩⟩ ((Below.refl _ _).alloc (Nat.le_refl _) _))
  have HN:=Lib.hid e2
  clear e5 e6 hl h1 e2 e3 e4
  have heq:=fun wx => Lib.run_eql_slice_nil (P:=Tryz.prog) wx 33 5 (some ⟨g,off,none⟩) n cap 0 0 Tryz.underlying33
  have HL:=Lib.hid (World.ownsRow_lit (base:=w.heap.size) (size:=1) (e:=5) w #[] 0 (Nat.le_refl _) (by decide) rfl)
  go_enter Tryz.func119,Tryz.ntmps119
  go_wp2_with (at_builtin;refine wp_append_sl rfl _ _ 33 rfl w.heap.size 5 i0 (.int .u8 0) 1 1 Tryz.underlying33 hi hz0 hz1 hz2 rfl (by decide) _ 0 [] rfl HL.out _ n xs rfl HS.out ?c1 ?c2 ?c3 ?_)
  intro v' w' ho hg hne hat
  have FIN:Hid (w'.ownsRow w.heap.size 5 1 v' n xs ∧ (v' = .slice none 0 0 ↔ n = 0) ∧ Below w.heap.size w w'):=Lib.hid ⟨ho,⟨fun h => absurd h hne,fun h => by have:=HN.out;omega⟩,((Below.refl _ _).alloc (Nat.le_refl _) _).grown hg (by simp) (by intro k hk;simp [Value.ownBlock] at hk;omega)⟩
  clear ho hg hne hat
  go_wp2
  go_ret
  exact ⟨_,rfl,FIN.out⟩
end Go.Proofs.YtaonlcgneemimaaGreatDoor
namespace Go.Proofs.YtaonlcgneemimaaGreatDoor
open Go.RowKit
theorem sumLen_take_succ (l:List PartA) (k:Nat) (p:PartA) (hp:l[k]? = some p):sumLen (l.take (k + 1)) = sumLen (l.take k) + p.len:=by
 rw [List.take_add_one,hp,sumLen_append]
 simp [sumLen]
theorem placeP_take_succ (l:List PartA) (k:Nat) (p:PartA) (off:Int) (hp:l[k]? = some p):placeP off (l.take (k + 1)) = placeP off (l.take k) ++ [{ p with off:=off + sumLen (l.take k) }]:=by
 rw [List.take_add_one,hp,placeP_append]
 simp [placeP]
theorem sumLen_take_le:∀ (l:List PartA) (k:Nat),(∀ p ∈ l,p.fits) → sumLen (l.take k) ≤ sumLen l
 | [],k,_ => by simp
 | p :: l,0,h => by simpa [sumLen] using sumLen_nonneg h
 | p :: l,k + 1,h => by
  have:=sumLen_take_le l k (fun q hq => h q (by simp [hq]))
  simp [sumLen];omega
set_option maxRecDepth 100000 in
set_option maxHeartbeats 4000000 in
theorem write_any (b:BodyA) (off:Int) (l:List PartA) (v vl:Value) (w:World) (hv:BodyV w v b) (hm:b.may) (hn:b.parts.length ≤ 100000) (hvl:Sl w 134 4 vl l.length (partsC l)) (hf:∀ p ∈ l,p.fits) (hln:l.length ≤ 100000) (ho0:0 ≤ off) (ho1:off + sumLen l ≤ 1099511627776) :
  Calls Tryz.prog 116 #[v,.int .i64 off,vl] w fun e w' => ∃ v',e = .returned (.tuple #[v',.int .i64 0]) ∧ BodyV w' v' (writeB b off l) ∧ Below w.heap.size w w':=by
 obtain ⟨i0,hi,hz0,hz1,hz2⟩:=info_parts info134
 have HVL:=Lib.hid hvl
 have HV:=Lib.hid hv
 obtain ⟨s,rfl,hs⟩:=hv
 obtain ⟨a,cap,rfl,hcap,-,hcells⟩:=parts_cells hs
 obtain ⟨a2,cap2,rfl,hcap2,-,hcells2⟩:=parts_cells hvl
 have HC:=Lib.hid hcells
 have HC2:=Lib.hid hcells2
 have HM:=Lib.hid hm
 have HN:=Lib.hid hn
 have HF:=Lib.hid hf
 have hsum0:=sumLen_nonneg hf
 clear hs hcells hm hvl hcells2 hf
 obtain ⟨l0,hl⟩:∃ l,Hid (b.parts = l):=⟨_,rfl⟩
 rw [hl.out] at HC hcap HV hn ⊢
 have HG:∀ p ∈ l0,p.fits ∧ 0 ≤ p.off ∧ p.off ≤ b.size - p.len:=by
  have:=mayParts_mem HM.out.2.2
  rw [hl.out] at this
  exact this
 have HG:=Lib.hid HG
 have HS:=Lib.hid HM.out.2.1
 obtain ⟨S,hS⟩:∃ S,Hid (S = sumLen l):=⟨_,rfl⟩
 rw [← hS.out] at ho1 hsum0
 have e0:=IntWalk.wrap64_in (1099511627776 - S) (by omega)
 have d3:decide (off < 0) = false:=by simp;omega
 have d4:decide (1099511627776 - S < off) = false:=by simp;omega
 have HVW:Hid (∀ W,Below w.heap.size w W → BodyV W (.agg #[.int .i64 b.size,.slice a l0.length cap]) b):=Lib.hid (fun W hW => by
  obtain ⟨s,e1,h⟩:=HV.out
  exact ⟨s,e1,h.below hW⟩)
 go_enter Tryz.func116,Tryz.ntmps116
 go_wp2_with (first | (go_at_call 79;refine (may_any b _ _ (HVW.out _ (((Below.refl _ w).alloc (Nat.le_refl _) _).alloc (by simp) _)) HM.out (by have:=HN.out;omega)).mono ?_;rintro e w1 ⟨rfl,hq⟩;have HQ1:=Lib.hid hq;have HB1:=Lib.hid ((((Below.refl w.heap.size w).alloc (Nat.le_refl _) _).alloc (by simp) _).trans (hq.mono (by simp;omega)));clear hq) | (go_at_call 153;refine (noUnfit_any _ l _ (HVL.out.below HB1.out) HF.out (by omega)).mono ?_;rintro e w2 ⟨rfl,hq⟩;have HQ2:=Lib.hid (HQ1.out.trans (hq.mono HQ1.out.size));have HB2:=Lib.hid (HB1.out.trans (hq.mono HB1.out.size));clear hq))
 have hx1:w2.heap[w.heap.size]? = some (.cells #[.int .i64 b.size,.slice a l0.length cap] 100 (0,0)):=Below.heap HQ2.out (Nat.le_refl _) (heap_old (heap_new w _) _)
 have hx2:w2.heap[w.heap.size + 1]? = some (.cells #[.int .i64 0,.slice none 0 0] 100 (0,0)):=by
  refine Below.heap HQ2.out (Nat.le_refl _) ?_
  have:=heap_new (w.alloc (.cells #[.int .i64 b.size,.slice a l0.length cap] 100)) (.cells #[.int .i64 0,.slice none 0 0] 100)
  simpa using this
 have HX1:=Lib.hid hx1
 have HX2:=Lib.hid hx2
 have z2:w.heap.size + 2 ≤ w2.heap.size:=by have:=HQ2.out.size;simp at this;omega
 clear hx1 hx2
 go_loopw [8,33] (fun t8 ti wr => ∃ k:Nat,k ≤ l.length ∧ ti = .int .i64 k ∧ t8 = .int .i64 (sumLen (l.take k)) ∧ Hid (Below w2.heap.size w2 wr)) (fun _ i _ => l.length - (intOf i).toNat)
 case atStart => exact ⟨0,by omega,rfl,by simp [sumLen],Below.refl _ _⟩
 case round =>
  obtain ⟨k,hk,rfl,rfl,hbel⟩:=hrel
  by_cases hlt:k < l.length
  ·obtain ⟨p,hp⟩:∃ p,l[k]? = some p:=⟨_,List.getElem?_eq_getElem hlt⟩
   have hgp:=HF.out p (List.mem_of_getElem? hp)
   obtain ⟨g,off',rfl,hg,c0,c1,c2,c3⟩:=HC2.out k p hp
   have t:∀ o u,w.cell? ⟨g,o,none⟩ = some u → wr.cell? ⟨g,o,none⟩ = some u:=fun o u h => by
    rw [hbel.out.cell (p:=⟨g,o,none⟩) (by show g < _;omega),HB2.out.cell (p:=⟨g,o,none⟩) hg]
    exact h
   have q0:=t _ _ c0
   have q1:=t _ _ c1
   have q2:=t _ _ c2
   have q3:=t _ _ c3
   have HP:=Lib.hid hp
   clear c0 c1 c2 c3 t
   have u1:=sumLen_nonneg (l:=l.take k) (fun q hq => HF.out q (List.mem_of_mem_take hq))
   have u2:=sumLen_take_le l (k + 1) HF.out
   have u3:=sumLen_take_succ l k p HP.out
   have u4:=hgp.1
   have e1:=IntWalk.wrap64_in (sumLen (l.take k) + p.len) (by rw [← hS.out] at u2;omega)
   have HU:=Lib.hid u3
   have z3:=hbel.out.size
   clear u1 u2 u3 u4
   go_wp2
   go_roundw
   case rel => exact ⟨k + 1,by omega,by go_num,by rw [HU.out,e1],hbel.out.alloc (by omega) _⟩
   case measure => simp [intOf];omega
  ·have hkl:k = l.length:=by omega
   subst hkl
   have hw3:Hid (w2.heap.size ≤ wr.heap.size):=hbel.out.size
   obtain ⟨w3,hw⟩:∃ w3,w3 = wr:=⟨_,rfl⟩
   have HX31:Hid (w3.heap[w.heap.size]? = some (.cells #[.int .i64 b.size,.slice a l0.length cap] 100 (0,0))):=by subst hw;exact Lib.hid (Below.heap hbel.out (Nat.le_refl _) HX1.out)
   have HX32:Hid (w3.heap[w.heap.size + 1]? = some (.cells #[.int .i64 0,.slice none 0 0] 100 (0,0))):=by subst hw;exact Lib.hid (Below.heap hbel.out (Nat.le_refl _) HX2.out)
   have HB3:Hid (Below w.heap.size w w3):=by subst hw;exact Lib.hid (HB2.out.trans (hbel.out.mono (by omega)))
   have z4:w.heap.size + 2 ≤ w3.heap.size:=by subst hw;have:=hw3.out;omega
   subst hw
   have z5:w.heap.size < w3.heap.size:=by omega
   have k0:=cellAt HX31.out 0
   have k1:=cellAt HX31.out 1
   simp only [List.getElem?_toArray,List.getElem?_cons_zero,List.getElem?_cons_succ] at k0 k1
   have HT:Hid (sumLen (l.take l.length) = S):=Lib.hid (by rw [List.take_length];exact hS.out.symm)
   rw [HT.out]
   clear hbel hw3 HX1 HX2 HQ1 HQ2
   go_wp2
   have HPRE:Hid (([]:List PartA).length ≤ 200000):=Lib.hid (by simp)
   go_loopw [57] (fun ti wr => ∃ k:Nat,k ≤ l0.length ∧ ti = .int .i64 k ∧ Hid (OutAt wr w3.heap.size w3.heap.size b.size (([]:List PartA) ++ (l0.take k).filterMap (aheadP off))) ∧ Hid (Below w3.heap.size w3 wr)) (fun i _ => l0.length - (intOf i).toNat)
   case atStart =>
    refine ⟨0,by omega,rfl,?_,?_⟩
    ·exact ⟨.slice none 0 0,heap_new _ _,World.ownsRow_nil _ _ _ _,rfl,.inl rfl⟩
    ·exact (Below.refl _ _).alloc (Nat.le_refl _) _
   case round =>
    obtain ⟨k,hk,rfl,hout,hbel⟩:=hrel
    by_cases hlt:k < l0.length
    ·obtain ⟨p,hp⟩:∃ p,l0[k]? = some p:=⟨_,List.getElem?_eq_getElem hlt⟩
     have hgp:=HG.out p (List.mem_of_getElem? hp)
     obtain ⟨g,off',rfl,hg,c0,c1,c2,c3⟩:=HC.out k p hp
     have t:∀ o u,w.cell? ⟨g,o,none⟩ = some u → wr.cell? ⟨g,o,none⟩ = some u:=fun o u h => by
      rw [hbel.out.cell (p:=⟨g,o,none⟩) (by show g < _;omega),HB3.out.cell (p:=⟨g,o,none⟩) hg]
      exact h
     have q0:=t _ _ c0
     have q1:=t _ _ c1
     have q2:=t _ _ c2
     have q3:=t _ _ c3
     have HP:=Lib.hid hp
     clear c0 c1 c2 c3 t
     obtain ⟨sv,ho1,ho2,ho3,ho4⟩:=hout.out
     have y0:=heap_lt ho1
     have y1:w3.heap.size < wr.heap.size + 1:=by omega
     have y2:w3.heap.size < wr.heap.size + 2:=by omega
     have y3:w3.heap.size < wr.heap.size + 3:=by omega
     have y4:w3.heap.size < wr.heap.size + 4:=by omega
     have y5:w3.heap.size < wr.heap.size + 5:=by omega
     have o1:=cellAt ho1 1
     simp only [List.getElem?_toArray,List.getElem?_cons_zero,List.getElem?_cons_succ] at o1
     have HO1:=Lib.hid ho1
     have HO2:=Lib.hid ho2
     clear ho1 ho2 ho3 ho4
     have y6:w3.heap.size < wr.heap.size + 6:=by omega
     have HL:=Lib.hid (show (([]:List PartA) ++ (l0.take k).filterMap (aheadP off)).length ≤ 500000 by
      have h1:=List.length_filterMap_le (aheadP off) (l0.take k)
      have h2:=HPRE.out
      simp only [List.length_append] at h2 ⊢
      simp at h1;omega)
     have z3:=hbel.out.size
     have f1:=hgp.1.1
     have f2:=hgp.1.2.1
     have f3:=hgp.1.2.2.2.2
     have f4:=hgp.2
     have hs3:=HS.out
     have hcall:=fun w => ahead_any p off f4.1 (by omega) ho0 (by omega) w
     clear hgp f3 f4
     cases hA:aheadP off p with
     | none =>
      rw [hA] at hcall
      have HCALL:=Lib.hid hcall
      have HA:=Lib.hid hA
      clear hcall hA
      go_wp2_with (go_at_call 80;refine (HCALL.out _).mono ?_;rintro e w2' ⟨rfl,x1,x2,rfl⟩;simp only [optPart])
      go_roundw
      case rel =>
       refine ⟨k + 1,by omega,by go_num,?_,((((hbel.out.alloc (by omega) _).alloc (by simp;omega) _).alloc (by simp;omega) _).alloc (by simp;omega) _)⟩
       rw [filterMap_take_succ _ _ _ _ HP.out,HA.out]
       have h:=((((hout.out.alloc (.cells #[.int .i64 p.off,.int .i64 p.len,.int .i64 p.chunk,.int .i64 p.pos] 134)).alloc x1).alloc x2).alloc (.cells #[.int .i64 0,.int .i64 0,.int .i64 0,.int .i64 0] 134))
       show OutAt _ _ _ _ _
       simpa using h
      case measure => simp [intOf];omega
     | some r =>
      rw [hA] at hcall
      have HCALL:=Lib.hid hcall
      have HA:=Lib.hid hA
      clear hcall hA
      go_wp2_with (first | (go_at_call 80;refine (HCALL.out _).mono ?_;rintro e w2' ⟨rfl,x1,x2,rfl⟩;simp only [optPart,PartA.val]) | (at_builtin;refine wpList_append_own_at _ rfl _ _ 81 rfl w3.heap.size 134 i0 _ 4 32 Tryz.underlying81 hi hz0 hz1 hz2 rfl (by decide) sv _ _ rfl (((((HO2.out.alloc _).alloc _).alloc _).alloc _).alloc _) _ 1 1 r.cells rfl rfl (cells_new' _ _ _ _ (by simp)) (by simp [PartA.cells,Value.oneCell']) (by have:=HL.out;unfold maxLen;omega) (by have:=HL.out;omega) (by simp;omega) ?_;intro v' w9 hown' hgrow _ _;obtain ⟨g',c',rfl⟩:=ownsRow_succ hown';obtain ⟨o3,o4,hput⟩:=OutAt.step (p:=r) (heap_old (heap_old (heap_old (heap_old (heap_old HO1.out _) _) _) _) _) (((((HO2.out.alloc _).alloc _).alloc _).alloc _).alloc _) hgrow hown';have HPUT:=Lib.hid hput;have HBW:=Lib.hid ((((((hbel.out.alloc (by first | omega | (simp;omega)) _).alloc (by first | omega | (simp;omega)) _).alloc (by first | omega | (simp;omega)) _).alloc (by first | omega | (simp;omega)) _).alloc (by first | omega | (simp;omega)) _).grown hgrow (by simp;omega) (fun k hk => (HO2.out.lt k hk).1));clear hown' hgrow hput))
      go_roundw
      case rel =>
       refine ⟨k + 1,by omega,by go_num,?_,HBW.out.setCell (p:=⟨w3.heap.size,1,none⟩) (Nat.le_refl _) _⟩
       rw [filterMap_take_succ _ _ _ _ HP.out,HA.out]
       show OutAt _ _ _ _ _
       rw [← List.append_assoc]
       have h:=HPUT.out
       simpa [Nat.add_assoc] using h
      case measure => simp [intOf];omega
    ·have hkl:k = l0.length:=by omega
     subst hkl
     have HOUT:Hid (OutAt wr w3.heap.size w3.heap.size b.size (l0.filterMap (aheadP off) ++ placeP off (l.take 0))):=Lib.hid (by have h:=hout.out;simpa [placeP] using h)
     have HA:=Lib.hid (show (l0.filterMap (aheadP off)).length ≤ 100000 by have h1:=List.length_filterMap_le (aheadP off) l0;omega)
     clear hout HPRE hlt
     go_wp2
     go_loopw [16,78] (fun t16 ti wr => ∃ k:Nat,k ≤ l.length ∧ ti = .int .i64 k ∧ t16 = .int .i64 (off + sumLen (l.take k)) ∧ Hid (OutAt wr w3.heap.size w3.heap.size b.size (l0.filterMap (aheadP off) ++ placeP off (l.take k))) ∧ Hid (Below w3.heap.size w3 wr)) (fun _ i _ => l.length - (intOf i).toNat)
     case atStart =>
      exact ⟨0,by omega,rfl,by simp [sumLen],HOUT.out,hbel.out⟩
     case round =>
      clear HOUT hbel
      obtain ⟨k,hk,rfl,rfl,hout,hbel⟩:=hrel
      by_cases hlt:k < l.length
      ·obtain ⟨p,hp⟩:∃ p,l[k]? = some p:=⟨_,List.getElem?_eq_getElem hlt⟩
       have hgp:=HF.out p (List.mem_of_getElem? hp)
       obtain ⟨g,off',rfl,hg,c0,c1,c2,c3⟩:=HC2.out k p hp
       have t:∀ o u,w.cell? ⟨g,o,none⟩ = some u → wr.cell? ⟨g,o,none⟩ = some u:=fun o u h => by
        rw [hbel.out.cell (p:=⟨g,o,none⟩) (by show g < _;omega),HB3.out.cell (p:=⟨g,o,none⟩) hg]
        exact h
       have q0:=t _ _ c0
       have q1:=t _ _ c1
       have q2:=t _ _ c2
       have q3:=t _ _ c3
       have HP:=Lib.hid hp
       clear c0 c1 c2 c3 t
       obtain ⟨sv,ho1,ho2,ho3,ho4⟩:=hout.out
       have y0:=heap_lt ho1
       have y1:w3.heap.size < wr.heap.size + 1:=by omega
       have y2:w3.heap.size < wr.heap.size + 2:=by omega
       have y3:w3.heap.size < wr.heap.size + 3:=by omega
       have y4:w3.heap.size < wr.heap.size + 4:=by omega
       have y5:w3.heap.size < wr.heap.size + 5:=by omega
       have o1:=cellAt ho1 1
       simp only [List.getElem?_toArray,List.getElem?_cons_zero,List.getElem?_cons_succ] at o1
       have HO1:=Lib.hid ho1
       have HO2:=Lib.hid ho2
       clear ho1 ho2 ho3 ho4
       have u1:=sumLen_nonneg (l:=l.take k) (fun q hq => HF.out q (List.mem_of_mem_take hq))
       have u2:=sumLen_take_le l (k + 1) HF.out
       have u3:=sumLen_take_succ l k p HP.out
       have u4:=hgp.1
       have u5:=hgp.2.1
       rw [← hS.out] at u2
       have HL:=Lib.hid (show (l0.filterMap (aheadP off) ++ placeP off (l.take k)).length ≤ 500000 by
        have h1:=HA.out
        simp only [List.length_append,placeP_length,List.length_take];omega)
       have z3:=hbel.out.size
       have HCALL:=Lib.hid (fun w => end_any ({ off:=off + sumLen (l.take k),len:=p.len,chunk:=p.chunk,pos:=p.pos }:PartA) (by show 0 ≤ off + sumLen (l.take k);omega) (by show off + sumLen (l.take k) ≤ _;omega) (by show 0 ≤ p.len;omega) (by show p.len ≤ _;omega) w)
       simp only [PartA.val] at HCALL
       have HU:=Lib.hid u3
       have e9:off + sumLen (l.take k) + p.len = off + sumLen (l.take (k + 1)):=by omega
       have HE9:=Lib.hid e9
       have HPL:=Lib.hid (placeP_take_succ l k p off HP.out)
       clear hgp u1 u2 u3 u4 u5 e9
       go_wp2_with (first | (go_at_call 131;refine (HCALL.out _).mono ?_;rintro e w2' ⟨rfl,rfl⟩) | (at_builtin;refine wpList_append_own_at _ rfl _ _ 81 rfl w3.heap.size 134 i0 _ 4 32 Tryz.underlying81 hi hz0 hz1 hz2 rfl (by decide) sv _ _ rfl (((HO2.out.alloc _).alloc _).alloc _) _ 1 1 ({ off:=off + sumLen (l.take k),len:=p.len,chunk:=p.chunk,pos:=p.pos }:PartA).cells rfl rfl (cells_new' _ _ _ _ (by simp)) (by simp [PartA.cells,Value.oneCell']) (by have:=HL.out;unfold maxLen;omega) (by have:=HL.out;omega) (by simp;omega) ?_;intro v' w9 hown' hgrow _ _;obtain ⟨g',c',rfl⟩:=ownsRow_succ hown';obtain ⟨o3,o4,hput⟩:=OutAt.step (p:=({ off:=off + sumLen (l.take k),len:=p.len,chunk:=p.chunk,pos:=p.pos }:PartA)) (heap_old (heap_old (heap_old HO1.out _) _) _) (((HO2.out.alloc _).alloc _).alloc _) hgrow hown';have HPUT:=Lib.hid hput;have HBW:=Lib.hid ((((hbel.out.alloc (by first | omega | (simp;omega)) _).alloc (by first | omega | (simp;omega)) _).alloc (by first | omega | (simp;omega)) _).grown hgrow (by simp;omega) (fun k hk => (HO2.out.lt k hk).1));clear hown' hgrow hput))
       go_roundw
       case rel =>
        refine ⟨k + 1,by omega,by go_num,by rw [HE9.out],?_,HBW.out.setCell (p:=⟨w3.heap.size,1,none⟩) (Nat.le_refl _) _⟩
        rw [HPL.out]
        show OutAt _ _ _ _ _
        rw [← List.append_assoc]
        have h:=HPUT.out
        simp only [List.length_append] at h ⊢
        exact h
       case measure => simp [intOf];omega
      ·have hkl:k = l.length:=by omega
       subst hkl
       have HOUT:Hid (OutAt wr w3.heap.size w3.heap.size b.size (l0.filterMap (aheadP off) ++ placeP off l)):=Lib.hid (by have h:=hout.out;rwa [List.take_length] at h)
       rw [show sumLen (l.take l.length) = S by rw [List.take_length];exact hS.out.symm]
       have HPRE:=Lib.hid (show (l0.filterMap (aheadP off) ++ placeP off l).length ≤ 200000 by have h1:=HA.out;simp only [List.length_append,placeP_length];omega)
       clear hout hlt
       have h0S:0 ≤ off + S:=by omega
       have k1':wr.cell? ⟨w.heap.size,1,none⟩ = some (.slice a l0.length cap):=(hbel.out.cell (p:=⟨w.heap.size,1,none⟩) z5).trans k1
       go_wp2
       go_loopw [96] (fun ti wr => ∃ k:Nat,k ≤ l0.length ∧ ti = .int .i64 k ∧ Hid (OutAt wr w3.heap.size w3.heap.size b.size ((l0.filterMap (aheadP off) ++ placeP off l) ++ (l0.take k).filterMap (behindP (off + S)))) ∧ Hid (Below w3.heap.size w3 wr)) (fun i _ => l0.length - (intOf i).toNat)
       case atStart =>
        refine ⟨0,by omega,rfl,?_,?_⟩
        ·show OutAt _ _ _ _ _;simpa using HOUT.out
        ·exact hbel.out
       case round =>
        obtain ⟨k,hk,rfl,hout,hbel⟩:=hrel
        by_cases hlt:k < l0.length
        ·obtain ⟨p,hp⟩:∃ p,l0[k]? = some p:=⟨_,List.getElem?_eq_getElem hlt⟩
         have hgp:=HG.out p (List.mem_of_getElem? hp)
         obtain ⟨g,off',rfl,hg,c0,c1,c2,c3⟩:=HC.out k p hp
         have t:∀ o u,w.cell? ⟨g,o,none⟩ = some u → wr.cell? ⟨g,o,none⟩ = some u:=fun o u h => by
          rw [hbel.out.cell (p:=⟨g,o,none⟩) (by show g < _;omega),HB3.out.cell (p:=⟨g,o,none⟩) hg]
          exact h
         have q0:=t _ _ c0
         have q1:=t _ _ c1
         have q2:=t _ _ c2
         have q3:=t _ _ c3
         have HP:=Lib.hid hp
         clear c0 c1 c2 c3 t
         obtain ⟨sv,ho1,ho2,ho3,ho4⟩:=hout.out
         have y0:=heap_lt ho1
         have y1:w3.heap.size < wr.heap.size + 1:=by omega
         have y2:w3.heap.size < wr.heap.size + 2:=by omega
         have y3:w3.heap.size < wr.heap.size + 3:=by omega
         have y4:w3.heap.size < wr.heap.size + 4:=by omega
         have y5:w3.heap.size < wr.heap.size + 5:=by omega
         have o1:=cellAt ho1 1
         simp only [List.getElem?_toArray,List.getElem?_cons_zero,List.getElem?_cons_succ] at o1
         have HO1:=Lib.hid ho1
         have HO2:=Lib.hid ho2
         clear ho1 ho2 ho3 ho4
         have y6:w3.heap.size < wr.heap.size + 6:=by omega
         have HL:=Lib.hid (show ((l0.filterMap (aheadP off) ++ placeP off l) ++ (l0.take k).filterMap (behindP (off + S))).length ≤ 500000 by
          have h1:=List.length_filterMap_le (behindP (off + S)) (l0.take k)
          have h2:=HPRE.out
          simp only [List.length_append] at h2 ⊢
          simp at h1;omega)
         have z3:=hbel.out.size
         have f1:=hgp.1.1
         have f2:=hgp.1.2.1
         have f3:=hgp.1.2.2.2.2
         have f4:=hgp.2
         have hs3:=HS.out
         have hcall:=fun w => behind_any p (off + S) f4.1 (by omega) (by omega) f2 f3.1 (by omega) (by omega) (by omega) w
         clear hgp f3 f4
         cases hA:behindP (off + S) p with
         | none =>
          rw [hA] at hcall
          have HCALL:=Lib.hid hcall
          have HA:=Lib.hid hA
          clear hcall hA
          go_wp2_with (go_at_call 81;refine (HCALL.out _).mono ?_;rintro e w2' ⟨rfl,x1,x2,x3,rfl⟩;simp only [optPart])
          go_roundw
          case rel =>
           refine ⟨k + 1,by omega,by go_num,?_,(((((hbel.out.alloc (by omega) _).alloc (by simp;omega) _).alloc (by simp;omega) _).alloc (by simp;omega) _).alloc (by simp;omega) _)⟩
           rw [filterMap_take_succ _ _ _ _ HP.out,HA.out]
           have h:=(((((hout.out.alloc (.cells #[.int .i64 p.off,.int .i64 p.len,.int .i64 p.chunk,.int .i64 p.pos] 134)).alloc x1).alloc x2).alloc x3).alloc (.cells #[.int .i64 0,.int .i64 0,.int .i64 0,.int .i64 0] 134))
           show OutAt _ _ _ _ _
           simpa using h
          case measure => simp [intOf];omega
         | some r =>
          rw [hA] at hcall
          have HCALL:=Lib.hid hcall
          have HA:=Lib.hid hA
          clear hcall hA
          go_wp2_with (first | (go_at_call 81;refine (HCALL.out _).mono ?_;rintro e w2' ⟨rfl,x1,x2,x3,rfl⟩;simp only [optPart,PartA.val]) | (at_builtin;refine wpList_append_own_at _ rfl _ _ 81 rfl w3.heap.size 134 i0 _ 4 32 Tryz.underlying81 hi hz0 hz1 hz2 rfl (by decide) sv _ _ rfl ((((((HO2.out.alloc _).alloc _).alloc _).alloc _).alloc _).alloc _) _ 1 1 r.cells rfl rfl (cells_new' _ _ _ _ (by simp)) (by simp [PartA.cells,Value.oneCell']) (by have:=HL.out;unfold maxLen;omega) (by have:=HL.out;omega) (by simp;omega) ?_;intro v' w9 hown' hgrow _ _;obtain ⟨g',c',rfl⟩:=ownsRow_succ hown';obtain ⟨o3,o4,hput⟩:=OutAt.step (p:=r) (heap_old (heap_old (heap_old (heap_old (heap_old (heap_old HO1.out _) _) _) _) _) _) ((((((HO2.out.alloc _).alloc _).alloc _).alloc _).alloc _).alloc _) hgrow hown';have HPUT:=Lib.hid hput;have HBW:=Lib.hid (((((((hbel.out.alloc (by first | omega | (simp;omega)) _).alloc (by first | omega | (simp;omega)) _).alloc (by first | omega | (simp;omega)) _).alloc (by first | omega | (simp;omega)) _).alloc (by first | omega | (simp;omega)) _).alloc (by first | omega | (simp;omega)) _).grown hgrow (by simp;omega) (fun k hk => (HO2.out.lt k hk).1));clear hown' hgrow hput))
          go_roundw
          case rel =>
           refine ⟨k + 1,by omega,by go_num,?_,HBW.out.setCell (p:=⟨w3.heap.size,1,none⟩) (Nat.le_refl _) _⟩
           rw [filterMap_take_succ _ _ _ _ HP.out,HA.out]
           show OutAt _ _ _ _ _
           rw [← List.append_assoc]
           have h:=HPUT.out
           simpa [Nat.add_assoc] using h
          case measure => simp [intOf];omega
        ·have hkl:k = l0.length:=by omega
         subst hkl
         obtain ⟨sv,ho1',ho2',-,-⟩:=hout.out
         rw [List.take_length] at ho2'
         obtain ⟨D,hD⟩:∃ D,Hid (D = l0.filterMap (aheadP off) ++ placeP off l ++ l0.filterMap (behindP (off + S))):=⟨_,rfl⟩
         rw [← hD.out] at ho2'
         obtain ⟨a',c',rfl⟩:=own_shape ho2'
         have hr2:wr.heap[w.heap.size + 1]? = some (.cells #[.int .i64 0,.slice none 0 0] 100 (0,0)):=(hbel.out.block _ (by omega)).trans HX32.out
         have hr1:wr.heap[w.heap.size]? = some (.cells #[.int .i64 b.size,.slice a l0.length cap] 100 (0,0)):=(hbel.out.block _ (by omega)).trans HX31.out
         have j0:=cellAt ho1' 0
         have j1:=cellAt ho1' 1
         have jf0:=frozenAt ho1' 0
         have jf1:=frozenAt ho1' 1
         have j4:=frozenAt hr2 0
         have j5:=frozenAt hr2 1
         have j8:=cellAt hr1 1
         have j2:=cellAt hr2 0
         have j3:=cellAt hr2 1
         simp only [List.getElem?_toArray,List.getElem?_cons_zero,List.getElem?_cons_succ] at j0 j1 j2 j3 j8
         have y0:=heap_lt ho1'
         have n1:w3.heap.size ≠ w.heap.size + 1:=by omega
         have n2:w.heap.size + 1 ≠ w3.heap.size:=by omega
         by_cases hl0:l = []
         ·subst hl0
          have HSL:Hid (Sl wr 134 4 (.slice a l0.length cap) l0.length (partsC l0)):=by
           obtain ⟨s,e1,h⟩:=HV.out
           simp only [Value.agg.injEq,Array.mk.injEq,List.cons.injEq,and_true,true_and] at e1
           subst e1
           rw [hl.out] at h
           exact Lib.hid (h.below (HB3.out.trans (hbel.out.mono (by omega))))
          go_wp2_with (go_at_call 78;refine (clonePart_any _ _ l0.length (partsC l0) HSL.out (by omega)).mono ?_;rintro e w5 ⟨v5,rfl,ho5,hn5,hb5⟩;obtain ⟨a5,c5,rfl⟩:=own_shape ho5;have H5:=Lib.hid ho5;have HN5:=Lib.hid hn5;have HB5:=Lib.hid hb5;have m1:=cellAt (Below.heap hb5 (Nat.le_refl _) ho1') 1;have m0:=cellAt (Below.heap hb5 (Nat.le_refl _) ho1') 0;have mf1:=frozenAt (Below.heap hb5 (Nat.le_refl _) ho1') 1;have m2:=cellAt (Below.heap hb5 (Nat.le_refl _) hr2) 0;have m3:=cellAt (Below.heap hb5 (Nat.le_refl _) hr2) 1;have mf2:=frozenAt (Below.heap hb5 (Nat.le_refl _) hr2) 0;have mf3:=frozenAt (Below.heap hb5 (Nat.le_refl _) hr2) 1;simp only [List.getElem?_toArray,List.getElem?_cons_zero,List.getElem?_cons_succ] at m0 m1 m2 m3;clear ho5 hn5 hb5)
          try simp only [Exit.inBlock,Exit.then]
          have hr2':=Below.heap HB5.out (Nat.le_refl _) hr2
          have hr1':=Below.heap HB5.out (Nat.le_refl _) ho1'
          have hx2:(w5.setCell ⟨w3.heap.size,1,none⟩ (.slice a5 l0.length c5)).heap[w.heap.size + 1]? = some (.cells #[.int .i64 0,.slice none 0 0] 100 (0,0)):=(heap_set_ne _ n2).trans hr2'
          have hs2:=setAt hx2 0 (.int .i64 b.size)
          have hs4:=setAt hs2 1 (.slice a5 l0.length c5)
          have j6:=cellAt hs2 0
          have j7:=cellAt hs4 1
          simp at j6 j7
          refine bodyPost_ret (v:=.tuple #[.agg #[.int .i64 b.size,.slice a5 l0.length c5],.int .i64 0]) (by simp [results,Tryz.results116,go_sem,j6,j7]) rfl ?_
          refine ⟨_,rfl,⟨_,rfl,?_⟩,?_⟩
          ·show Sl _ _ _ _ b.parts.length (partsC b.parts)
           rw [hl.out]
           refine Sl.of_own (B:=wr.heap.size) ?_ (partsC_one _) ?_
           ·exact own_setCell (own_setCell (own_setCell H5.out (own_neq H5.out hr1' (by decide))) (own_neq H5.out hr2' (by decide))) (own_neq H5.out hr2' (by decide))
           ·by_cases h0:l0.length = 0
            ·exact .inl (HN5.out.2 h0)
            ·exact .inr (by omega)
          ·exact ((((HB3.out.trans (hbel.out.mono (by omega))).trans (HB5.out.mono (by omega))).setCell (p:=⟨w3.heap.size,1,none⟩) (by show w.heap.size ≤ w3.heap.size;omega) _).setCell (p:=⟨w.heap.size + 1,0,none⟩) (by simp) _).setCell (p:=⟨w.heap.size + 1,1,none⟩) (by simp) _
         ·have d9:((l.length:Int) == 0) = false:=by have:=List.length_pos_iff.2 hl0;simp only [beq_eq_false_iff_ne,ne_eq];omega
          by_cases c2:b.size < off + S
          ·go_wp2
           try simp only [Exit.inBlock,Exit.then]
           have hx2:(wr.setCell ⟨w3.heap.size,0,none⟩ (.int .i64 (off + S))).heap[w.heap.size + 1]? = some (.cells #[.int .i64 0,.slice none 0 0] 100 (0,0)):=(heap_set_ne _ n2).trans hr2
           have hs2:=setAt hx2 0 (.int .i64 (off + S))
           have hs4:=setAt hs2 1 (.slice a' D.length c')
           have j6:=cellAt hs2 0
           have j7:=cellAt hs4 1
           simp at j6 j7
           refine bodyPost_ret (v:=.tuple #[.agg #[.int .i64 (off + S),.slice a' D.length c'],.int .i64 0]) (by simp [results,Tryz.results116,go_sem,j6,j7]) rfl ?_
           have hW:writeB b off l = ⟨off + S,D⟩:=by
            rw [hD.out,← hl.out]
            cases l with
            | nil => exact absurd rfl hl0
            | cons x l =>
             simp only [writeB,← hS.out]
             congr 1
             omega
           rw [hW]
           refine ⟨_,rfl,⟨_,rfl,?_⟩,?_⟩
           ·refine Sl.of_own (B:=w3.heap.size) ?_ (partsC_one _) (.inr ?_)
            ·refine own_setCell (own_setCell (own_setCell ho2' (own_neq ho2' ho1' (by decide))) ?_) ?_
             ·exact own_neq ho2' hr2 (by decide)
             ·exact own_neq ho2' hr2 (by decide)
            ·show 0 < D.length
             rw [hD.out]
             have:=List.length_pos_iff.2 hl0
             simp only [List.length_append,placeP_length];omega
           ·exact (((HB3.out.trans (hbel.out.mono (by omega))).setCell (p:=⟨w3.heap.size,0,none⟩) (by show w.heap.size ≤ w3.heap.size;omega) _).setCell (p:=⟨w.heap.size + 1,0,none⟩) (by simp) _).setCell (p:=⟨w.heap.size + 1,1,none⟩) (by simp) _
          ·go_wp2
           try simp only [Exit.inBlock,Exit.then]
           have hx2:(wr.setCell ⟨w3.heap.size,0,none⟩ (.int .i64 (b.size))).heap[w.heap.size + 1]? = some (.cells #[.int .i64 0,.slice none 0 0] 100 (0,0)):=(heap_set_ne _ n2).trans hr2
           have hs2:=setAt hx2 0 (.int .i64 (b.size))
           have hs4:=setAt hs2 1 (.slice a' D.length c')
           have j6:=cellAt hs2 0
           have j7:=cellAt hs4 1
           simp at j6 j7
           refine bodyPost_ret (v:=.tuple #[.agg #[.int .i64 (b.size),.slice a' D.length c'],.int .i64 0]) (by simp [results,Tryz.results116,go_sem,j6,j7]) rfl ?_
           have hW:writeB b off l = ⟨b.size,D⟩:=by
            rw [hD.out,← hl.out]
            cases l with
            | nil => exact absurd rfl hl0
            | cons x l =>
             simp only [writeB,← hS.out]
             congr 1
             omega
           rw [hW]
           refine ⟨_,rfl,⟨_,rfl,?_⟩,?_⟩
           ·refine Sl.of_own (B:=w3.heap.size) ?_ (partsC_one _) (.inr ?_)
            ·refine own_setCell (own_setCell (own_setCell ho2' (own_neq ho2' ho1' (by decide))) ?_) ?_
             ·exact own_neq ho2' hr2 (by decide)
             ·exact own_neq ho2' hr2 (by decide)
            ·show 0 < D.length
             rw [hD.out]
             have:=List.length_pos_iff.2 hl0
             simp only [List.length_append,placeP_length];omega
           ·exact (((HB3.out.trans (hbel.out.mono (by omega))).setCell (p:=⟨w3.heap.size,0,none⟩) (by show w.heap.size ≤ w3.heap.size;omega) _).setCell (p:=⟨w.heap.size + 1,0,none⟩) (by simp) _).setCell (p:=⟨w.heap.size + 1,1,none⟩) (by simp) _
end Go.Proofs.YtaonlcgneemimaaGreatDoor
namespace Go.Proofs.YtaonlcgneemimaaGreatDoor
open Go.RowKit
structure ItemA where
 op:Int
 path:ByteArray
 to:ByteArray
 off:Int
 size:Int
 parts:List PartA
structure ItemA.good (i:ItemA):Prop where
 op1:1 ≤ i.op
 op2:i.op ≤ 8
 path:i.path.size ≤ 64
 to:i.to.size ≤ 64
 noTo:i.op ≠ 5 → i.to = ⟨#[]⟩
 noOff:i.op ≠ 3 → i.off = 0
 noSize:i.op ≠ 4 → i.size = 0
 off1:0 ≤ i.off
 off2:i.off ≤ 1099511627776
 size1:0 ≤ i.size
 size2:i.size ≤ 1099511627776
 parts:∀ p ∈ i.parts,p.off = 0 ∧ p.fits
 noParts:i.op ≠ 3 → i.parts = []
 few:i.parts.length ≤ 1000
def ItemC (w:World) (cs:List Value) (i:ItemA):Prop:=∃ s,cs = [.int .i64 i.op,.string i.path,.string i.to,.int .i64 i.off,.int .i64 i.size,.slice none 0 0,s] ∧ Sl w 134 4 s i.parts.length (partsC i.parts)
set_option maxHeartbeats 1000000 in
theorem evHas_any (op:Int) (w:World):Calls Tryz.prog 126 #[.int .i64 op] w fun e w' => e = .returned (.tuple #[.bool (op == 5),.bool (op == 3),.bool (op == 4)]) ∧ w' = w:=by
 go_enter Tryz.func126,Tryz.ntmps126
 go_wp2
 refine bodyPost_ret (v:=.tuple #[.bool (op == 5),.bool (op == 3),.bool (op == 4)]) (by simp [results,Tryz.results126,go_sem]) rfl ?_
 exact ⟨rfl,rfl⟩
set_option maxHeartbeats 1000000 in
theorem evSize_any (n:Int) (h0:0 ≤ n) (h1:n ≤ 1099511627776) (w:World):Calls Tryz.prog 127 #[.int .i64 n] w fun e w' => e = .returned (.bool true) ∧ w' = w:=by
 have d1:decide (0 ≤ n) = true:=by simpa using h0
 have d2:decide (n ≤ 1099511627776) = true:=by simpa using h1
 go_enter Tryz.func127,Tryz.ntmps127
 go_wp2
 go_ret
 exact ⟨rfl,rfl⟩
set_option maxRecDepth 100000 in
set_option maxHeartbeats 1000000 in
theorem itemParts_any (i:ItemA) (cs:List Value) (w:World) (h:ItemC w cs i) (hg:i.good):Calls Tryz.prog 128 #[.agg cs.toArray] w fun e w' => e = .returned (.bool true) ∧ Below w.heap.size w w':=by
 obtain ⟨s,rfl,hs⟩:=h
 obtain ⟨a,cap,rfl,hcap,ha0,hcells⟩:=parts_cells hs
 obtain ⟨l,hl⟩:∃ l,Hid (i.parts = l):=⟨_,rfl⟩
 have hp:=hg.parts
 have hnp:=hg.noParts
 have hfew:=hg.few
 rw [hl.out] at hcells hcap ha0 hp hnp hfew
 rw [hl.out]
 have HC:=Lib.hid hcells
 have HP:=Lib.hid hp
 have HNP:=Lib.hid hnp
 clear hs hcells hp hnp
 go_enter Tryz.func128,Tryz.ntmps128
 go_wp2
 go_loopw [8] (fun ti wr => ∃ k:Nat,k ≤ l.length ∧ ti = .int .i64 k ∧ Hid (Below (w.heap.size + 1) (w.alloc (.cells #[.int .i64 i.op,.string i.path,.string i.to,.int .i64 i.off,.int .i64 i.size,.slice none 0 0,.slice a l.length cap] 84)) wr)) (fun i _ => l.length - (intOf i).toNat)
 case atStart => exact ⟨0,by omega,rfl,Below.refl _ _⟩
 case round =>
  obtain ⟨k,hk,rfl,hbel⟩:=hrel
  have z0:w.heap.size < wr.heap.size:=by have:=hbel.out.size;simp at this;omega
  have z1:w.heap.size < wr.heap.size + 1:=by omega
  by_cases hlt:k < l.length
  ·obtain ⟨p,hp⟩:∃ p,l[k]? = some p:=⟨_,List.getElem?_eq_getElem hlt⟩
   obtain ⟨hp0,hfit⟩:=HP.out p (List.mem_of_getElem? hp)
   obtain ⟨g,off,rfl,hg,c0,c1,c2,c3⟩:=HC.out k p hp
   have t:∀ o u,w.cell? ⟨g,o,none⟩ = some u → wr.cell? ⟨g,o,none⟩ = some u:=fun o u h => by
    rw [hbel.out.cell (p:=⟨g,o,none⟩) (by show g < _;omega),World.cell?_of_block (w:=w) (Below.heap_alloc w _ g hg)]
    exact h
   have q0:=t _ _ c0
   have q1:=t _ _ c1
   have q2:=t _ _ c2
   have q3:=t _ _ c3
   have HF:=Lib.hid hfit
   rw [hp0] at q0
   have hval:p.val = .agg #[.int .i64 0,.int .i64 p.len,.int .i64 p.chunk,.int .i64 p.pos]:=by unfold PartA.val;rw [hp0]
   have HFIT:=Lib.hid (fun w => by have:=fits_any p hfit w;rw [hval,hp0] at this;exact this)
   clear c0 c1 c2 c3 t hfit hp hp0 hval
   go_wp2_with (go_at_call 130;refine (HFIT.out _).mono ?_;rintro e w1 ⟨rfl,rfl⟩)
   go_roundw
   case rel => exact ⟨k + 1,by omega,by go_num,(hbel.out.alloc (by omega) _).alloc (by simp;omega) _⟩
   case measure => simp [intOf];omega
  ·have b0:wr.cell? ⟨w.heap.size,0,none⟩ = some (.int .i64 i.op):=by
    rw [hbel.out.cell (p:=⟨w.heap.size,0,none⟩) (by show w.heap.size < _;omega),cellAt (heap_new w _) 0];rfl
   have b6:wr.cell? ⟨w.heap.size,6,none⟩ = some (.slice a l.length cap):=by
    rw [hbel.out.cell (p:=⟨w.heap.size,6,none⟩) (by show w.heap.size < _;omega),cellAt (heap_new w _) 6];rfl
   have HBF:=Lib.hid (((Below.refl _ w).alloc (Nat.le_refl _) (.cells #[.int .i64 i.op,.string i.path,.string i.to,.int .i64 i.off,.int .i64 i.size,.slice none 0 0,.slice a l.length cap] 84)).trans (hbel.out.mono (by omega)))
   by_cases h3:i.op = 3
   ·rw [h3] at b0
    by_cases hl0:l = []
    ·subst hl0
     go_wp2
     go_ret
     exact ⟨rfl,HBF.out⟩
    ·have d9:((l.length:Int) == 0) = false:=by have:=List.length_pos_iff.2 hl0;simp only [beq_eq_false_iff_ne,ne_eq];omega
     go_wp2
     go_ret
     exact ⟨rfl,HBF.out⟩
   ·have hl0:=HNP.out h3
    subst hl0
    go_wp2
    go_ret
    exact ⟨rfl,HBF.out⟩
end Go.Proofs.YtaonlcgneemimaaGreatDoor
namespace Go.Proofs.YtaonlcgneemimaaGreatDoor
open Go.RowKit
theorem ItemC.below {w w':World} {cs:List Value} {i:ItemA} (h:ItemC w cs i) (hb:Below w.heap.size w w'):ItemC w' cs i:=by
 obtain ⟨s,e,hs⟩:=h
 exact ⟨s,e,hs.below hb⟩
set_option maxRecDepth 100000 in
set_option maxHeartbeats 2000000 in
theorem itemMay_any (i:ItemA) (cs:List Value) (w:World) (h:ItemC w cs i) (hg:i.good):Calls Tryz.prog 75 #[.agg cs.toArray] w fun e w' => e = .returned (.bool true) ∧ Below w.heap.size w w':=by
 have HI:=Lib.hid h
 have HG:=Lib.hid hg
 obtain ⟨s,rfl,hs⟩:=h
 obtain ⟨a,cap,rfl,hcap,ha0,-⟩:=parts_cells hs
 obtain ⟨g1,g2,g3,g4,g5,g6,g7,g8,g9,g10,g11,g12,g13,g14⟩:=hg
 obtain ⟨op,path,to,off,size,parts⟩:=i
 simp only at g1 g2 g3 g4 g5 g6 g7 g8 g9 g10 g11 g12 g13 g14 hs hcap ha0
 have d1:decide (op < 1) = false:=by simp;omega
 have d2:decide (8 < op) = false:=by simp;omega
 have d3:decide (64 < (path.size:Int)) = false:=by simp;omega
 have d4:decide (64 < (to.size:Int)) = false:=by simp;omega
 clear hs g12 g14
 by_cases c5:op = 5
 ·subst c5
  obtain rfl:=g6 (by decide)
  obtain rfl:=g7 (by decide)
  clear g5 g6 g7 g13
  go_enter Tryz.func75,Tryz.ntmps75
  go_wp2_with (first | (go_at_call 126;refine (evHas_any _ _).mono ?_;rintro e w1 ⟨rfl,hw⟩;have hw:=hw.symm;subst hw) | (go_at_call 127;refine (evSize_any _ (by omega) (by omega) _).mono ?_;rintro e w1 ⟨rfl,hw⟩;have hw:=hw.symm;subst hw) | (go_at_call 128;refine (itemParts_any _ _ _ (HI.out.below (((Below.refl _ w).alloc (Nat.le_refl _) _).alloc (by simp) _)) HG.out).mono ?_;rintro e w2 ⟨rfl,hq⟩;have HQ:=Lib.hid ((((Below.refl w.heap.size w).alloc (Nat.le_refl _) _).alloc (by simp) _).trans (hq.mono (by simp;omega)));clear hq))
  go_ret
  exact ⟨rfl,HQ.out⟩
 ·obtain rfl:=g5 c5
  have b5:(op == 5) = false:=by simpa using c5
  clear g5
  by_cases c3:op = 3
  ·subst c3
   obtain rfl:=g7 (by decide)
   clear g6 g7 g13
   go_enter Tryz.func75,Tryz.ntmps75
   go_wp2_with (first | (go_at_call 126;refine (evHas_any _ _).mono ?_;rintro e w1 ⟨rfl,hw⟩;have hw:=hw.symm;subst hw) | (go_at_call 127;refine (evSize_any _ (by omega) (by omega) _).mono ?_;rintro e w1 ⟨rfl,hw⟩;have hw:=hw.symm;subst hw) | (go_at_call 128;refine (itemParts_any _ _ _ (HI.out.below (((Below.refl _ w).alloc (Nat.le_refl _) _).alloc (by simp) _)) HG.out).mono ?_;rintro e w2 ⟨rfl,hq⟩;have HQ:=Lib.hid ((((Below.refl w.heap.size w).alloc (Nat.le_refl _) _).alloc (by simp) _).trans (hq.mono (by simp;omega)));clear hq))
   go_ret
   exact ⟨rfl,HQ.out⟩
  ·obtain rfl:=g6 c3
   have b3:(op == 3) = false:=by simpa using c3
   clear g6
   by_cases c4:op = 4
   ·subst c4
    clear g7 g13
    go_enter Tryz.func75,Tryz.ntmps75
    go_wp2_with (first | (go_at_call 126;refine (evHas_any _ _).mono ?_;rintro e w1 ⟨rfl,hw⟩;have hw:=hw.symm;subst hw) | (go_at_call 127;refine (evSize_any _ (by omega) (by omega) _).mono ?_;rintro e w1 ⟨rfl,hw⟩;have hw:=hw.symm;subst hw) | (go_at_call 128;refine (itemParts_any _ _ _ (HI.out.below (((Below.refl _ w).alloc (Nat.le_refl _) _).alloc (by simp) _)) HG.out).mono ?_;rintro e w2 ⟨rfl,hq⟩;have HQ:=Lib.hid ((((Below.refl w.heap.size w).alloc (Nat.le_refl _) _).alloc (by simp) _).trans (hq.mono (by simp;omega)));clear hq))
    go_ret
    exact ⟨rfl,HQ.out⟩
   ·obtain rfl:=g7 c4
    have b4:(op == 4) = false:=by simpa using c4
    clear g7 g13
    go_enter Tryz.func75,Tryz.ntmps75
    go_wp2_with (first | (go_at_call 126;refine (evHas_any _ _).mono ?_;rintro e w1 ⟨rfl,hw⟩;have hw:=hw.symm;subst hw) | (go_at_call 127;refine (evSize_any _ (by omega) (by omega) _).mono ?_;rintro e w1 ⟨rfl,hw⟩;have hw:=hw.symm;subst hw) | (go_at_call 128;refine (itemParts_any _ _ _ (HI.out.below (((Below.refl _ w).alloc (Nat.le_refl _) _).alloc (by simp) _)) HG.out).mono ?_;rintro e w2 ⟨rfl,hq⟩;have HQ:=Lib.hid ((((Below.refl w.heap.size w).alloc (Nat.le_refl _) _).alloc (by simp) _).trans (hq.mono (by simp;omega)));clear hq))
    go_ret
    exact ⟨rfl,HQ.out⟩
end Go.Proofs.YtaonlcgneemimaaGreatDoor
namespace Go.Proofs.YtaonlcgneemimaaGreatDoor
open Go.RowKit
def partB (p:PartA):List Int:=numB p.len.toNat ++ numB p.chunk.toNat ++ numB p.pos.toNat
def itemB (i:ItemA):List Int :=
 [i.op] ++ textB i.path ++ (if i.op = 5 then textB i.to else []) ++ (if i.op = 4 then numB i.size.toNat else []) ++
  (if i.op = 3 then numB i.off.toNat ++ numB i.parts.length ++ i.parts.flatMap partB else [])
theorem textB_len (s:ByteArray) (h:s.size ≤ 64):(textB s).length ≤ 65:=by
 have:=numB_len 0 s.size (by omega)
 simp only [textB,List.length_append,strB_length];omega
theorem partB_len (p:PartA) (h:p.fits):(partB p).length ≤ 27:=by
 obtain ⟨h1,h2,h3,h4,h5,h6⟩:=h
 have a:=numB_len 8 p.len.toNat (by omega)
 have b:=numB_len 8 p.chunk.toNat (by omega)
 have c:=numB_len 8 p.pos.toNat (by omega)
 simp only [partB,List.length_append];omega
theorem partsB_len:∀ (l:List PartA),(∀ p ∈ l,p.fits) → (l.flatMap partB).length ≤ 27 * l.length
 | [],_ => by simp
 | p :: l,h => by
  have a:=partB_len p (h p (by simp))
  have b:=partsB_len l (fun q hq => h q (by simp [hq]))
  simp only [List.flatMap_cons,List.length_append,List.length_cons];omega
theorem itemB_len (i:ItemA) (h:i.good):(itemB i).length ≤ 200 + 27 * i.parts.length:=by
 have a:=textB_len i.path h.path
 have b:=textB_len i.to h.to
 have c:=numB_len 8 i.size.toNat (by have:=h.size2;omega)
 have d:=numB_len 8 i.off.toNat (by have:=h.off2;omega)
 have e:=numB_len 8 i.parts.length (by have:=h.few;omega)
 have f:=partsB_len i.parts (fun p hp => (h.parts p hp).2)
 unfold itemB
 simp only [List.length_append,List.length_cons,List.length_nil]
 split <;> split <;> split <;> simp only [List.length_append,List.length_nil] <;> omega
structure PenIn (B:Nat) (wE w:World) (a:Nat) (l:List Int) (bx:Nat) (cs:List Value):Prop where
 pen:PenAt w B a l
 below:Below B wE w
 keep:PenKeep a wE w
 box:w.heap[bx]? = some (.cells cs.toArray 84 (0,0))
theorem PenIn.step {B:Nat} {wE w w':World} {a bx:Nat} {l l':List Int} {cs:List Value} (h:PenIn B wE w a l bx cs) (hp:PenAt w' B a l') (hb:Below B w w') (hk:PenKeep a w w'):PenIn B wE w' a l' bx cs:=by
 obtain ⟨v,ha,hr⟩:=h.pen
 refine ⟨hp,h.below.trans hb,h.keep.trans hk,hk bx _ h.box ?_ (fun arr e => by injection e with _ e;exact absurd e (by decide))⟩
 rintro rfl
 rw [h.box] at ha
 injection ha with ha
 injection ha with _ e
 exact absurd e (by decide)
end Go.Proofs.YtaonlcgneemimaaGreatDoor
namespace Go.Proofs.YtaonlcgneemimaaGreatDoor
open Go.RowKit
theorem PenAt.below {w w':World} {B a:Nat} {l:List Int} (h:PenAt w B a l) (hb:Below w.heap.size w w'):PenAt w' B a l:=by
 obtain ⟨v,ha,ho,hr⟩:=h
 refine ⟨v,Below.heap hb (Nat.le_refl _) ha,⟨ho.1,?_⟩,hr⟩
 rcases ho.2 with h | ⟨g,cap,cur,h1,h2,h3,h4⟩
 ·exact .inl h
 ·exact .inr ⟨g,cap,cur,h1,h2,Below.heap hb (Nat.le_refl _) h3,h4⟩
theorem PenIn.facts {B:Nat} {wE w:World} {a bx:Nat} {l:List Int} {v0 v1 v2 v3 v4 v5 v6:Value} (h:PenIn B wE w a l bx [v0,v1,v2,v3,v4,v5,v6]) :
  w.cell? ⟨bx,0,none⟩ = some v0 ∧ w.cell? ⟨bx,1,none⟩ = some v1 ∧ w.cell? ⟨bx,2,none⟩ = some v2 ∧ w.cell? ⟨bx,3,none⟩ = some v3 ∧ w.cell? ⟨bx,4,none⟩ = some v4 ∧ w.cell? ⟨bx,6,none⟩ = some v6 :=
 ⟨cellAt h.box 0,cellAt h.box 1,cellAt h.box 2,cellAt h.box 3,cellAt h.box 4,cellAt h.box 6⟩
set_option maxRecDepth 100000 in
set_option maxHeartbeats 2000000 in
theorem itemWrite_other (w0 w:World) (a:Nat) (l0:List Int) (cs:List Value) (i:ItemA) (h:ItemC w0 cs i) (hg:i.good) (hc:i.op ≠ 3 ∧ i.op ≠ 4 ∧ i.op ≠ 5) (hb:Below w0.heap.size w0 w) (hp:PenAt w w0.heap.size a l0) (hl:l0.length ≤ 800000) :
  Calls Tryz.prog 112 #[.pointer (some ⟨a,0,none⟩),.agg cs.toArray] w fun e w' => e = .returned (.tuple #[]) ∧ PenAt w' w0.heap.size a (l0 ++ itemB i) ∧ Below w0.heap.size w w' ∧ (∀ (k:Nat) (o:Obj),w.heap[k]? = some o → k ≠ a → (∀ arr,o ≠ .cells arr 5 (0,0)) → w'.heap[k]? = some o):=by
 have HI:=Lib.hid h
 have HG:=Lib.hid hg
 have HP0:=Lib.hid hp
 have HL:=Lib.hid hl
 obtain ⟨sv,rfl,hs⟩:=h
 obtain ⟨s,cap,rfl,hcap,ha0,hcells⟩:=parts_cells hs
 obtain ⟨g1,g2,g3,g4,g5,g6,g7,g8,g9,g10,g11,g12,g13,g14⟩:=hg
 obtain ⟨op,path,to,off,size,l⟩:=i
 simp only at hc g1 g2 g3 g4 g5 g6 g7 g8 g9 g10 g11 g12 g13 g14 hs hcap ha0 hcells
 obtain ⟨c3,c4,c5⟩:=hc
 have b5:(op == 5) = false:=by simpa using c5
 have b3:(op == 3) = false:=by simpa using c3
 have b4:(op == 4) = false:=by simpa using c4
 have HC:=Lib.hid hcells
 have G12:=Lib.hid g12
 clear hs hp hl hcells ha0 g5 g6 g7 g12 g13 g14
 have HBB:=Lib.hid hb
 have HTP:=Lib.hid (textB_len path g3)
 clear hb
 go_enter Tryz.func112,Tryz.ntmps112
 go_wp2_with (first | (go_at_call 75;refine (itemMay_any _ _ _ (HI.out.below (HBB.out.trans (((Below.refl w.heap.size w).alloc (Nat.le_refl _) _).mono HBB.out.size))) HG.out).mono ?_;rintro e w1 ⟨rfl,hq⟩;have hbw1:Below w.heap.size w w1:=((Below.refl w.heap.size w).alloc (Nat.le_refl _) _).trans (hq.mono (by simp));have HP1:=Lib.hid (PenIn.mk (cs:=[.int .i64 op,.string path,.string to,.int .i64 off,.int .i64 size,.slice none 0 0,.slice s l.length cap]) (HP0.out.below hbw1) (hbw1.mono HBB.out.size) (fun k o hk _ _ => Below.heap hbw1 (Nat.le_refl _) hk) (Below.heap hq (Nat.le_refl _) (heap_new w _)));obtain ⟨x10,x11,x12,x13,x14,x16⟩:=HP1.out.facts;clear hq hbw1) | (go_at_call 126;refine (evHas_any _ _).mono ?_;rintro e w9 ⟨rfl,hw⟩;have hw:=hw.symm;subst hw) | (go_at_call 109;with_reducible refine (byte_k w0.heap.size a _ _ (by have:=HL.out;omega) _ HP1.out.pen).mono ?_;rintro e w2 ⟨rfl,hq,hb',hk'⟩;have HP2:=Lib.hid (HP1.out.step hq hb' hk');obtain ⟨x20,x21,x22,x23,x24,x26⟩:=HP2.out.facts;clear hq hb' hk') | (go_at_call 113;with_reducible refine (text_k w0.heap.size a _ _ (by omega) (by have:=HL.out;have:=HTP.out;simp only [List.length_append,List.length_cons,List.length_nil];omega) _ HP2.out.pen).mono ?_;rintro e w3 ⟨rfl,hq,hb',hk'⟩;have HP3:=Lib.hid (HP2.out.step hq hb' hk');obtain ⟨x30,x31,x32,x33,x34,x36⟩:=HP3.out.facts;clear hq hb' hk'))
 refine bodyPost_ret (results_none rfl _ _ _) rfl ?_
 have hB:l0 ++ itemB ⟨op,path,to,off,size,l⟩ = l0 ++ [op] ++ textB path:=by
  unfold itemB
  simp only [if_neg c3,if_neg c4,if_neg c5]
  simp
 rw [hB]
 refine ⟨rfl,?_,?_,?_⟩
 ·exact HP3.out.pen
 ·exact HP3.out.below
 ·exact HP3.out.keep
set_option maxRecDepth 100000 in
set_option maxHeartbeats 2000000 in
theorem itemWrite_5 (w0 w:World) (a:Nat) (l0:List Int) (cs:List Value) (i:ItemA) (h:ItemC w0 cs i) (hg:i.good) (hc:i.op = 5) (hb:Below w0.heap.size w0 w) (hp:PenAt w w0.heap.size a l0) (hl:l0.length ≤ 800000) :
  Calls Tryz.prog 112 #[.pointer (some ⟨a,0,none⟩),.agg cs.toArray] w fun e w' => e = .returned (.tuple #[]) ∧ PenAt w' w0.heap.size a (l0 ++ itemB i) ∧ Below w0.heap.size w w' ∧ (∀ (k:Nat) (o:Obj),w.heap[k]? = some o → k ≠ a → (∀ arr,o ≠ .cells arr 5 (0,0)) → w'.heap[k]? = some o):=by
 have HI:=Lib.hid h
 have HG:=Lib.hid hg
 have HP0:=Lib.hid hp
 have HL:=Lib.hid hl
 obtain ⟨sv,rfl,hs⟩:=h
 obtain ⟨s,cap,rfl,hcap,ha0,hcells⟩:=parts_cells hs
 obtain ⟨g1,g2,g3,g4,g5,g6,g7,g8,g9,g10,g11,g12,g13,g14⟩:=hg
 obtain ⟨op,path,to,off,size,l⟩:=i
 simp only at hc g1 g2 g3 g4 g5 g6 g7 g8 g9 g10 g11 g12 g13 g14 hs hcap ha0 hcells
 subst hc
 have HC:=Lib.hid hcells
 have G12:=Lib.hid g12
 clear hs hp hl hcells ha0 g5 g6 g7 g12 g13 g14
 have HBB:=Lib.hid hb
 have HTP:=Lib.hid (textB_len path g3)
 clear hb
 go_enter Tryz.func112,Tryz.ntmps112
 go_wp2_with (first | (go_at_call 75;refine (itemMay_any _ _ _ (HI.out.below (HBB.out.trans (((Below.refl w.heap.size w).alloc (Nat.le_refl _) _).mono HBB.out.size))) HG.out).mono ?_;rintro e w1 ⟨rfl,hq⟩;have hbw1:Below w.heap.size w w1:=((Below.refl w.heap.size w).alloc (Nat.le_refl _) _).trans (hq.mono (by simp));have HP1:=Lib.hid (PenIn.mk (cs:=[.int .i64 5,.string path,.string to,.int .i64 off,.int .i64 size,.slice none 0 0,.slice s l.length cap]) (HP0.out.below hbw1) (hbw1.mono HBB.out.size) (fun k o hk _ _ => Below.heap hbw1 (Nat.le_refl _) hk) (Below.heap hq (Nat.le_refl _) (heap_new w _)));obtain ⟨x10,x11,x12,x13,x14,x16⟩:=HP1.out.facts;clear hq hbw1) | (go_at_call 126;refine (evHas_any _ _).mono ?_;rintro e w9 ⟨rfl,hw⟩;have hw:=hw.symm;subst hw) | (go_at_call 109;with_reducible refine (byte_k w0.heap.size a _ _ (by have:=HL.out;omega) _ HP1.out.pen).mono ?_;rintro e w2 ⟨rfl,hq,hb',hk'⟩;have HP2:=Lib.hid (HP1.out.step hq hb' hk');obtain ⟨x20,x21,x22,x23,x24,x26⟩:=HP2.out.facts;clear hq hb' hk') | (go_at_call 113;with_reducible refine (text_k w0.heap.size a _ _ (by omega) (by have:=HL.out;have:=HTP.out;simp only [List.length_append,List.length_cons,List.length_nil];omega) _ HP2.out.pen).mono ?_;rintro e w3 ⟨rfl,hq,hb',hk'⟩;have HP3:=Lib.hid (HP2.out.step hq hb' hk');obtain ⟨x30,x31,x32,x33,x34,x36⟩:=HP3.out.facts;clear hq hb' hk') | (go_at_call 113;with_reducible refine (text_k w0.heap.size a _ _ (by omega) (by have:=HL.out;have:=HTP.out;simp only [List.length_append,List.length_cons,List.length_nil];omega) _ HP3.out.pen).mono ?_;rintro e w4 ⟨rfl,hq,hb',hk'⟩;have HP4:=Lib.hid (HP3.out.step hq hb' hk');obtain ⟨x40,x41,x42,x43,x44,x46⟩:=HP4.out.facts;clear hq hb' hk'))
 refine bodyPost_ret (results_none rfl _ _ _) rfl ?_
 have hB:l0 ++ itemB ⟨5,path,to,off,size,l⟩ = l0 ++ [(5:Int)] ++ textB path ++ textB to:=by
  unfold itemB
  simp only [if_true,if_neg (show ¬ (5:Int) = 4 by decide),if_neg (show ¬ (5:Int) = 3 by decide)]
  simp
 rw [hB]
 refine ⟨rfl,?_,?_,?_⟩
 ·exact HP4.out.pen
 ·exact HP4.out.below
 ·exact HP4.out.keep
set_option maxRecDepth 100000 in
set_option maxHeartbeats 2000000 in
theorem itemWrite_4 (w0 w:World) (a:Nat) (l0:List Int) (cs:List Value) (i:ItemA) (h:ItemC w0 cs i) (hg:i.good) (hc:i.op = 4) (hb:Below w0.heap.size w0 w) (hp:PenAt w w0.heap.size a l0) (hl:l0.length ≤ 800000) :
  Calls Tryz.prog 112 #[.pointer (some ⟨a,0,none⟩),.agg cs.toArray] w fun e w' => e = .returned (.tuple #[]) ∧ PenAt w' w0.heap.size a (l0 ++ itemB i) ∧ Below w0.heap.size w w' ∧ (∀ (k:Nat) (o:Obj),w.heap[k]? = some o → k ≠ a → (∀ arr,o ≠ .cells arr 5 (0,0)) → w'.heap[k]? = some o):=by
 have HI:=Lib.hid h
 have HG:=Lib.hid hg
 have HP0:=Lib.hid hp
 have HL:=Lib.hid hl
 obtain ⟨sv,rfl,hs⟩:=h
 obtain ⟨s,cap,rfl,hcap,ha0,hcells⟩:=parts_cells hs
 obtain ⟨g1,g2,g3,g4,g5,g6,g7,g8,g9,g10,g11,g12,g13,g14⟩:=hg
 obtain ⟨op,path,to,off,size,l⟩:=i
 simp only at hc g1 g2 g3 g4 g5 g6 g7 g8 g9 g10 g11 g12 g13 g14 hs hcap ha0 hcells
 subst hc
 obtain ⟨n,rfl⟩:∃ n:Nat,size = (n:Int):=⟨size.toNat,by omega⟩
 have HC:=Lib.hid hcells
 have G12:=Lib.hid g12
 clear hs hp hl hcells ha0 g5 g6 g7 g12 g13 g14
 have HBB:=Lib.hid hb
 have HTP:=Lib.hid (textB_len path g3)
 clear hb
 go_enter Tryz.func112,Tryz.ntmps112
 go_wp2_with (first | (go_at_call 75;refine (itemMay_any _ _ _ (HI.out.below (HBB.out.trans (((Below.refl w.heap.size w).alloc (Nat.le_refl _) _).mono HBB.out.size))) HG.out).mono ?_;rintro e w1 ⟨rfl,hq⟩;have hbw1:Below w.heap.size w w1:=((Below.refl w.heap.size w).alloc (Nat.le_refl _) _).trans (hq.mono (by simp));have HP1:=Lib.hid (PenIn.mk (cs:=[.int .i64 4,.string path,.string to,.int .i64 off,.int .i64 n,.slice none 0 0,.slice s l.length cap]) (HP0.out.below hbw1) (hbw1.mono HBB.out.size) (fun k o hk _ _ => Below.heap hbw1 (Nat.le_refl _) hk) (Below.heap hq (Nat.le_refl _) (heap_new w _)));obtain ⟨x10,x11,x12,x13,x14,x16⟩:=HP1.out.facts;clear hq hbw1) | (go_at_call 126;refine (evHas_any _ _).mono ?_;rintro e w9 ⟨rfl,hw⟩;have hw:=hw.symm;subst hw) | (go_at_call 109;with_reducible refine (byte_k w0.heap.size a _ _ (by have:=HL.out;omega) _ HP1.out.pen).mono ?_;rintro e w2 ⟨rfl,hq,hb',hk'⟩;have HP2:=Lib.hid (HP1.out.step hq hb' hk');obtain ⟨x20,x21,x22,x23,x24,x26⟩:=HP2.out.facts;clear hq hb' hk') | (go_at_call 113;with_reducible refine (text_k w0.heap.size a _ _ (by omega) (by have:=HL.out;have:=HTP.out;simp only [List.length_append,List.length_cons,List.length_nil];omega) _ HP2.out.pen).mono ?_;rintro e w3 ⟨rfl,hq,hb',hk'⟩;have HP3:=Lib.hid (HP2.out.step hq hb' hk');obtain ⟨x30,x31,x32,x33,x34,x36⟩:=HP3.out.facts;clear hq hb' hk') | (go_at_call 110;with_reducible refine (num_k w0.heap.size a _ n (by omega) (by have:=HL.out;have:=HTP.out;simp only [List.length_append,List.length_cons,List.length_nil];omega) _ HP3.out.pen).mono ?_;rintro e w4 ⟨rfl,hq,hb',hk'⟩;have HP4:=Lib.hid (HP3.out.step hq hb' hk');obtain ⟨x40,x41,x42,x43,x44,x46⟩:=HP4.out.facts;clear hq hb' hk'))
 refine bodyPost_ret (results_none rfl _ _ _) rfl ?_
 have hB:l0 ++ itemB ⟨4,path,to,off,n,l⟩ = l0 ++ [(4:Int)] ++ textB path ++ numB n:=by
  unfold itemB
  simp only [if_true,if_neg (show ¬ (4:Int) = 5 by decide),if_neg (show ¬ (4:Int) = 3 by decide),Int.toNat_natCast]
  simp
 rw [hB]
 refine ⟨rfl,?_,?_,?_⟩
 ·exact HP4.out.pen
 ·exact HP4.out.below
 ·exact HP4.out.keep
end Go.Proofs.YtaonlcgneemimaaGreatDoor
