/- TopBatches: the contracts of AD1; no condition. -/
import Derived.WalkKit
import Derived.ProofKit
import Derived.Deep.Slices
import Derived.Test.YtaonlcgneemimaaGreatDoorB38
namespace Go.Proofs.YtaonlcgneemimaaGreatDoor.topBatches
open Go.ChangeShapes Go.WideShapes Go.ChangeAt Go.RowKit
theorem word8 {x:Int} (h:(Lit.int .u8 x).wf = true):0 ≤ x ∧ x ≤ 255:=by simpa [Lit.wf,IntKind.min,IntKind.max,IntKind.signed,IntKind.bits] using h
theorem rowIn {H:Type} {enc:TypeId × Value → H} {W:World} {n:Nat} {cs:List Value} {y:DataW H × List MemPlace}
  (h:DataW.trod enc Tryz.prog W 0 (fun _ => true) true n 33 cs = some y):∃ a len cap zs,cs = [.slice a len cap] ∧ len ≤ maxLen ∧ ArgB W a len cap zs:=by
 rcases open_ints Tryz.underlying33 Tryz.underlying5 (by kernel_rfl) h with ⟨hcs,_⟩ | ⟨x,l,c,zs,hcs,_,hl,hm,hz,_,hcell,hwz⟩
 ·exact ⟨none,0,0,[],hcs,Nat.zero_le _,Nat.le_refl _,Nat.le_refl _,fun i hi => by omega⟩
 ·have hz2:zs.length = c:=by simp at hz;omega
  refine ⟨_,l,c,zs,hcs,by omega,by omega,by omega,fun i hi => ?_⟩
  have hiz:i < zs.length:=by omega
  have hc:=hcell i hiz
  have hw:=word8 (hwz (zs.getD i 0) (by rw [List.getD_eq_getElem?_getD,List.getElem?_eq_getElem hiz];simp))
  exact ⟨x,rfl,hc,hw⟩
theorem rowOf {H:Type} {enc:TypeId × Value → H} {W:World} {a:Option Addr} {len cap:Nat} {d:DataW H} {p:List MemPlace}
  (h:DataW.Trod enc Tryz.prog W 0 (fun _ => true) true 33 (.slice a len cap) d p):len ≤ maxLen ∧ ∃ zs,ArgB W a len cap zs:=by
 obtain ⟨fuel,hf⟩:=h
 obtain ⟨a',l',c',zs,hcs,h1,h2⟩:=rowIn hf
 simp [Value.cells] at hcs
 obtain ⟨rfl,rfl,rfl⟩:=hcs
 exact ⟨h1,zs,h2⟩
theorem spot_none {W:World} {x:Addr} {v:Value} (h:W.cell? x = some v):x.spot = none:=by
 unfold World.cell? at h
 split at h
 ·cases hs:x.spot with
  | none => rfl
  | some s => rw [hs] at h;simp at h
 ·cases h
theorem add_spot {g off k:Nat}:(⟨g,off,none⟩:Addr).add k = ⟨g,off + k,none⟩:=by
 unfold Addr.add
 split
 ·rename_i h
  subst h
  rfl
 ·rfl
instance:Inhabited EvR:=⟨⟨⟨0,⟨#[]⟩,⟨#[]⟩,0,0,[]⟩,0,[]⟩⟩
theorem six {α:Type} {l:List α} (h:l.length = 6):∃ a b c d e f,l = [a,b,c,d,e,f]:=by
 match l,h with
 | [a,b,c,d,e,f],_ => exact ⟨a,b,c,d,e,f,rfl⟩
theorem eventIn {H:Type} {enc:TypeId × Value → H} {W:World} {n:Nat} {cs:List Value} {y:DataW H × List MemPlace}
  (h:DataW.trod enc Tryz.prog W 0 (fun _ => true) true n 35 cs = some y):∃ (e:EvR) (da:Option Addr) (dc:Nat),cs = [.int .i64 e.ev.op,.string e.ev.path,.string e.ev.to,.int .i64 e.ev.off,.int .i64 e.ev.size,.slice da e.dn dc] ∧ ArgB W da e.dn dc e.zs ∧ e.dn ≤ maxLen:=by
 obtain ⟨ys,n',-,-,hlen,hyl,hf⟩:=DataW.trod_struct Tryz.underlying35 h
 have hl6:cs.length = 6:=hlen.trans (by kernel_rfl)
 have hy6:ys.length = 6:=hyl
 have c3:Tryz.prog.cellsOf 3 = 1:=by kernel_rfl
 have c9:Tryz.prog.cellsOf 9 = 1:=by kernel_rfl
 have c2:Tryz.prog.cellsOf 2 = 1:=by kernel_rfl
 have c33:Tryz.prog.cellsOf 33 = 1:=by kernel_rfl
 obtain ⟨v0,v1,v2,v3,v4,v5,rfl⟩:=six hl6
 obtain ⟨y0,y1,y2,y3,y4,y5,rfl⟩:=six hy6
 clear h hlen hyl hl6 hy6
 have g0:=hf 0 ⟨ "Op",3,0,false,"","",0⟩ rfl
 have g1:=hf 1 ⟨ "Path",9,1,false,"","",8⟩ rfl
 have g2:=hf 2 ⟨ "To",9,2,false,"","",24⟩ rfl
 have g3:=hf 3 ⟨ "Off",2,3,false,"","",40⟩ rfl
 have g4:=hf 4 ⟨ "Size",2,4,false,"","",48⟩ rfl
 have g5:=hf 5 ⟨ "Data",33,5,false,"","",56⟩ rfl
 simp only [c3,c9,c2,c33,List.drop_zero,List.drop_succ_cons,List.take_succ_cons,List.take_zero,List.getElem?_cons_zero,List.getElem?_cons_succ] at g0 g1 g2 g3 g4 g5
 obtain ⟨x0,e0,-,-⟩:=DataW.trod_int Tryz.underlying3 g0
 obtain ⟨x1,e1,-,-⟩:=DataW.trod_string Tryz.underlying9 g1
 obtain ⟨x2,e2,-,-⟩:=DataW.trod_string Tryz.underlying9 g2
 obtain ⟨x3,e3,-,-⟩:=DataW.trod_int Tryz.underlying2 g3
 obtain ⟨x4,e4,-,-⟩:=DataW.trod_int Tryz.underlying2 g4
 obtain ⟨a,l,c,zs,e5,hm,hA⟩:=rowIn g5
 simp only [List.cons.injEq,and_true] at e0 e1 e2 e3 e4 e5
 subst e0 e1 e2 e3 e4 e5
 exact ⟨⟨⟨x0,x1,x2,x3,x4,[]⟩,l,zs⟩,a,c,rfl,hA,hm⟩
theorem evsOf {H:Type} {enc:TypeId × Value → H} {W:World} {a:Option Addr} {len cap:Nat} {d:DataW H} {p:List MemPlace}
  (h:DataW.Trod enc Tryz.prog W 0 (fun _ => true) true 42 (.slice a len cap) d p):len ≤ maxLen ∧ ∃ evs:List EvR,evs.length = len ∧ EvsX W a evs:=by
 obtain ⟨fuel,hf⟩:=h
 rcases Go.Deep.open_slice Tryz.underlying42 hf with ⟨hcs,_⟩ | ⟨x,l,c,m,n,D,Pl,hcs,_,hl,hm,hmm,_,hi⟩
 ·simp [Value.cells] at hcs
  obtain ⟨rfl,rfl,rfl⟩:=hcs
  exact ⟨Nat.zero_le _,[],rfl,fun j e he => by simp at he⟩
 ·simp [Value.cells] at hcs
  obtain ⟨rfl,rfl,rfl⟩:=hcs
  have c35:Tryz.prog.cellsOf 35 = 6:=by kernel_rfl
  rw [c35] at hi
  have hm2:m = cap:=by simpa using hmm
  have each:∀ i,i < len → ∃ e:EvR,∃ da dc,W.cell? (x.add (i * 6)) = some (.int .i64 e.ev.op) ∧ W.cell? (x.add (i * 6 + 1)) = some (.string e.ev.path) ∧ W.cell? (x.add (i * 6 + 2)) = some (.string e.ev.to) ∧ W.cell? (x.add (i * 6 + 3)) = some (.int .i64 e.ev.off) ∧ W.cell? (x.add (i * 6 + 4)) = some (.int .i64 e.ev.size) ∧ W.cell? (x.add (i * 6 + 5)) = some (.slice da e.dn dc) ∧ ArgB W da e.dn dc e.zs ∧ e.dn ≤ maxLen:=fun i hil => by
   obtain ⟨cs',hc,ht⟩:=hi i (by omega)
   obtain ⟨-,-,hat⟩:=World.cells?_some hc
   obtain ⟨e,da,dc,rfl,hA,hd⟩:=eventIn ht
   have q0:=hat 0 (by decide)
   have q1:=hat 1 (by decide)
   have q2:=hat 2 (by decide)
   have q3:=hat 3 (by decide)
   have q4:=hat 4 (by decide)
   have q5:=hat 5 (by decide)
   rw [Go.Deep.add_add] at q0 q1 q2 q3 q4 q5
   exact ⟨e,da,dc,q0,q1,q2,q3,q4,q5,hA,hd⟩
  obtain ⟨f,hf⟩:=Go.Deep.choose_lt each
  refine ⟨by omega,(List.range len).map f,by simp,fun j e he => ?_⟩
  have hj:j < len:=by
   have:=(List.getElem?_eq_some_iff.1 he).1
   simpa using this
  have he2:e = f j:=by
   rw [List.getElem?_map,List.getElem?_range hj] at he
   simpa using he.symm
  subst he2
  obtain ⟨da0,dc0,k0,-⟩:=hf 0 (by omega)
  have hx:x.spot = none:=by
   have h0:x.add (0 * 6) = x:=by unfold Addr.add;simp
   rw [h0] at k0
   exact spot_none k0
  obtain ⟨g,off,sp⟩:=x
  simp only at hx
  subst hx
  obtain ⟨da,dc,q0,q1,q2,q3,q4,q5,hA,hd⟩:=hf j hj
  rw [add_spot] at q0 q1 q2 q3 q4 q5
  exact ⟨g,off,da,dc,rfl,World.block_lt_of_cell? W _ q0,q0,q1,q2,q3,q4,q5,hA,hd⟩
end Go.Proofs.YtaonlcgneemimaaGreatDoor.topBatches
