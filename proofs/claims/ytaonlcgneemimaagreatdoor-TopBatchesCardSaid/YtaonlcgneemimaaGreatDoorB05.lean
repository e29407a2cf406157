/- TopBatches: the contracts of C1, C2; no condition. -/
import Derived.Deep.WholeRow
import Derived.Test.YtaonlcgneemimaaGreatDoorB03
import Derived.Laws.Closers25b
namespace Go.Proofs.YtaonlcgneemimaaGreatDoor
open Go.RowKit
theorem wp_store_law {P:Program} {w:World} {ops:Array Oper} {rest:List Oper} {o:Oper} {a:Act} {Q:Exit → Act → World → Prop} (hg:o.guard = none) (t:TypeId) (x y:Operand) (ho:o.op = .store t x y) (w':World) (hrun:(Instr.storeAt t (a.eval x) (a.eval y)).run P w = .ok () w') (h:wpList P ops Q rest (a.put o.dst undef) w'):wpList P ops Q (o :: rest) a w:=by
 refine wpList_plain hg fun K hK => ?_
 unfold Oper.wp
 simp [execOp,ho,hrun,Result.andThen]
 exact hK _ _ h
def tabStep (c:Int):Int:=if (bits BinOp.and IntKind.u32 c 1 == 1) = true then bits BinOp.xor IntKind.u32 (c / 2) 2197175160 else c / 2
def tabIt (k:Nat):Nat → Int
 | 0 => k
 | j + 1 => tabStep (tabIt k j)
noncomputable def tabTo:Nat → Array Value
 | 0 => Tryz.zeroCells299
 | k + 1 => (tabTo k).setIfInBounds k (.int .u32 (tabIt k 8))
theorem tabTo_size:∀ k,(tabTo k).size = 256
 | 0 => by unfold tabTo;kernel_rfl
 | k + 1 => by unfold tabTo;simpa using tabTo_size k
theorem tabTo_one:∀ k,∀ v ∈ (tabTo k).toList,v.oneCell' = true
 | 0 => by
  have h:Tryz.zeroCells299.toList.all (·.oneCell') = true:=by kernel_rfl
  exact fun v hv => List.all_eq_true.1 h v hv
 | k + 1 => fun v hv => by
  unfold tabTo at hv
  rw [Array.toList_setIfInBounds] at hv
  rcases List.mem_or_eq_of_mem_set hv with h | h
  ·exact tabTo_one k v h
  ·rw [h];rfl
set_option maxRecDepth 100000 in
set_option maxHeartbeats 1000000 in
theorem table_any (w:World) :
  Calls Tryz.prog 213 #[] w fun e w' => e = .returned (.agg (tabTo 256)) ∧ Below w.heap.size w w':=by
 go_enter Tryz.func213,Tryz.ntmps213
 go_wp2
 go_loopw [2,3,4] (fun t2 t3 t4 wr => ∃ k:Nat,k ≤ 256 ∧ t4 = .int .i64 k ∧ Hid (wr = (w.alloc (.cells Tryz.zeroCells299 299)).alloc (.cells (tabTo k) 299))) (fun _ _ i _ => 256 - (intOf i).toNat)
 case atStart => exact ⟨0,by omega,rfl,rfl⟩
 case round =>
  obtain ⟨k,hk,rfl,hw⟩:=hrel
  have hw:=hw.out
  subst hw
  by_cases hlt:k < 256
  ·go_wp2
   go_loopw [3,9] (fun t3 t9 wr => ∃ j:Nat,j ≤ 8 ∧ t9 = .int .i64 j ∧ t3 = .int .u32 (tabIt k j) ∧ Hid (wr = (w.alloc (.cells Tryz.zeroCells299 299)).alloc (.cells (tabTo k) 299))) (fun _ i _ => 8 - (intOf i).toNat)
   case atStart => exact ⟨0,by omega,rfl,by simp [tabIt],rfl⟩
   case round =>
    obtain ⟨j,hj,rfl,rfl,hw⟩:=hrel
    have hw:=hw.out
    subst hw
    by_cases hlt2:j < 8
    ·by_cases c:(bits BinOp.and IntKind.u32 (tabIt k j) 1 == 1) = true
     ·have HT:=Lib.hid (show tabIt k (j + 1) = bits BinOp.xor IntKind.u32 (tabIt k j / 2) 2197175160 by rw [tabIt,tabStep,if_pos c])
      go_wp2
      go_roundw
      case rel => exact ⟨j + 1,by omega,by go_num,by rw [HT.out],trivial⟩
      case measure => simp [intOf];omega
     ·have HT:=Lib.hid (show tabIt k (j + 1) = tabIt k j / 2 by rw [tabIt,tabStep,if_neg c])
      go_wp2
      go_roundw
      case rel => exact ⟨j + 1,by omega,by go_num,by rw [HT.out],trivial⟩
      case measure => simp [intOf];omega
    ·have hj8:j = 8:=by omega
     subst hj8
     have hsz:=tabTo_size k
     go_wp2
     go_roundw
     case rel => exact ⟨k + 1,by omega,by go_num,rfl⟩
     case measure => simp [intOf];omega
  ·have hk8:k = 256:=by omega
   subst hk8
   have hsz:=tabTo_size 256
   have hone:=tabTo_one 256
   have hz:Tryz.zeroCells299.size = 256:=by kernel_rfl
   obtain ⟨T,hT⟩:∃ T,Hid (tabTo 256 = T):=⟨_,rfl⟩
   rw [hT.out] at hsz hone ⊢
   have hinfo:(Tryz.prog.info? 299).map (·.size) = some 256:=by kernel_rfl
   have hi299:(Tryz.prog.info? 299).map (·.size) = some T.size:=by rw [hsz];exact hinfo
   have hW1:((w.alloc (.cells Tryz.zeroCells299 299)).alloc (.cells T 299)).heap[w.heap.size + 1]? = some (.cells T 299 (0,0)):=by
    have:=heap_new (w.alloc (.cells Tryz.zeroCells299 299)) (.cells T 299)
    simpa using this
   have hb:((w.alloc (.cells Tryz.zeroCells299 299)).alloc (.cells T 299)).heap[w.heap.size]? = some (.cells Tryz.zeroCells299 299 (0,0)):=heap_old (heap_new w _) _
   have hb2:=setRow_heap ((w.alloc (.cells Tryz.zeroCells299 299)).alloc (.cells T 299)) w.heap.size Tryz.zeroCells299 T 299 (0,0) hb
   have hall:T.all (·.oneCell') = true:=by
    rw [Array.all_eq_true']
    intro v hv
    exact hone v (by simpa using hv)
   have HB:=Lib.hid (show Below w.heap.size w (((w.alloc (.cells Tryz.zeroCells299 299)).alloc (.cells T 299)).setRow w.heap.size T) from
    (((Below.refl _ w).alloc (Nat.le_refl _) _).alloc (by simp) _).trans ⟨rfl,rfl,rfl,by simp [World.setRow],fun k hk => setRow_other _ _ k _ (by omega)⟩)
   have hst:=run_storeVar_row (P:=Tryz.prog) ((w.alloc (.cells Tryz.zeroCells299 299)).alloc (.cells T 299)) w.heap.size 299 299 Tryz.zeroCells299 T hb hi299 (by omega) hall
   have HU:=Tryz.underlying299
   go_wp2_with (first | (refine wpList_load_row rfl 299 (.tmp 1) rfl (w.heap.size + 1) rfl 299 T (0,0) _ hW1 HU rfl hi299 ?_) | (refine wp_store_law rfl 299 (.tmp 0) (.tmp 24) rfl _ (by simp only [Instr.storeAt,Instr.sureAddr,Sem.run_bind,Sem.run_pure,Result.andThen];exact hst) ?_))
   try simp only [Exit.inBlock,Exit.then]
   refine bodyPost_ret (v:=.agg T) (results_cell_row rfl _ _ w.heap.size 299 T (0,0) _ rfl hb2 HU rfl hi299) rfl ?_
   exact ⟨by rw [hT.out],HB.out⟩
end Go.Proofs.YtaonlcgneemimaaGreatDoor
namespace Go.Proofs.YtaonlcgneemimaaGreatDoor
open Go.RowKit
theorem tabTo_get:∀ (k i:Nat),i < k → k ≤ 256 → (tabTo k)[i]? = some (.int .u32 (tabIt i 8))
 | 0,i,h,_ => by omega
 | k + 1,i,h,hk => by
  unfold tabTo
  rw [Array.getElem?_setIfInBounds]
  by_cases e:k = i
  ·subst e
   rw [if_pos rfl,if_pos (by rw [tabTo_size];omega)]
  ·rw [if_neg e]
   exact tabTo_get k i (by omega) (by omega)
def crcStep (r x:Int):Int:=bits BinOp.xor IntKind.u32 (r / 256) (tabIt (bits BinOp.xor IntKind.u8 (r % 256) x).toNat 8)
def crcNext (c:Int) (l:List Int):Int:=bits BinOp.xor IntKind.u32 IntKind.u32.max (l.foldl crcStep (bits BinOp.xor IntKind.u32 IntKind.u32.max c))
def crcL (c:Int) (l:List Int):Int:=l.foldl crcStep c
set_option maxRecDepth 100000 in
set_option maxHeartbeats 1000000 in
theorem next_any (c:Int) (v:Value) (l:List Int) (w:World) (h:Sl w 5 1 v l.length (u8s l)) (hn:l.length ≤ 1000000) :
  Calls Tryz.prog 180 #[.int .u32 c,v] w fun e w' => e = .returned (.int .u32 (crcNext c l)) ∧ Below w.heap.size w w':=by
 obtain ⟨a,cap,rfl,hcap,-,hcells⟩:=h.shape
 have HC:=Lib.hid hcells
 clear hcells
 have HU:=Tryz.underlying299
 obtain ⟨T,hT⟩:∃ T,Hid (tabTo 256 = T):=⟨_,rfl⟩
 have hsz:T.size = 256:=by rw [← hT.out];exact tabTo_size 256
 have hone:∀ v ∈ T.toList,v.oneCell' = true:=by rw [← hT.out];exact tabTo_one 256
 have hinfo:(Tryz.prog.info? 299).map (·.size) = some 256:=by kernel_rfl
 have hi299:(Tryz.prog.info? 299).map (·.size) = some T.size:=by rw [hsz];exact hinfo
 have hz:Tryz.zeroCells299.size = 256:=by kernel_rfl
 have hall:T.all (·.oneCell') = true:=by
  rw [Array.all_eq_true']
  intro v hv
  exact hone v (by simpa using hv)
 have hst:=fun w1 => run_storeAt_new (P:=Tryz.prog) w1 299 Tryz.zeroCells299 T hi299 (by omega) hall
 go_enter Tryz.func180,Tryz.ntmps180
 go_wp2_with (first | (go_at_call 213;refine (table_any _).mono ?_;rintro e w1 ⟨rfl,hq⟩;rw [hT.out];have HQ:=Lib.hid hq;clear hq) | (refine wp_store_law rfl 299 (.tmp 5) (.tmp 8) rfl _ (hst _) ?_))
 have HT2:Hid (∀ i,i < 256 → (w1.alloc (.cells T 299)).cell? ⟨w1.heap.size,i,none⟩ = some (.int .u32 (tabIt i 8))):=Lib.hid (fun i hi => by
  rw [cellAt (heap_new w1 _),← hT.out]
  exact tabTo_get 256 i hi (Nat.le_refl _))
 go_loopw [0,7,13] (fun t0 t7 ti wr => ∃ k:Nat,k ≤ l.length ∧ ti = .int .i64 k ∧ t0 = .int .u32 (crcL (bits BinOp.xor IntKind.u32 IntKind.u32.max c) (l.take k)) ∧ Hid (wr = w1.alloc (.cells T 299))) (fun _ _ i _ => l.length - (intOf i).toNat)
 case atStart => exact ⟨0,by omega,rfl,rfl,rfl⟩
 case round =>
  obtain ⟨k,hk,rfl,rfl,hw⟩:=hrel
  have hw:=hw.out
  subst hw
  by_cases hlt:k < l.length
  ·obtain ⟨x,hx⟩:∃ x,l[k]? = some x:=⟨_,List.getElem?_eq_getElem hlt⟩
   obtain ⟨g,off,rfl,hg,hgc⟩:=HC.out k hlt
   have q0:=hgc 0 (.int .u8 x) (by decide) (by simp [u8s,hx])
   have q1:(w1.alloc (.cells T 299)).cell? ⟨g,off + k,none⟩ = some (.int .u8 x):=by
    have hs:=HQ.out.size
    rw [World.cell?_alloc_past _ _ _ (by omega),HQ.out.cell (p:=⟨g,off + k,none⟩) hg]
    simpa using q0
   have HX:=Lib.hid hx
   obtain ⟨r,hr⟩:∃ r,Hid (crcL (bits BinOp.xor IntKind.u32 IntKind.u32.max c) (l.take k) = r):=⟨_,rfl⟩
   rw [hr.out]
   clear hgc q0 hx
   have hb1:=bits_lo_u8 BinOp.xor (r % 256) x
   have hb2:bits BinOp.xor IntKind.u8 (r % 256) x < 256:=by have:=bits_hi_u8 BinOp.xor (r % 256) x;omega
   have q2:=HT2.out (bits BinOp.xor IntKind.u8 (r % 256) x).toNat (by omega)
   have HST:=Lib.hid (show crcL (bits BinOp.xor IntKind.u32 IntKind.u32.max c) (l.take (k + 1)) = bits BinOp.xor IntKind.u32 (r / 256) (tabIt (bits BinOp.xor IntKind.u8 (r % 256) x).toNat 8) by
    rw [List.take_add_one,HX.out]
    simp only [crcL,List.foldl_append,Option.toList,List.foldl_cons,List.foldl_nil]
    rw [show List.foldl crcStep (bits BinOp.xor IntKind.u32 IntKind.u32.max c) (l.take k) = r from hr.out]
    rfl)
   go_wp2
   go_roundw
   case rel => exact ⟨k + 1,by omega,by go_num,by rw [HST.out],trivial⟩
   case measure => simp [intOf];omega
  ·have hkl:k = l.length:=by omega
   subst hkl
   rw [List.take_length]
   have HB:=Lib.hid (HQ.out.alloc (HQ.out.size) (.cells T 299))
   go_wp2
   go_ret
   exact ⟨rfl,HB.out⟩
def crcSum (l:List Int):Int:=crcNext 0 l
set_option maxHeartbeats 1000000 in
theorem sum_any (v:Value) (l:List Int) (w:World) (h:Sl w 5 1 v l.length (u8s l)) (hn:l.length ≤ 1000000) :
  Calls Tryz.prog 148 #[v] w fun e w' => e = .returned (.int .u32 (crcSum l)) ∧ Below w.heap.size w w':=by
 have HS:=Lib.hid h
 clear h
 go_enter Tryz.func148,Tryz.ntmps148
 go_wp2_with (go_at_call 180;refine (next_any 0 _ l _ HS.out hn).mono ?_;rintro e w1 ⟨rfl,hq⟩;have HQ:=Lib.hid hq;clear hq)
 go_ret
 exact ⟨rfl,HQ.out⟩
def crcB (c:Int):List Int:=[c % 256,c / 256 % 256,c / 65536 % 256,c / 16777216 % 256]
set_option maxHeartbeats 1000000 in
theorem crcBytes_any (c:Int) (w:World) :
  Calls Tryz.prog 188 #[.int .u32 c] w fun e w' => e = .returned (.slice (some ⟨w.heap.size,0,none⟩) 4 4) ∧ w' = w.alloc (.cells #[.int .u8 (c % 256),.int .u8 (c / 256 % 256),.int .u8 (c / 65536 % 256),.int .u8 (c / 16777216 % 256)] 5):=by
 go_enter Tryz.func188,Tryz.ntmps188
 go_wp2
 go_ret
 exact ⟨rfl,rfl⟩
end Go.Proofs.YtaonlcgneemimaaGreatDoor
