/- TopBatches: the contracts of L10; no condition. -/
import Derived.Test.YtaonlcgneemimaaGreatDoorB31
namespace Go.Proofs.YtaonlcgneemimaaGreatDoor
open Go.RowKit Go.Shelf
attribute [local go_sem] Oper.semAt_some
def appW (w:World) (a boot:Nat):World:=((w.alloc (.cells #[.pointer (some ⟨a,0,none⟩)] 149)).alloc (.cells #[.int .i64 boot] 3)).alloc (.cells #[.int .i64 0] 25)
theorem appW_at (w:World) (a boot:Nat):Below w.heap.size w (appW w a boot) ∧ (appW w a boot).heap.size = w.heap.size + 3 ∧ (appW w a boot).heap[w.heap.size]? = some (.cells #[.pointer (some ⟨a,0,none⟩)] 149 (0,0)) ∧ (appW w a boot).heap[w.heap.size + 1]? = some (.cells #[.int .i64 boot] 3 (0,0)) ∧ (appW w a boot).heap[w.heap.size + 2]? = some (.cells #[.int .i64 0] 25 (0,0)):=by
 refine ⟨below_alloc3 _ _ _ _,by simp [appW],heap_old (heap_old (heap_new _ _) _) _,heap_old (heap_new2 w _ _) _,?_⟩
 have:=heap_new2 (w.alloc (.cells #[.pointer (some ⟨a,0,none⟩)] 149)) (.cells #[.int .i64 boot] 3) (.cells #[.int .i64 0] 25)
 rw [World.size_alloc] at this
 exact this
structure AppA (w wc:World) (a boot:Nat) (last:Int) (l:List Int) (v':Value) (e:Nat):Prop where
 row:wc.ownsRow w.heap.size 5 1 v' (l.length + 16) (u8s (frameB last boot l))
 cell:wc.heap[e]? = some (.cells #[.int .i64 0] 25 (0,0))
 lo:w.heap.size + 3 ≤ e
 bel:Below (w.heap.size + 3) (appW w a boot) wc
theorem AppA.c0 {w wc:World} {a boot:Nat} {last:Int} {l:List Int} {v':Value} {e:Nat} (h:AppA w wc a boot last l v' e):wc.heap[w.heap.size]? = some (.cells #[.pointer (some ⟨a,0,none⟩)] 149 (0,0)) ∧ wc.heap[w.heap.size + 1]? = some (.cells #[.int .i64 boot] 3 (0,0)) ∧ wc.heap[w.heap.size + 2]? = some (.cells #[.int .i64 0] 25 (0,0)) ∧ Below w.heap.size w wc:=by
 obtain ⟨h1,h2,h3,h4,h5⟩:=appW_at w a boot
 exact ⟨Below.heap h.bel (by omega) h3,Below.heap h.bel (by omega) h4,Below.heap h.bel (by omega) h5,h1.trans (h.bel.mono (by omega))⟩
set_option maxRecDepth 100000 in
set_option maxHeartbeats 4000000 in
theorem logAppend_any (w:World) (a d l cb b g k n:Nat) (sv:Value) (ss:List Int) (last:Int) (bs:List Bool) (HL:LogAt w a d sv ss n last) (HD:DiskAt w d l cb 776 k) (HS:SpaceAt w 0 b g bs) (hbs:bs.length = 96)
  (boot:Nat) (hboot:boot ≤ 2147483647) (v:Value) (p:List Int) (hv:Sl w 5 1 v p.length (u8s p)) (h0:1 ≤ p.length) (h1:p.length ≤ 16384) (hk:k ≤ 500000) (henough:needN ss.length n (manyN p.length) ≤ sp_frees bs) (hfew:ss.length + needN ss.length n (manyN p.length) ≤ 96) :
  Calls Tryz.prog 123 #[.pointer (some ⟨a,0,none⟩),.pointer (some ⟨b,0,none⟩),.int .i64 boot,v] w (AppPost w a d l cb b g k n sv ss bs p):=by
 have HLL:=Lib.hid HL
 have HDD:=Lib.hid HD
 have HSS:=Lib.hid HS
 have HV:=Lib.hid hv
 obtain ⟨va,vcap,rfl,hvcap,-,-⟩:=hv.shape
 obtain ⟨N,hN⟩:∃ N,Hid (N = p.length):=⟨p.length,Lib.hid rfl⟩
 have HNE:=Lib.hid henough
 have HFW:=Lib.hid hfew
 rw [← hN.out] at HV h0 h1 hvcap HNE HFW ⊢
 obtain ⟨m1,m2,m3,m4,m5⟩:=appW_at w a boot
 have HW:=Lib.hid (appW_at w a boot)
 obtain ⟨Q,hQ⟩:∃ Q,Q = AppPost w a d l cb b g k n sv ss bs p:=⟨_,rfl⟩
 rw [← hQ]
 have c4:=cellAt m3 0
 have c6:=cellAt m4 0
 have c8:=cellAt m5 0
 have hla:a < w.heap.size:=heap_lt HL.cell
 obtain ⟨l0,l1,l2,l3,lf⟩:=HL.facts
 have hcell:Hid (∀ W,Below w.heap.size w W → W.cell? ⟨a,0,none⟩ = some (.pointer (some ⟨d,0,none⟩)) ∧ W.cell? ⟨a,3,none⟩ = some (.int .u32 last)):=Lib.hid (fun W hW => ⟨(hW.cell (p:=⟨a,0,none⟩) hla).trans l0,(hW.cell (p:=⟨a,3,none⟩) hla).trans l3⟩)
 have d0:=(hcell.out _ m1).1
 have d3:=(hcell.out _ m1).2
 have MK:Hid (∀ W,Below w.heap.size w W → Calls Tryz.prog 159 #[.int .u32 last,.int .i64 boot,.slice va N vcap] W fun e w' => ∃ v',e = .returned (.tuple #[v',.int .u32 (crcNext last p),.int .i64 0]) ∧ w'.ownsRow W.heap.size 5 1 v' (p.length + 16) (u8s (frameB last boot p)) ∧ Below W.heap.size W w'):=Lib.hid (fun W hW => by
  have hvv:=HV.out.below hW
  rw [hN.out] at hvv ⊢
  exact frameMake_any W last boot hboot _ p hvv (by have:=hN.out;omega) (by have:=hN.out;omega))
 clear HL HD HS hv henough hfew l0 l1 l2 l3 lf m1 m2 m3 m4 m5 hcell
 refine (callsIn_wide (n:=3)).1 ?_
 refine callsIn_of_wp_marks Tryz.func123 rfl trivial ?_ rfl
 refine wpIn_wide.2 ?_
 simp only [Tryz.ntmps123,List.size_toArray,List.length_cons,List.length_nil,Nat.reduceAdd,Nat.reduceSub,Array.replicate_succ,Array.replicate_zero,List.push_toArray,List.append_toArray,List.nil_append,List.cons_append]
 unfold appW at d0 d3 c4 c6 c8
 go_wp2_with fail
 rw [show ((w.alloc (.cells #[.pointer (some ⟨a,0,none⟩)] 149)).alloc (.cells #[.int .i64 boot] 3)).alloc (.cells #[.int .i64 0] 25) = appW w a boot from rfl] at d0 d3 c4 c6 c8 ⊢
 have hsz:(appW w a boot).heap.size = w.heap.size + 3:=HW.out.2.1
 have HK:Hid (∀ W,Below (w.heap.size + 3) (appW w a boot) W → W.cell? ⟨w.heap.size,0,none⟩ = some (.pointer (some ⟨a,0,none⟩)) ∧ W.cell? ⟨a,3,none⟩ = some (.int .u32 last) ∧ W.cell? ⟨w.heap.size + 1,0,none⟩ = some (.int .i64 boot)):=Lib.hid (fun W hW => ⟨(hW.cell (p:=⟨w.heap.size,0,none⟩) (by show w.heap.size < _;omega)).trans c4,(hW.cell (p:=⟨a,3,none⟩) (by show a < _;omega)).trans d3,(hW.cell (p:=⟨w.heap.size + 1,0,none⟩) (by show w.heap.size + 1 < _;omega)).trans c6⟩)
 have HB0:Hid (∀ o,Below (w.heap.size + 3) (appW w a boot) ((appW w a boot).alloc o).drew ∧ Below (w.heap.size + 3) (appW w a boot) (appW w a boot).drew):=Lib.hid (fun o => ⟨((Below.refl _ _).alloc (by omega) _).drew,(Below.refl _ _).drew⟩)
 have HNE0:Hid (((appW w a boot).alloc (.cells #[.int .i64 0] 25)).drew.heap[w.heap.size + 3]? = some (.cells #[.int .i64 0] 25 (0,0))):=Lib.hid (by have:=heap_new (appW w a boot) (.cells #[.int .i64 0] 25);rw [hsz] at this;exact this)
 go_cut [9,10,11] from 43 (fun s9 s10 s11 wc => ∃ e,s10 = .int .u32 (crcNext last p) ∧ s11 = .pointer (some ⟨e,0,none⟩) ∧ Hid (AppA w wc a boot last p s9 e))
 case first =>
  go_region_held3 (fun W => W.cell? ⟨w.heap.size,0,none⟩ = some (.pointer (some ⟨a,0,none⟩)) ∧ W.cell? ⟨a,3,none⟩ = some (.int .u32 last) ∧ W.cell? ⟨w.heap.size + 1,0,none⟩ = some (.int .i64 boot)) (first | exact HK.out _ (HB0.out (.map #[] 0)).2 | exact HK.out _ (HB0.out _).1 | exact HK.out _ HQ2.out | exact HK.out _ (HQ2.out.alloc hs2 _) | exact HK.out _ (HQ2.out.setCell (p:=⟨w.heap.size + 3,0,none⟩) (Nat.le_refl _) _) | exact HK.out _ ((HQ2.out.alloc hs2 _).setCell (p:=⟨w2.heap.size,0,none⟩) hs2 _)) (first | (go_at_call 159;refine (MK.out _ (HW.out.1.trans ((HB0.out (.map #[] 0)).2.mono (by omega)))).mono ?_;rintro e w2 ⟨v',rfl,ho,hq⟩;have HQ2:Hid (Below (w.heap.size + 3) (appW w a boot) w2):=Lib.hid ((HB0.out (.map #[] 0)).2.trans (hq.mono (show w.heap.size + 3 ≤ (appW w a boot).heap.size by omega)));have hs2:w.heap.size + 3 ≤ w2.heap.size:=(by have:=HQ2.out.size;omega);have HO:=Lib.hid (own_mono ho (base':=w.heap.size) (show w.heap.size ≤ (appW w a boot).heap.size by omega));clear ho hq) | (go_at_call 159;refine (MK.out _ (HW.out.1.trans ((HB0.out _).1.mono (by omega)))).mono ?_;rintro e w2 ⟨v',rfl,ho,hq⟩;have HQ2:Hid (Below (w.heap.size + 3) (appW w a boot) w2):=Lib.hid ((HB0.out _).1.trans (hq.mono (by simp [hsz] <;> omega)));have hs2:w.heap.size + 3 ≤ w2.heap.size:=(by have:=HQ2.out.size;omega);have HO:=Lib.hid (own_mono ho (base':=w.heap.size) (by simp [hsz] <;> omega));have HE2:=Lib.hid (Below.heap hq (Nat.le_refl _) HNE0.out);have e0:=cellAt HE2.out 0;have e1:=frozenAt HE2.out 0;clear ho hq))
  ·go_wp2_with fail
   go_meet
   case rel => exact ⟨_,rfl,rfl,Lib.hid ⟨own_below HO.out (crc_below _ _),heap_new _ _,hs2,HQ2.out.alloc hs2 _⟩⟩
  ·go_wp2_with fail
   go_meet
   case rel => exact ⟨_,rfl,rfl,Lib.hid ⟨own_setCell HO.out (own_neq HO.out HE2.out (by decide)),by simpa using setAt HE2.out 0 (.int .i64 0),Nat.le_refl _,HQ2.out.setCell (p:=⟨w.heap.size + 3,0,none⟩) (Nat.le_refl _) _⟩⟩
 case rest =>
  obtain ⟨e,rfl,rfl,hA⟩:=hcut
  obtain ⟨A1,A2,A3,A4⟩:=hA.out.c0
  have x0:=cellAt A1 0
  have x1:=cellAt A2 0
  have x2:=cellAt A3 0
  have x3:=cellAt hA.out.cell 0
  have A4:=Lib.hid A4
  have A1:=Lib.hid A1
  have A2:=Lib.hid A2
  have A3:=Lib.hid A3
  obtain ⟨M,hM⟩:∃ M,Hid (M = manyN N):=⟨manyN N,Lib.hid rfl⟩
  have hMle:M ≤ 304:=by rw [hM.out];unfold manyN;omega
  obtain ⟨nd,hnd⟩:∃ nd,Hid (nd = needN ss.length n M):=⟨_,Lib.hid rfl⟩
  obtain ⟨fr,hfr⟩:∃ fr,Hid (fr = sp_frees bs):=⟨_,Lib.hid rfl⟩
  have hle:Hid (nd ≤ fr):=Lib.hid (by rw [hnd.out,hfr.out,hM.out];exact HNE.out)
  have MANY:Hid (∀ W,Calls Tryz.prog 121 #[.int .i64 N] W fun e w' => e = .returned (.int .i64 M) ∧ w' = W):=Lib.hid (fun W => by rw [hM.out];exact many_any N h0 h1 W)
  have NEED:Hid (∀ W,Below w.heap.size w W → Calls Tryz.prog 122 #[.pointer (some ⟨a,0,none⟩),.int .i64 M] W fun e w' => e = .returned (.int .i64 nd) ∧ Below W.heap.size W w'):=Lib.hid (fun W hW => by rw [hnd.out];exact need_any W a d n sv ss last (HLL.out.below hW) M (by omega))
  have FREE:Hid (∀ W,Below w.heap.size w W → Calls Tryz.prog 72 #[.pointer (some ⟨b,0,none⟩)] W fun e w' => e = .returned (.int .i64 fr) ∧ W = w'):=Lib.hid (fun W hW => by rw [hfr.out];exact sp_free_any 0 b g bs W (HSS.out.below hW))
  have hq0:¬ ((fr:Int) < nd):=by have:=hle.out;omega
  have hq3:decide (fr < nd) = false:=by have:=hle.out;simp;omega
  clear hMle
  go_wp2_with (first | (go_at_call 121;refine (MANY.out _).mono ?_;rintro e1 w1 ⟨rfl,hw⟩;have hw:=hw.symm;subst hw) | (go_at_call 122;refine (NEED.out _ A4.out).mono ?_;rintro e1 w1 ⟨rfl,hq⟩;have HQ1:=Lib.hid hq;clear hq) | (go_at_call 72;refine (FREE.out w1 (A4.out.trans (HQ1.out.mono A4.out.size))).mono ?_;rintro e1 w2 ⟨rfl,hw⟩;subst hw))
  have B1:Hid (Below w.heap.size w w1):=Lib.hid (A4.out.trans (HQ1.out.mono A4.out.size))
  have hlo:=hA.out.lo
  have hew:e < wc.heap.size:=heap_lt hA.out.cell
  have hs1:=HQ1.out.size
  have y0:Hid (w1.heap[w.heap.size]? = some (.cells #[.pointer (some ⟨a,0,none⟩)] 149 (0,0))):=Lib.hid (Below.heap HQ1.out (Nat.le_refl _) A1.out)
  have hML:Hid (∀ x ∈ a :: g :: sv.ownBlock.toList,x < w.heap.size):=Lib.hid (fun x hx => by
   simp only [List.mem_cons,Option.mem_toList] at hx
   rcases hx with rfl | rfl | hx
   ·exact heap_lt HLL.out.cell
   ·exact HSS.out.lt.2.2.2
   ·exact (HLL.out.segs.lt x hx).2)
  go_loopw [14,15,57] (fun _ _ ti wr => ∃ j:Nat,j ≤ nd ∧ ti = .int .i64 j ∧ Hid (∃ sv' more bs',AppB w1 wr a d b g n j sv ss last bs sv' more bs')) (fun _ _ i _ => nd - (intOf i).toNat)
  case atStart => exact ⟨0,by omega,rfl,Lib.hid ⟨sv,[],bs,⟨by rw [List.append_nil];exact HLL.out.below B1.out,HSS.out.below B1.out,Took.nil bs,rfl,Frame.refl _ _,.inl rfl⟩⟩⟩
  case round =>
   obtain ⟨j,hj,rfl,hB⟩:=hrel
   obtain ⟨sv',more,bs',hb⟩:=hB.out
   have HB:=Lib.hid hb
   clear hB hb
   by_cases hlt:j < nd
   ·have HLT:=Lib.hid hlt
    have hj96:(j:Int) + 1 ≤ 96:=by have h7:=HFW.out;have h8:=hM.out;have h9:=hnd.out;rw [← h8,← h9] at h7;omega
    have hfr':Hid (0 < sp_frees bs'):=Lib.hid (by
     have h3:=HB.out.took.fr
     have h4:=HB.out.len
     have h5:=hle.out
     have h6:=hfr.out
     omega)
    obtain ⟨kk,hix,htk⟩:=HB.out.took.step hfr'.out
    have HIX:=Lib.hid hix
    have HTK:=Lib.hid htk
    have hkk:Hid (kk < 96):=Lib.hid (by have:=(htk.mem kk (by simp)).2.1;omega)
    clear hix htk
    have z0:wr.cell? ⟨w.heap.size,0,none⟩ = some (.pointer (some ⟨a,0,none⟩)):=cellAt (HB.out.fr.heap y0.out (fun hm => by have:=hML.out _ hm;omega)) 0
    go_wp2_with (go_at_call 160;refine (sp_take_some 0 b g bs' kk _ HB.out.space HIX.out).mono ?_;rintro e1 w5 ⟨rfl,hsp,hg5⟩;have HSP:=Lib.hid hsp;have HG5:=Lib.hid hg5;clear hsp hg5)
    obtain ⟨v6,w6,r6,⟨pa,pc,rfl⟩,h6a,hB7,hF5,hl5,hF6⟩:=appB_step HB.out hbs (by have h7:=HFW.out;have h8:=hM.out;have h9:=hnd.out;rw [← h8,← h9] at h7;omega) HSP.out HG5.out HTK.out hkk.out
    have bx:∀ W,Frame (a :: g :: sv.ownBlock.toList) w1 W → W.cell? ⟨w.heap.size,0,none⟩ = some (.pointer (some ⟨a,0,none⟩)):=fun W hW => cellAt (hW.heap y0.out (fun hm => by have:=hML.out _ hm;omega)) 0
    have b5:=bx _ hF5
    have b6:=bx _ hF6
    have b7:=bx _ hB7.fr
    have s5:=hl5.facts.2.1
    have s6:w6.cell? ⟨a,1,none⟩ = some sv':=cellAt h6a 1
    have s6f:=frozenAt h6a 1
    have HB7:=Lib.hid hB7
    have hS0:∀ L,TillC 8 (fun W => W.cell? ⟨a,1,none⟩ = some sv') (fun W => W.cell? ⟨w.heap.size,0,none⟩ = some (.pointer (some ⟨a,0,none⟩))) L w5.drew:=fun L => ⟨fun _ => s5,b5⟩
    have hS1:∀ {L:Array Bool},TillC 8 (fun W => W.cell? ⟨a,1,none⟩ = some sv') (fun W => W.cell? ⟨w.heap.size,0,none⟩ = some (.pointer (some ⟨a,0,none⟩))) L (w5.alloc (.cells #[.int .i64 kk] 3)).drew:=fun {L} => ⟨fun _ => (((crc_below w5 _).drew).cell (p:=⟨a,1,none⟩) (World.block_lt_of_cell? w5 _ s5)).trans s5,(((crc_below w5 _).drew).cell (p:=⟨w.heap.size,0,none⟩) (World.block_lt_of_cell? w5 _ b5)).trans b5⟩
    clear bx hB7 hF5 hl5 hF6 h6a
    refine wp_region_noPanic ?_
    refine wp_region_T (TillC 8 (fun W => W.cell? ⟨a,1,none⟩ = some sv') (fun W => W.cell? ⟨w.heap.size,0,none⟩ = some (.pointer (some ⟨a,0,none⟩)))) rfl ?_
    simp only [List.size_toArray,List.length_cons,List.length_nil,Nat.reduceAdd,Array.replicate_succ,Array.replicate_zero,List.push_toArray,List.nil_append,List.cons_append]
    refine anyT_take (i:=0) (p:=9) (v:=?hv1) rfl rfl (by kernel_rfl) (fun L w => TillC_set (by decide) L w) (by kernel_rfl) (by kernel_rfl) (by kernel_rfl) (by kernel_rfl) (fun _ _ _ h => h) (Or.inl ⟨by rfl,fun w hw => ?hy1⟩) (hS0 _) ?hr1
    case hy1 => obtain ⟨L,hL,hS⟩:=hw;have hc:=hS.2;go_simp;(try with_reducible rfl)
    simp only [Act.put,List.setIfInBounds_toArray,List.set_cons_zero,List.set_cons_succ]
    refine anyT_take (i:=1) (p:=2) (v:=?hv2) rfl rfl (by kernel_rfl) (fun L w => TillC_set (by decide) L w) (by kernel_rfl) (by kernel_rfl) (by kernel_rfl) (by kernel_rfl) (fun _ _ _ h => h) (Or.inl ⟨by rfl,fun w hw => ?hy2⟩) (hS0 _) ?hr2
    case hy2 => obtain ⟨L,hL,hS⟩:=hw;have hc:=hS.2;go_simp;(try with_reducible rfl)
    simp only [Act.put,List.setIfInBounds_toArray,List.set_cons_zero,List.set_cons_succ]
    refine anyT_take (i:=2) (p:=3) (v:=?hv3) rfl rfl (by kernel_rfl) (fun L w => TillC_set (by decide) L w) (by kernel_rfl) (by kernel_rfl) (by kernel_rfl) (by kernel_rfl) (fun _ _ _ h => h) (Or.inl ⟨by rfl,fun w _ => ?hy3⟩) (hS0 _) ?hr3
    case hy3 => go_simp;(try with_reducible rfl)
    simp only [Act.put,List.setIfInBounds_toArray,List.set_cons_zero,List.set_cons_succ]
    refine anyT_take (i:=3) (p:=4) (v:=?hv4) rfl rfl (by kernel_rfl) (fun L w => TillC_set (by decide) L w) (by kernel_rfl) (by kernel_rfl) (by kernel_rfl) (by kernel_rfl) (fun _ _ _ h => h) (Or.inl ⟨by rfl,fun w _ => ?hy4⟩) (hS0 _) ?hr4
    case hy4 => go_simp;(try with_reducible rfl)
    simp only [Act.put,List.setIfInBounds_toArray,List.set_cons_zero,List.set_cons_succ]
    refine anyT_take (i:=4) (p:=5) (v:=?hv5) rfl rfl (by kernel_rfl) (fun L w => TillC_set (by decide) L w) (by kernel_rfl) (by kernel_rfl) (by kernel_rfl) (by kernel_rfl) (fun _ _ _ h => h) (Or.inl ⟨by rfl,fun w _ => ?hy5⟩) (hS0 _) ?hr5
    case hy5 => go_simp;(try with_reducible rfl)
    simp only [Act.put,List.setIfInBounds_toArray,List.set_cons_zero,List.set_cons_succ]
    refine anyT_take (i:=5) (p:=8) (v:=?hv6) rfl rfl (by kernel_rfl) (fun L w => TillC_set (by decide) L w) (by kernel_rfl) (by kernel_rfl) (by kernel_rfl) (by kernel_rfl) (fun _ _ _ h => h) (Or.inl ⟨by rfl,fun w hw => ?hy6⟩) (hS0 _) ?hr6
    case hy6 => obtain ⟨L,hL,hS⟩:=hw;have hc:=hS.1 hL;go_simp;(try with_reducible rfl)
    simp only [Act.put,List.setIfInBounds_toArray,List.set_cons_zero,List.set_cons_succ]
    refine anyT_take (i:=6) (p:=7) (v:=?hv7) rfl rfl (by kernel_rfl) (fun L w => TillC_set (by decide) L w) (by kernel_rfl) (by kernel_rfl) (by kernel_rfl) (by kernel_rfl) (fun _ _ _ h => h) (Or.inl ⟨by rfl,fun w _ => ?hy7⟩) (hS0 _) ?hr7
    case hy7 => go_simp;(try with_reducible rfl)
    simp only [Act.put,List.setIfInBounds_toArray,List.set_cons_zero,List.set_cons_succ]
    refine anyT_all (rs:=[7]) (by kernel_rfl) (by simp) ?_
    intro j hj
    simp only [List.mem_singleton] at hj
    subst hj
    refine T_step rfl (fun K' hK => ?_)
    go_simp
    refine hK.out _ _ hS1 ?_
    simp only [Act.put,List.setIfInBounds_toArray,List.set_cons_zero,List.set_cons_succ]
    refine anyT_all (rs:=[8]) (by kernel_rfl) (by simp) ?_
    intro j hj
    simp only [List.mem_singleton] at hj
    subst hj
    refine T_step rfl (fun K' hK => ?_)
    refine step_append_run rfl _ _ 90 rfl _ _ r6 ?_
    refine hK.out _ _ ⟨fun h => absurd h (by decide),b6⟩ ?_
    simp only [Act.put,List.setIfInBounds_toArray,List.set_cons_zero,List.set_cons_succ]
    refine anyT_take (i:=9) (p:=10) (v:=?hv8) rfl rfl (by kernel_rfl) (fun L w => TillC_set (by decide) L w) (by kernel_rfl) (by kernel_rfl) (by kernel_rfl) (by kernel_rfl) (fun _ _ _ h => h) (Or.inl ⟨by rfl,fun w _ => ?hy8⟩) ⟨fun h => absurd h (by decide),b6⟩ ?hr8
    case hy8 => go_simp;(try with_reducible rfl)
    simp only [Act.put,List.setIfInBounds_toArray,List.set_cons_zero,List.set_cons_succ]
    refine anyT_take (i:=10) (p:=11) (v:=?hv9) rfl rfl (by kernel_rfl) (fun L w => TillC_set (by decide) L w) (by kernel_rfl) (by kernel_rfl) (by kernel_rfl) (by kernel_rfl) (fun _ _ _ h => h) (Or.inl ⟨by rfl,fun w _ => ?hy9⟩) ⟨fun h => absurd h (by decide),b6⟩ ?hr9
    case hy9 => go_simp;(try with_reducible rfl)
    simp only [Act.put,List.setIfInBounds_toArray,List.set_cons_zero,List.set_cons_succ]
    refine anyT_take (i:=11) (p:=12) (v:=?hv10) rfl rfl (by kernel_rfl) (fun L w => TillC_set (by decide) L w) (by kernel_rfl) (by kernel_rfl) (by kernel_rfl) (by kernel_rfl) (fun _ _ _ h => h) (Or.inl ⟨by rfl,fun w _ => ?hy10⟩) ⟨fun h => absurd h (by decide),b6⟩ ?hr10
    case hy10 => go_simp;(try with_reducible rfl)
    simp only [Act.put,List.setIfInBounds_toArray,List.set_cons_zero,List.set_cons_succ]
    refine anyT_all (rs:=[12]) (by kernel_rfl) (by simp) ?_
    intro j hj
    simp only [List.mem_singleton] at hj
    subst hj
    refine T_step rfl (fun K' hK => ?_)
    go_simp
    refine hK.out _ _ ⟨fun h => absurd h (by decide),b7⟩ ?_
    simp only [Act.put,List.setIfInBounds_toArray,List.set_cons_zero,List.set_cons_succ]
    refine anyT_done (by kernel_rfl) ?_ _
    refine NoPanic.normal ?_
    go_wp2
    go_roundw
    case rel => exact ⟨j + 1,by have:=HLT.out;omega,by go_num,Lib.hid ⟨_,_,_,HB7.out⟩⟩
    case measure => have:=HLT.out;simp [intOf];omega
   ·have hjn:nd = j:=by omega
    subst hjn
    have hrow:Hid (wr.ownsRow w.heap.size 5 1 u9 (p.length + 16) (u8s (frameB last boot p))):=Lib.hid (by
     have h2:=own_below hA.out.row HQ1.out
     refine row_kept h2 (fun x o hk hv => HB.out.fr.heap hk (fun hm => ?_))
     have:=hML.out _ hm
     have:=(h2.lt x hv).1
     omega)
    obtain ⟨fg,fcap,fcur,rfl,hfg,hfgh,hfl,hfm,hfs,hft⟩:=own_pos hrow.out (by omega)
    have HFGH:=Lib.hid hfgh
    have k0:Hid (∀ (x:Nat) (o:Obj),w.heap.size ≤ x → w1.heap[x]? = some o → wr.heap[x]? = some o):=Lib.hid (fun x o hx hk => HB.out.fr.heap hk (fun hm => by have:=hML.out _ hm;omega))
    have q1:=k0.out _ _ (Nat.le_refl _) y0.out
    have q2:=k0.out _ _ (by omega) (Below.heap HQ1.out (Nat.le_refl _) A2.out)
    have q3:=k0.out _ _ (by omega) (Below.heap HQ1.out (Nat.le_refl _) A3.out)
    have q4:=k0.out _ _ (by omega) (Below.heap HQ1.out (Nat.le_refl _) hA.out.cell)
    have z0:=cellAt q1 0
    have z1:=cellAt q2 0
    have z2:=cellAt q3 0
    have z3:=cellAt q4 0
    obtain ⟨l0,l1,l2,l3,lf⟩:=HB.out.log.facts
    have Q1:=Lib.hid q1
    have Q2:=Lib.hid q2
    have Q3:=Lib.hid q3
    have Q4:=Lib.hid q4
    have CH:Hid (∀ W a len cap,Calls Tryz.prog 161 #[.slice a len cap,.int .i64 54] W fun e w' => e = .returned (.func (.func 190) #[] #[.pointer (some ⟨W.heap.size,0,none⟩),.pointer (some ⟨W.heap.size + 1,0,none⟩)]) ∧ w' = (W.alloc (.cells #[.slice a len cap] 33)).alloc (.cells #[.int .i64 54] 3)):=Lib.hid (fun W a len cap => callsIn_wide.1 (chunk_in Fence.wide 1 trivial rfl a len cap 54 (by decide) W))
    have hL0:((p.length + 16:Nat):Int) = (p.length:Int) + 16:=by push_cast;rfl
    clear hfgh q1 q2 q3 q4 lf l1 l3 hft hfs
    go_wp2_with (go_at_call 161;refine (CH.out _ _ _ _).mono ?_;rintro e1 w7 ⟨rfl,hw7⟩;have HW7:=Lib.hid hw7;clear hw7)
    have hsw:wr.heap.size = wr.heap.size:=rfl
    obtain ⟨e16,he16⟩:∃ x,Hid (x = wr.heap.size):=⟨_,Lib.hid rfl⟩
    have w7a:Hid (w7.heap.size = e16 + 3 ∧ Below wr.heap.size wr w7 ∧ w7.heap[e16]? = some (.cells #[.int .i64 (n:Int)] 3 (0,0)) ∧ w7.heap[e16 + 1]? = some (.cells #[.slice (some ⟨fg,0,none⟩) (p.length + 16) fcap] 33 (0,0)) ∧ w7.heap[e16 + 2]? = some (.cells #[.int .i64 ((54:Nat):Int)] 3 (0,0))):=Lib.hid (by
     rw [HW7.out,he16.out]
     refine ⟨by simp,below_alloc3 _ _ _ _,heap_old (heap_old (heap_new _ _) _) _,heap_old (heap_new2 wr _ _) _,?_⟩
     have:=heap_new2 (wr.alloc (.cells #[.int .i64 (n:Int)] 3)) (.cells #[.slice (some ⟨fg,0,none⟩) (p.length + 16) fcap] 33) (.cells #[.int .i64 54] 3)
     rw [World.size_alloc] at this
     exact this)
    rw [show wr.heap.size = e16 from he16.out.symm]
    refine wpIn_wide.1 (?_:Code.wpIn Fence.wide 3 _ _ _ _ _)
    have hsz7:=w7a.out.1
    have hb7:=w7a.out.2.1
    have hlen16:p.length + 16 ≤ 100000:=by have:=hN.out;omega
    have hMN:Hid (M = (p.length + 16 + 54 - 1) / 54):=Lib.hid (by rw [hM.out,hN.out];unfold manyN;omega)
    have HAP:=Lib.hid (app_apart HLL.out HDD.out HSS.out)
    have HDr:Hid (DiskAt w7 d l cb 776 k):=Lib.hid (((HDD.out.below B1.out).frame HB.out.fr (fun hm => (HAP.out _ hm).1 rfl) (fun hm => (HAP.out _ hm).2.1 rfl) (fun hm => (HAP.out _ hm).2.2 rfl)).below hb7)
    have hdl:=HDr.out.lt
    have hge:w.heap.size ≤ w1.heap.size:=B1.out.size
    have hgr:=HB.out.fr.size
    have he16s:=he16.out
    have he7:e < w7.heap.size:=by omega
    have k7:Hid (∀ (x:Nat) (o:Obj),wr.heap[x]? = some o → w7.heap[x]? = some o):=Lib.hid (fun x o hk => Below.heap hb7 (Nat.le_refl _) hk)
    refine wpIn_rangeFunc_ownG (F:=Fence.wide) (n:=3) rfl (by decide) (gf:=190) (lb:=#[.pointer (some ⟨e16 + 1,0,none⟩),.pointer (some ⟨e16 + 2,0,none⟩)]) rfl trivial (enters_of Tryz.func190 (by kernel_rfl) rfl)
     (chunk_stops Fence.wide 2 trivial rfl (by decide) (e16 + 1) (e16 + 2) fg 0 (p.length + 16) fcap 54 (by decide) (by decide) hlen16 hfl hfm w7 w7a.out.2.2.2.1 w7a.out.2.2.2.2)
     boxes_t (fun W l o o' h1 h2 h3 h4 => boxes_b (w:=w7) (by omega) (by omega) W l o o' h1 h2 h3 h4) (Below.refl _ _) (fun _ => rfl)
     (AppI w7 d l cb e e16 k n (p.length + 16)) (fun _ _ _ => False) (appI_own hdl.1 hdl.2.1 hdl.2.2 he7 (by omega)) (fun _ _ _ _ _ hs _ _ => hs) ⟨Frame.refl _ _,by simpa using HDr.out,by simpa using w7a.out.2.2.1,k7.out _ _ Q4.out⟩ ?acts ?assign ?body ?done ?stop
    case assign =>
     intro lx x W K hK
     rw [zip_one]
     refine assign_region (chunkV fg 0 (p.length + 16) 54 x.1) ?hvv ?_
     case hvv => simp
     simp only [List.setIfInBounds_toArray,List.set_cons_zero,List.set_cons_succ]
     exact hK
    case body =>
     rintro lx pre x W ⟨hF,hD,h16,hE⟩ hpl
     have HF:=Lib.hid hF
     have HDW:=Lib.hid hD
     have H16:=Lib.hid h16
     have HE:=Lib.hid hE
     have HPL:Hid (pre.length < M):=Lib.hid (by rw [hMN.out];exact hpl)
     have hN96:Hid (n + M ≤ 8 * (ss.length + nd)):=Lib.hid (by have h1:=hnd.out;unfold needN at h1;have:=HLL.out.len;omega)
     have fr7:Hid (∀ (x:Nat) (o:Obj),x ≠ e16 → x ≠ e → x ≠ d → x ≠ cb → w7.heap[x]? = some o → W.heap[x]? = some o):=Lib.hid (fun x o h1 h2 h3 h4 hk => hF.heap hk (by simp [h1,h2,h3,h4]))
     have hda:=Lib.hid (HAP.out a (by simp))
     have hdlw:=Lib.hid HDD.out.lt
     have p1:=fr7.out _ _ (by omega) (by omega) (by have:=hdlw.out;omega) (by have:=hdlw.out;omega) (k7.out _ _ Q1.out)
     have p2:=fr7.out _ _ (by omega) (by omega) (by have:=hdlw.out;omega) (by have:=hdlw.out;omega) (k7.out _ _ Q2.out)
     have p3:=fr7.out _ _ (by omega) (by omega) (by have:=hdlw.out;omega) (by have:=hdlw.out;omega) (k7.out _ _ Q3.out)
     have pl:=fr7.out _ _ (by omega) (by omega) hda.out.1 hda.out.2.2 (k7.out _ _ HB.out.log.cell)
     have P1:=Lib.hid p1
     have P2:=Lib.hid p2
     have P3:=Lib.hid p3
     have PL:=Lib.hid pl
     clear hF hD h16 hE hpl p1 p2 p3 pl
     have HLW:=Lib.hid (app_logW HLL.out HDD.out HSS.out B1.out HB.out hb7 (by omega) (by omega) (by omega) he16s HF.out)
     obtain ⟨q,hq776,hsec⟩:=app_sector HLW.out HB.out.len HPL.out hN96.out
     have HSEC:Hid (∀ W',Below W.heap.size W W' → Calls Tryz.prog 163 #[.pointer (some ⟨a,0,none⟩),.int .i64 ((n:Int) + (pre.length:Int))] W' fun e w' => e = .returned (.int .i64 q) ∧ w' = W'):=Lib.hid (fun W' hW' => by
      have h1:=hsec W' hW'
      rw [Int.natCast_add] at h1
      exact h1)
     have HROW:Hid (Sl W 5 1 (chunkV fg 0 (p.length + 16) 54 x.1) (((frameB last boot p).drop x.1).take 54).length (u8s (((frameB last boot p).drop x.1).take 54))):=Lib.hid (chunk_sl (row_kept (own_below hrow.out hb7) (fun y o hk hv => HF.out.heap hk (by
      simp only [Value.ownBlock,Option.some.injEq] at hv
      subst hv
      have h1:=(hrow.out.lt fg rfl).1
      have h2:=(hrow.out.lt fg rfl).2
      have h3:fg ≠ e:=cells_ty HFGH.out Q4.out (by decide)
      have h4:=hdlw.out
      simp only [List.mem_cons,List.not_mem_nil,or_false]
      omega))) x.2)
     have hsec54:(((frameB last boot p).drop x.1).take 54).length ≤ 54:=by simp;omega
     have KS:Hid (∀ W':World,(W'.heap[w.heap.size]? = some (.cells #[.pointer (some ⟨a,0,none⟩)] 149 (0,0)) ∧ W'.heap[a]? = W.heap[a]? ∧ W'.heap[e16]? = W.heap[e16]? ∧ W'.heap[w.heap.size + 1]? = W.heap[w.heap.size + 1]?) → (fun W:World => W.cell? ⟨w.heap.size,0,none⟩ = some (.pointer (some ⟨a,0,none⟩)) ∧ W.cell? ⟨a,0,none⟩ = some (.pointer (some ⟨d,0,none⟩)) ∧ W.cell? ⟨e16,0,none⟩ = some (.int .i64 ((n + pre.length:Nat):Int)) ∧ W.cell? ⟨w.heap.size + 1,0,none⟩ = some (.int .i64 boot)) W'):=Lib.hid (fun W' h => ⟨cellAt h.1 0,cellAt (h.2.1.trans PL.out) 0,cellAt (h.2.2.1.trans H16.out) 0,cellAt (h.2.2.2.trans P2.out) 0⟩)
     have KB:Hid (∀ W':World,Below W.heap.size W W' → (fun W:World => W.cell? ⟨w.heap.size,0,none⟩ = some (.pointer (some ⟨a,0,none⟩)) ∧ W.cell? ⟨a,0,none⟩ = some (.pointer (some ⟨d,0,none⟩)) ∧ W.cell? ⟨e16,0,none⟩ = some (.int .i64 ((n + pre.length:Nat):Int)) ∧ W.cell? ⟨w.heap.size + 1,0,none⟩ = some (.int .i64 boot)) W'):=Lib.hid (fun W' h => KS.out W' ⟨Below.heap h (Nat.le_refl _) P1.out,h.block _ (heap_lt PL.out),h.block _ (heap_lt H16.out),h.block _ (heap_lt P2.out)⟩)
     have hSW:(fun W:World => W.cell? ⟨w.heap.size,0,none⟩ = some (.pointer (some ⟨a,0,none⟩)) ∧ W.cell? ⟨a,0,none⟩ = some (.pointer (some ⟨d,0,none⟩)) ∧ W.cell? ⟨e16,0,none⟩ = some (.int .i64 ((n + pre.length:Nat):Int)) ∧ W.cell? ⟨w.heap.size + 1,0,none⟩ = some (.int .i64 boot)) W.drew:=KB.out _ ((Below.refl _ _).drew)
     have hat:n + pre.length ≤ 10000:=by have:=HPL.out;have:=hN96.out;have h7:=HFW.out;have h8:=hM.out;have h9:=hnd.out;rw [← h8,← h9] at h7;omega
     have MD:Hid (∀ W':World,Below W.heap.size W W' → Calls Tryz.prog 164 #[.int .i64 boot,.int .i64 ((n:Int) + (pre.length:Int)),chunkV fg 0 (p.length + 16) 54 x.1] W' fun e w' => ∃ v',e = .returned v' ∧ w'.ownsRow W'.heap.size 5 1 v' 64 (u8s (madeB boot (n + pre.length) (((frameB last boot p).drop x.1).take 54))) ∧ Below W'.heap.size W' w'):=Lib.hid (fun W' hW' => by
      have h1:=made_any W' boot (n + pre.length) hboot hat _ _ (HROW.out.below hW') hsec54
      rw [Int.natCast_add] at h1
      exact h1)
     have HE16S:=Lib.hid he16s
     have HB7:=Lib.hid hb7
     clear hsec he16s hb7 hsz7 hge hgr he7 hdl
     gi_wp2
     refine region_inRound (fun W:World => W.cell? ⟨w.heap.size,0,none⟩ = some (.pointer (some ⟨a,0,none⟩)) ∧ W.cell? ⟨a,0,none⟩ = some (.pointer (some ⟨d,0,none⟩)) ∧ W.cell? ⟨e16,0,none⟩ = some (.int .i64 ((n + pre.length:Nat):Int)) ∧ W.cell? ⟨w.heap.size + 1,0,none⟩ = some (.int .i64 boot)) lx 1 (by kernel_rfl) (by rintro ⟨_,_,h⟩;exact h) (by kernel_rfl) ?_
     simp only [List.size_toArray,List.length_cons,List.length_nil,Nat.reduceAdd,Array.replicate_succ,Array.replicate_zero,List.push_toArray,List.nil_append,List.cons_append]
     refine wpAnyH_take (i:=0) (v:=?kv1) rfl (by kernel_rfl) (by kernel_rfl) (by kernel_rfl) (fun _ _ _ h => h) (Or.inl ⟨by rfl,fun w hw => ?ky1⟩) hSW ?kr1
     case ky1 => obtain ⟨g0,g1,g2,g3⟩:=hw;go_simp;(try with_reducible rfl)
     simp only [Act.put,List.setIfInBounds_toArray,List.set_cons_zero,List.set_cons_succ]
     refine wpAnyH_take (i:=1) (v:=?kv2) rfl (by kernel_rfl) (by kernel_rfl) (by kernel_rfl) (fun _ _ _ h => h) (Or.inl ⟨by rfl,fun w hw => ?ky2⟩) hSW ?kr2
     case ky2 => obtain ⟨g0,g1,g2,g3⟩:=hw;go_simp;(try with_reducible rfl)
     simp only [Act.put,List.setIfInBounds_toArray,List.set_cons_zero,List.set_cons_succ]
     refine wpAnyH_take (i:=2) (v:=?kv3) rfl (by kernel_rfl) (by kernel_rfl) (by kernel_rfl) (fun _ _ _ h => h) (Or.inl ⟨by rfl,fun w hw => ?ky3⟩) hSW ?kr3
     case ky3 => obtain ⟨g0,g1,g2,g3⟩:=hw;go_simp;(try with_reducible rfl)
     simp only [Act.put,List.setIfInBounds_toArray,List.set_cons_zero,List.set_cons_succ]
     refine wpAnyH_take (i:=3) (v:=?kv4) rfl (by kernel_rfl) (by kernel_rfl) (by kernel_rfl) (fun _ _ _ h => h) (Or.inl ⟨by rfl,fun w hw => ?ky4⟩) hSW ?kr4
     case ky4 => obtain ⟨g0,g1,g2,g3⟩:=hw;go_simp;(try with_reducible rfl)
     simp only [Act.put,List.setIfInBounds_toArray,List.set_cons_zero,List.set_cons_succ]
     refine wpAnyH_take (i:=4) (v:=?kv5) rfl (by kernel_rfl) (by kernel_rfl) (by kernel_rfl) (fun _ _ _ h => h) (Or.inl ⟨by rfl,fun w hw => ?ky5⟩) hSW ?kr5
     case ky5 => obtain ⟨g0,g1,g2,g3⟩:=hw;go_simp;(try with_reducible rfl)
     simp only [Act.put,List.setIfInBounds_toArray,List.set_cons_zero,List.set_cons_succ]
     refine wpAnyH_take (i:=5) (v:=?kv6) rfl (by kernel_rfl) (by kernel_rfl) (by kernel_rfl) (fun _ _ _ h => h) (Or.inl ⟨by rfl,fun w hw => ?ky6⟩) hSW ?kr6
     case ky6 => obtain ⟨g0,g1,g2,g3⟩:=hw;go_simp;(try with_reducible rfl)
     simp only [Act.put,List.setIfInBounds_toArray,List.set_cons_zero,List.set_cons_succ]
     refine wpAnyH_take (i:=7) (v:=?kv7) rfl (by kernel_rfl) (by kernel_rfl) (by kernel_rfl) (fun _ _ _ h => h) (Or.inl ⟨by rfl,fun w hw => ?ky7⟩) hSW ?kr7
     case ky7 => obtain ⟨g0,g1,g2,g3⟩:=hw;go_simp;(try with_reducible rfl)
     simp only [Act.put,List.setIfInBounds_toArray,List.set_cons_zero,List.set_cons_succ]
     refine wpAnyH_take (i:=8) (v:=?kv8) rfl (by kernel_rfl) (by kernel_rfl) (by kernel_rfl) (fun _ _ _ h => h) (Or.inl ⟨by rfl,fun w hw => ?ky8⟩) hSW ?kr8
     case ky8 => obtain ⟨g0,g1,g2,g3⟩:=hw;go_simp;(try with_reducible rfl)
     simp only [Act.put,List.setIfInBounds_toArray,List.set_cons_zero,List.set_cons_succ]
     refine wpAnyH_take (i:=9) (v:=?kv9) rfl (by kernel_rfl) (by kernel_rfl) (by kernel_rfl) (fun _ _ _ h => h) (Or.inl ⟨by rfl,fun w hw => ?ky9⟩) hSW ?kr9
     case ky9 => obtain ⟨g0,g1,g2,g3⟩:=hw;go_simp;(try with_reducible rfl)
     simp only [Act.put,List.setIfInBounds_toArray,List.set_cons_zero,List.set_cons_succ]
     refine wpAnyH_ready (rs:=[6]) (by kernel_rfl) (by simp) ?_
     refine AllReadyH.cons rfl (fun K' hK => ?_) AllReadyH.nil
     go_simp
     go_at_call 163
     refine (HSEC.out W.drew ((Below.refl _ _).drew)).mono ?_
     rintro e1 W2 ⟨rfl,hw⟩
     subst hw
     refine hK.out _ _ hSW (fun _ => ?_)
     simp only [Act.put,List.setIfInBounds_toArray,List.set_cons_zero,List.set_cons_succ]
     refine wpAnyH_ready (rs:=[10]) (by kernel_rfl) (by simp) ?_
     refine AllReadyH.cons rfl (fun K' hK => ?_) AllReadyH.nil
     go_simp
     go_at_call 164
     refine (MD.out W.drew ((Below.refl _ _).drew)).mono ?_
     rintro e1 W3 ⟨v3,rfl,ho3,hq3'⟩
     obtain ⟨g3,cap3,cur3,rfl,-,-,-⟩:=own_pos ho3 (by decide)
     have HO3:=Lib.hid ho3
     have HQ3:Hid (Below W.heap.size W W3):=Lib.hid (((Below.refl _ _).drew).trans hq3')
     have hS3:(fun W:World => W.cell? ⟨w.heap.size,0,none⟩ = some (.pointer (some ⟨a,0,none⟩)) ∧ W.cell? ⟨a,0,none⟩ = some (.pointer (some ⟨d,0,none⟩)) ∧ W.cell? ⟨e16,0,none⟩ = some (.int .i64 ((n + pre.length:Nat):Int)) ∧ W.cell? ⟨w.heap.size + 1,0,none⟩ = some (.int .i64 boot)) W3:=KB.out _ HQ3.out
     clear ho3 hq3'
     refine hK.out _ _ hS3 (fun _ => ?_)
     simp only [Act.put,List.setIfInBounds_toArray,List.set_cons_zero,List.set_cons_succ]
     refine wpAnyH_ready (rs:=[11]) (by kernel_rfl) (by simp) ?_
     refine AllReadyH.cons rfl (fun K' hK => ?_) AllReadyH.nil
     go_simp
     go_at_call 162
     refine (diskWrite_any W3 d l cb 776 (k + pre.length) (HDW.out.below HQ3.out) (by have:=HPL.out;have:=hat;omega) q hq776 _ _ (Sl.of_own HO3.out (u8s_one' _) (.inr (by decide)))).mono ?_
     rintro e1 W4 ⟨rfl,hd4,hf4⟩
     have HD4:=Lib.hid hd4
     have HF4:=Lib.hid hf4
     have n4:Hid (∀ y,y ≠ d → y ≠ cb → y < W.heap.size → W4.heap[y]? = W.heap[y]?):=Lib.hid (fun y h1 h2 h3 => (hf4.block y (by have:=HQ3.out.size;omega) (by simp [h1,h2])).trans (HQ3.out.block y h3))
     have ne1:Hid (w.heap.size ≠ d ∧ w.heap.size ≠ cb ∧ w.heap.size + 1 ≠ d ∧ w.heap.size + 1 ≠ cb ∧ e16 ≠ d ∧ e16 ≠ cb ∧ e ≠ d ∧ e ≠ cb ∧ a ≠ d ∧ a ≠ cb):=Lib.hid (by
      have h1:=hdlw.out
      have h2:=hda.out
      have h3:=HE16S.out
      have h4:=HB.out.fr.size
      have h5:=B1.out.size
      omega)
     have hS4:(fun W:World => W.cell? ⟨w.heap.size,0,none⟩ = some (.pointer (some ⟨a,0,none⟩)) ∧ W.cell? ⟨a,0,none⟩ = some (.pointer (some ⟨d,0,none⟩)) ∧ W.cell? ⟨e16,0,none⟩ = some (.int .i64 ((n + pre.length:Nat):Int)) ∧ W.cell? ⟨w.heap.size + 1,0,none⟩ = some (.int .i64 boot)) W4:=KS.out _ ⟨(n4.out _ ne1.out.1 ne1.out.2.1 (heap_lt P1.out)).trans P1.out,n4.out _ ne1.out.2.2.2.2.2.2.2.2.1 ne1.out.2.2.2.2.2.2.2.2.2 (heap_lt PL.out),n4.out _ ne1.out.2.2.2.2.1 ne1.out.2.2.2.2.2.1 (heap_lt H16.out),n4.out _ ne1.out.2.2.1 ne1.out.2.2.2.1 (heap_lt P2.out)⟩
     have E4:=Lib.hid ((n4.out _ ne1.out.2.2.2.2.2.2.1 ne1.out.2.2.2.2.2.2.2.1 (heap_lt HE.out)).trans HE.out)
     have S4:=Lib.hid ((n4.out _ ne1.out.2.2.2.2.1 ne1.out.2.2.2.2.2.1 (heap_lt H16.out)).trans H16.out)
     have v0:=cellAt E4.out 0
     have v1:=frozenAt E4.out 0
     have v2:=cellAt S4.out 0
     have v3:=frozenAt S4.out 0
     clear hd4 hf4
     refine hK.out _ _ hS4 (fun _ => ?_)
     simp only [Act.put,List.setIfInBounds_toArray,List.set_cons_zero,List.set_cons_succ]
     refine wpAnyH_ready (rs:=[12]) (by kernel_rfl) (by simp) ?_
     refine AllReadyH.cons rfl (fun K' hK => ?_) AllReadyH.nil
     go_simp
     have ne2:Hid (w.heap.size ≠ e ∧ w.heap.size + 1 ≠ e ∧ e16 ≠ e ∧ a ≠ e):=Lib.hid (by
      have h3:=HE16S.out
      have h4:=HB.out.fr.size
      have h5:=B1.out.size
      omega)
     have t1:Hid (∀ y,y ≠ e → (W4.setCell ⟨e,0,none⟩ (.int .i64 0)).heap[y]? = W4.heap[y]?):=Lib.hid (fun y hy => heap_set_ne _ hy)
     refine hK.out _ _ (KS.out _ ⟨(t1.out _ ne2.out.1).trans ((n4.out _ ne1.out.1 ne1.out.2.1 (heap_lt P1.out)).trans P1.out),(t1.out _ ne2.out.2.2.2).trans (n4.out _ ne1.out.2.2.2.2.2.2.2.2.1 ne1.out.2.2.2.2.2.2.2.2.2 (heap_lt PL.out)),(t1.out _ ne2.out.2.2.1).trans (n4.out _ ne1.out.2.2.2.2.1 ne1.out.2.2.2.2.2.1 (heap_lt H16.out)),(t1.out _ ne2.out.2.1).trans (n4.out _ ne1.out.2.2.1 ne1.out.2.2.2.1 (heap_lt P2.out))⟩) (fun _ => ?_)
     simp only [Act.put,List.setIfInBounds_toArray,List.set_cons_zero,List.set_cons_succ]
     refine wpAnyH_done (by kernel_rfl) ?_ _
     have v4:(W4.setCell ⟨e,0,none⟩ (.int .i64 0)).cell? ⟨e,0,none⟩ = some (.int .i64 0):=cellAt (by simpa using setAt E4.out 0 (.int .i64 0)) 0
     have v5:(W4.setCell ⟨e,0,none⟩ (.int .i64 0)).cell? ⟨e16,0,none⟩ = some (.int .i64 ((n:Int) + (pre.length:Int))):=(cellAt ((t1.out _ ne2.out.2.2.1).trans S4.out) 0).trans (by simp)
     gi_wp2
     have h7s:=HF.out.size
     have hdl7:=HDr.out.lt
     have hw7s:=w7a.out.1
     have hx1:=ne1.out
     have hx2:=ne2.out
     have hx3:=HE16S.out
     have hx4:=HB.out.fr.size
     have fW:Frame [d,cb,e16,e] W ((W4.setCell ⟨e,0,none⟩ (.int .i64 0)).setCell ⟨e16,0,none⟩ (.int .i64 ((n:Int) + (pre.length:Int) + 1))) :=
      (((Frame.of_below HQ3.out [d,cb,e16,e]).trans HF4.out (fun y hy => .inl (by simp at hy;rcases hy with h | h <;> simp [h]))).setCell (p:=⟨e,0,none⟩) (.inl (by simp)) _).setCell (p:=⟨e16,0,none⟩) (.inl (by simp)) _
     have hlne:l ≠ e ∧ l ≠ e16:=by have:=hdlw.out;have:=B1.out.size;omega
     refine ⟨keepsFrom_of_frame fW (fun y hy => ?_),boxes_of_frame fW (by omega) (by omega) ?_ ?_,HF.out.trans fW (fun y hy => .inl hy),?_,?_,?_⟩
     ·simp only [List.mem_cons,List.not_mem_nil,or_false] at hy
      rcases hy with rfl | rfl | rfl | rfl <;> omega
     ·have:=hdlw.out
      have:=B1.out.size
      simp only [List.mem_cons,List.not_mem_nil,or_false]
      omega
     ·have:=hdlw.out
      have:=B1.out.size
      simp only [List.mem_cons,List.not_mem_nil,or_false]
      omega
     ·rw [List.length_append,List.length_singleton,← Nat.add_assoc]
      refine HD4.out.same ((heap_set_ne _ (by omega)).trans (heap_set_ne _ (by omega))) ((heap_set_ne _ hlne.2).trans (heap_set_ne _ hlne.1)) ((heap_set_ne _ (by omega)).trans (heap_set_ne _ (by omega)))
     ·have h8:=setAt ((t1.out _ hx2.2.2.1).trans S4.out) 0 (.int .i64 ((n:Int) + (pre.length:Int) + 1))
      rw [h8]
      simp
      omega
     ·exact (heap_set_ne _ (by omega)).trans (by simpa using setAt E4.out 0 (.int .i64 0))
    case done =>
     rintro D xs W hD hS ⟨hF,hDW,h16,hE⟩ hK
     have hxl:Hid (xs.length = M):=Lib.hid (by
      have h1:=congrArg List.length hS
      rw [List.length_map,offs_length] at h1
      rw [hMN.out,h1])
     have HI:Hid (AppI w7 d l cb e e16 k n (p.length + 16) xs W):=Lib.hid ⟨hF,hDW,h16,hE⟩
     have HKD:=Lib.hid hK
     have HDD2:=Lib.hid hD
     have HLW:=Lib.hid (app_logW HLL.out HDD.out HSS.out B1.out HB.out hb7 (by omega) (by omega) (by omega) he16s hF)
     have hdlw:=Lib.hid HDD.out.lt
     have hda:=Lib.hid (HAP.out a (by simp))
     have fr7:Hid (∀ (x:Nat) (o:Obj),x ≠ e16 → x ≠ e → x ≠ d → x ≠ cb → w7.heap[x]? = some o → W.heap[x]? = some o):=Lib.hid (fun x o h1 h2 h3 h4 hk => hF.heap hk (by simp [h1,h2,h3,h4]))
     have p1:=fr7.out _ _ (by omega) (by omega) (by have:=hdlw.out;omega) (by have:=hdlw.out;omega) (k7.out _ _ Q1.out)
     have p3:=fr7.out _ _ (by omega) (by omega) (by have:=hdlw.out;omega) (by have:=hdlw.out;omega) (k7.out _ _ Q3.out)
     have pa:=HLW.out.cell
     rw [hxl.out] at h16
     have u0:=cellAt p1 0
     have u2:=cellAt p3 0
     have u2f:=frozenAt p3 0
     have u3:W.cell? ⟨e16,0,none⟩ = some (.int .i64 ((n:Int) + (M:Int))):=(cellAt h16 0).trans (by simp)
     have u4:=cellAt pa 2
     have u5:=cellAt pa 3
     have u6:=frozenAt pa 2
     have u7:=frozenAt pa 3
     have una:Hid (w.heap.size ≠ a ∧ w.heap.size + 2 ≠ a ∧ w.heap.size ≠ e16):=Lib.hid (by omega)
     have HE16S:=Lib.hid he16s
     have HB7:=Lib.hid hb7
     have HLT7:=Lib.hid hdl
     have P3:=Lib.hid p3
     clear hF hDW h16 hE hK hD hS p1 p3 pa he16s hb7 hsz7 hge hgr he7 hdl
     go_wp2
     have hDne:D ≠ a ∧ D ≠ w.heap.size + 2:=by
      have h1:=HDD2.out
      have h2:=w7a.out.1
      have h3:=HE16S.out
      have h4:=HB.out.fr.size
      have h5:=B1.out.size
      omega
     refine ⟨by simp,.inl ⟨_,_,rfl,run_takeDeferred ((heap_set_ne _ hDne.2).trans ((heap_set_ne _ hDne.1).trans ((heap_set_ne _ hDne.1).trans HKD.out))),?_⟩⟩
     have hdq:∀ arr,((((W.setCell ⟨a,2,none⟩ (.int .i64 ((n:Int) + (M:Int)))).setCell ⟨a,3,none⟩ (.int .u32 (crcNext last p))).setCell ⟨w.heap.size + 1 + 1,0,none⟩ (.int .i64 0))).heap[D]? ≠ some (.cells arr 3 (0,0)):=fun arr h => by
      rw [(heap_set_ne _ hDne.2).trans ((heap_set_ne _ hDne.1).trans ((heap_set_ne _ hDne.1).trans HKD.out))] at h
      cases h
     have hw2:(((W.setCell ⟨a,2,none⟩ (.int .i64 ((n:Int) + (M:Int)))).setCell ⟨a,3,none⟩ (.int .u32 (crcNext last p)))).heap[w.heap.size + 2]? = some (.cells #[.int .i64 0] 25 (0,0)):=(heap_set_ne _ una.out.2.1).trans ((heap_set_ne _ una.out.2.1).trans P3.out)
     have hres:(((((W.setCell ⟨a,2,none⟩ (.int .i64 ((n:Int) + (M:Int)))).setCell ⟨a,3,none⟩ (.int .u32 (crcNext last p))).setCell ⟨w.heap.size + 1 + 1,0,none⟩ (.int .i64 0))).putObj D (.deferred none)).heap[w.heap.size + 2]? = some (.cells #[.int .i64 0] 25 (0,0)):=(World.putObj_heap_other (by omega)).trans (by simpa using setAt hw2 0 (.int .i64 0))
     have j0:=cellAt hres 0
     simp only [List.getElem?_toArray,List.getElem?_cons_zero] at j0
     have hAP:=app_close (nx:=crcNext last p) HLL.out HDD.out HSS.out B1.out HB.out HB7.out (by omega) (by have:=HE16S.out;have:=HB.out.fr.size;have:=B1.out.size;omega) (by omega) HE16S.out HI.out hxl.out (by rw [hM.out,hN.out]) hnd.out
     rw [Int.natCast_add] at hAP
     have hlts:a < w.heap.size ∧ d < w.heap.size ∧ l < w.heap.size ∧ cb < w.heap.size ∧ b < w.heap.size ∧ g < w.heap.size:=⟨hla,hdlw.out.1,hdlw.out.2.1,hdlw.out.2.2,HSS.out.lt.2.2.1,HSS.out.lt.2.2.2⟩
     have hA2:=hAP.keep (x:=w.heap.size + 2) hlts (frame_setCell _ ⟨w.heap.size + 1 + 1,0,none⟩ (.int .i64 0)) (by omega) (fun arr h => by rw [hw2] at h;injection h with h;injection h with _ h;exact absurd h (by decide))
     have hA3:=hA2.keep (x:=D) hlts (frame_putObj _ D (.deferred none)) (by have h1:=HDD2.out;have h2:=w7a.out.1;have h3:=HE16S.out;have h4:=HB.out.fr.size;have h5:=B1.out.size;omega) hdq
     refine ⟨.int .i64 0,?_,hA3⟩
     simp [results,Tryz.results123,go_sem,j0]
    case stop =>
     rintro D c pre W _ _ h _
     exact h.elim
end Go.Proofs.YtaonlcgneemimaaGreatDoor
