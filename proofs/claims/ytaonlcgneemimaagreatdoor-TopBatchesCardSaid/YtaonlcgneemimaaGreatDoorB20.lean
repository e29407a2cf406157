/- TopBatches: the contracts of AS6; no condition. -/
import Derived.Test.YtaonlcgneemimaaGreatDoorB19
namespace Go.Proofs.YtaonlcgneemimaaGreatDoor
open Go.RowKit
def ren2T (T:TreeF) (s t:ByteArray):TreeF:=if s.toList = t.toList then T else renG T s t
def ren2N (T:TreeF) (n:Nat) (s t:ByteArray):Nat:=if s.toList = t.toList then n else if (T t).isSome = true then n - 1 else n
def goneG (T:TreeF) (s t:ByteArray):Int:=if s.toList = t.toList then -1 else ((T t).map (·.1)).getD (-1)
theorem goneG_in {T:TreeF} {s t:ByteArray} (h:∀ x,T t = some x → -1 ≤ x.1 ∧ x.1 ≤ 4611686018427387904):-1 ≤ goneG T s t ∧ goneG T s t ≤ 4611686018427387904:=by
 unfold goneG
 split
 ·decide
 ·cases hT:T t with
  | none => decide
  | some x => exact h x hT
theorem rename2_g (w:World) (a b n:Nat) (T:TreeF) (next:Int) (H:TreeG w a b n T next) (C:Closed T) (s t:ByteArray) (hs:s.size ≤ 1000000) (ht:t.size ≤ 1000000) (hn:n ≤ 64) (hc:canRenG T s t = 0) :
  Calls Tryz.prog 65 #[.pointer (some ⟨a,0,none⟩),.string s,.string t] w fun e w' => e = .returned (.tuple #[.int .i64 (goneG T s t),.int .i64 0]) ∧ TreeG w' a b (ren2N T n s t) (ren2T T s t) next ∧ Frame [b] w w':=by
 unfold goneG ren2N ren2T
 by_cases h:s.toList = t.toList
 ·rw [if_pos h,if_pos h,if_pos h]
  refine (rename_same w a b n T next H s t hs ht (by omega) hc h).mono ?_
  rintro e w' ⟨rfl,hq⟩
  exact ⟨rfl,H.below hq,Frame.of_below hq [b]⟩
 ·rw [if_neg h,if_neg h,if_neg h]
  exact rename_ok w a b n T next H C s t hs ht hn hc h
set_option maxRecDepth 100000 in
set_option maxHeartbeats 4000000 in
theorem applyRename_g (w:World) (s a b sm n nb:Nat) (T:TreeF) (next:Int) (S:Int → Option BodyA) (g:Int → Option Value) (H:StateG w s a b sm n nb T next S g) (p t:ByteArray) (hp:p.size ≤ 1000000) (htt:t.size ≤ 1000000)
  (off size:Int) (da:Option Addr) (dn dc:Nat) (hd:dn ≤ 9223372036854775807) (lv:Value) (C:Closed T) (hc:canRenG T p t = 0) (hn:n ≤ 64) (hgone:∀ x,T t = some x → -1 ≤ x.1 ∧ x.1 ≤ 4611686018427387904) :
  Calls Tryz.prog 30 #[.pointer (some ⟨s,0,none⟩),.agg #[.int .i64 5,.string p,.string t,.int .i64 off,.int .i64 size,.slice da dn dc],lv] w fun e w' => e = .returned (.int .i64 0) ∧ ∃ nb' g',nb' ≤ nb ∧ StateG w' s a b sm (ren2N T n p t) nb' (ren2T T p t) next (bset S (goneG T p t) none) g' ∧ Frame [a,b,sm] w w':=by
 have HH:=Lib.hid H
 have hb0:∀ o,Below w.heap.size w (w.alloc o):=fun o => (Below.refl _ _).alloc (Nat.le_refl _) _
 have HC:=Lib.hid (fun w' (hb:Below w.heap.size w w') => (by have:=check_g w' s a b sm n nb T next S g (H.below hb) (by omega) 5 p t hp htt off size da dn dc hd;rw [show checkG T n 5 p t off size dn = 0 by simp [checkG,hc]] at this;exact this))
 have HMK:=Lib.hid (fun w' (hb:Below w.heap.size w w') => rename2_g w' a b n T next (H.tree.below hb) C p t hp htt hn hc)
 have hs0:=heap_lt H.cell
 obtain ⟨es,cl,hob⟩:=H.tree.map.obj
 have hsa:s ≠ a:=heap_type_ne H.cell H.tree.cell (by decide)
 have hsb:s ≠ b:=heap_map_ne H.cell hob
 have hal:=heap_lt H.tree.cell
 have hbl:=heap_lt hob
 obtain ⟨G,hG⟩:∃ G,Hid (G = goneG T p t):=⟨_,Lib.hid rfl⟩
 have hGb:-1 ≤ G ∧ G ≤ 4611686018427387904:=by rw [hG.out];exact goneG_in hgone
 rw [← hG.out] at HMK ⊢
 have hsm:s ≠ sm:=by obtain ⟨es2,cl2,ob2⟩:=H.bodies.map.obj;exact heap_map_ne H.cell ob2
 have hasm:a ≠ sm:=by obtain ⟨es2,cl2,ob2⟩:=H.bodies.map.obj;exact heap_map_ne H.tree.cell ob2
 have h1sm:1 ≠ sm:=H.bodies.map.ne1 H.tree.glob
 have hbsm:=H.ne
 have HOBB:=Lib.hid hob
 clear H hob hc hgone
 go_enter Tryz.func30,Tryz.ntmps30
 go_wp2_with (go_at_call 23;refine (HC.out _ (hb0 _)).mono ?_;rintro e w1 ⟨rfl,hq⟩;have HQ:=Lib.hid ((hb0 (.cells #[.int .i64 5,.string p,.string t,.int .i64 off,.int .i64 size,.slice da dn dc] 35)).trans (hq.mono (hb0 _).size));have HX:=Lib.hid (Below.heap hq (Nat.le_refl _) (heap_new w (.cells #[.int .i64 5,.string p,.string t,.int .i64 off,.int .i64 size,.slice da dn dc] 35)));have x0:w1.cell? ⟨w.heap.size,0,none⟩ = some (.int .i64 5):=cellAt HX.out 0;clear hq)
 have HS1:=Lib.hid (Below.heap HQ.out (Nat.le_refl _) HH.out.cell)
 have HK:Hid (∀ W:World,W.heap[s]? = some (.cells #[.pointer (some ⟨a,0,none⟩),.map (some sm)] 121 (0,0)) → W.heap[w.heap.size]? = some (.cells #[.int .i64 5,.string p,.string t,.int .i64 off,.int .i64 size,.slice da dn dc] 35 (0,0)) → W.cell? ⟨s,0,none⟩ = some (.pointer (some ⟨a,0,none⟩)) ∧ W.cell? ⟨w.heap.size,1,none⟩ = some (.string p) ∧ W.cell? ⟨w.heap.size,2,none⟩ = some (.string t)):=Lib.hid (fun W h1 h2 => ⟨cellAt h1 0,cellAt h2 1,cellAt h2 2⟩)
 go_region_held3 (fun W => W.cell? ⟨s,0,none⟩ = some (.pointer (some ⟨a,0,none⟩)) ∧ W.cell? ⟨w.heap.size,1,none⟩ = some (.string p) ∧ W.cell? ⟨w.heap.size,2,none⟩ = some (.string t)) (first | exact HK.out _ HS1.out HX.out | exact k2) (first | (go_at_call 65;refine (HMK.out _ HQ.out.drew).mono ?_;rintro e w2 ⟨rfl,ht,hf⟩;have HT2:=Lib.hid ht;have HF2:=Lib.hid ((Frame.of_below HQ.out [b]).drew.trans hf (fun x hx => .inl hx));have HS2:=Lib.hid (hf.heap HS1.out (by simp [hsb]));have HX2:=Lib.hid (hf.heap HX.out (by simp;omega));have k2:=HK.out w2 HS2.out HX2.out;have HF:=Lib.hid hf;clear ht hf))
 have HB2:=Lib.hid (HH.out.bodies.frame HF2.out (by simp;exact fun e => hbsm e.symm) (fun k hk arr e => by
  simp at hk
  subst hk
  rw [HOBB.out] at e;cases e))
 have y1:w2.cell? ⟨s,1,none⟩ = some (.map (some sm)):=(cellAt HS2.out 1)
 have y0:=k2.1
 go_wp2_with (at_delete;refine wpx_drop _ rfl _ _ 119 3 rfl KI 100 Tryz.underlying119 sm nb g rfl HB2.out.map G (KI_good (by omega)) rfl ?_;intro w3 hm3 ht3;have HM3:=Lib.hid hm3;have HT3:=Lib.hid ht3;clear hm3 ht3)
 go_ret
 refine ⟨rfl,if (g G).isSome then nb - 1 else nb,fput g G none,?_,⟨turned_keep HT3.out HS2.out hsm,?_,?_,hbsm⟩,(HF2.out.mono (fun x hx => .inl (by simp at hx ⊢;simp [hx]))).turned HT3.out (.inl (by simp))⟩
 ·split <;> omega
 ·exact HT2.out.frame ((Frame.refl [sm] w2).turned HT3.out (.inl (by simp))) (by simpa using hasm) (by simpa using hbsm) (by simpa using h1sm)
 ·exact bodies_drop HB2.out G HM3.out HT3.out
set_option maxRecDepth 100000 in
set_option maxHeartbeats 4000000 in
theorem applyUnlink_g (w:World) (s a b sm n nb:Nat) (T:TreeF) (next:Int) (S:Int → Option BodyA) (g:Int → Option Value) (H:StateG w s a b sm n nb T next S g) (p t:ByteArray) (hp:p.size ≤ 1000000) (htt:t.size ≤ 1000000)
  (off size:Int) (da:Option Addr) (dn dc:Nat) (hd:dn ≤ 9223372036854775807) (lv:Value) (hc:canDropG T p false = 0) (hn:n ≤ 100000) (id:Int) (hT:T p = some (id,false)) (hid:0 ≤ id ∧ id ≤ 4611686018427387904) :
  Calls Tryz.prog 30 #[.pointer (some ⟨s,0,none⟩),.agg #[.int .i64 6,.string p,.string t,.int .i64 off,.int .i64 size,.slice da dn dc],lv] w fun e w' => e = .returned (.int .i64 0) ∧ ∃ nb' g',nb' ≤ nb ∧ StateG w' s a b sm (n - 1) nb' (gset T p none) next (bset S id none) g' ∧ Frame [a,b,sm] w w':=by
 have HH:=Lib.hid H
 have hb0:∀ o,Below w.heap.size w (w.alloc o):=fun o => (Below.refl _ _).alloc (Nat.le_refl _) _
 have HC:=Lib.hid (fun w' (hb:Below w.heap.size w w') => (by have:=check_g w' s a b sm n nb T next S g (H.below hb) hn 6 p t hp htt off size da dn dc hd;rw [show checkG T n 6 p t off size dn = 0 by simp [checkG,hc]] at this;exact this))
 have HMK:=Lib.hid (fun w' (hb:Below w.heap.size w w') => (by have:=drop_ok w' a b n T next (H.tree.below hb) p hp hn false hc;rw [hT] at this;exact this))
 have hs0:=heap_lt H.cell
 obtain ⟨es,cl,hob⟩:=H.tree.map.obj
 have hsa:s ≠ a:=heap_type_ne H.cell H.tree.cell (by decide)
 have hsb:s ≠ b:=heap_map_ne H.cell hob
 have hal:=heap_lt H.tree.cell
 have hbl:=heap_lt hob
 have hsm:s ≠ sm:=by obtain ⟨es2,cl2,ob2⟩:=H.bodies.map.obj;exact heap_map_ne H.cell ob2
 have hasm:a ≠ sm:=by obtain ⟨es2,cl2,ob2⟩:=H.bodies.map.obj;exact heap_map_ne H.tree.cell ob2
 have h1sm:1 ≠ sm:=H.bodies.map.ne1 H.tree.glob
 have hbsm:=H.ne
 have HOBB:=Lib.hid hob
 clear H hT hob hc
 go_enter Tryz.func30,Tryz.ntmps30
 go_wp2_with (go_at_call 23;refine (HC.out _ (hb0 _)).mono ?_;rintro e w1 ⟨rfl,hq⟩;have HQ:=Lib.hid ((hb0 (.cells #[.int .i64 6,.string p,.string t,.int .i64 off,.int .i64 size,.slice da dn dc] 35)).trans (hq.mono (hb0 _).size));have HX:=Lib.hid (Below.heap hq (Nat.le_refl _) (heap_new w (.cells #[.int .i64 6,.string p,.string t,.int .i64 off,.int .i64 size,.slice da dn dc] 35)));have x0:w1.cell? ⟨w.heap.size,0,none⟩ = some (.int .i64 6):=cellAt HX.out 0;clear hq)
 have HS1:=Lib.hid (Below.heap HQ.out (Nat.le_refl _) HH.out.cell)
 have HK:Hid (∀ W:World,W.heap[s]? = some (.cells #[.pointer (some ⟨a,0,none⟩),.map (some sm)] 121 (0,0)) → W.heap[w.heap.size]? = some (.cells #[.int .i64 6,.string p,.string t,.int .i64 off,.int .i64 size,.slice da dn dc] 35 (0,0)) → W.cell? ⟨s,0,none⟩ = some (.pointer (some ⟨a,0,none⟩)) ∧ W.cell? ⟨w.heap.size,0,none⟩ = some (.int .i64 6) ∧ W.cell? ⟨w.heap.size,1,none⟩ = some (.string p)):=Lib.hid (fun W h1 h2 => ⟨cellAt h1 0,cellAt h2 0,cellAt h2 1⟩)
 go_region_held3 (fun W => W.cell? ⟨s,0,none⟩ = some (.pointer (some ⟨a,0,none⟩)) ∧ W.cell? ⟨w.heap.size,0,none⟩ = some (.int .i64 6) ∧ W.cell? ⟨w.heap.size,1,none⟩ = some (.string p)) (first | exact HK.out _ HS1.out HX.out | exact k2) (first | (go_at_call 66;refine (HMK.out _ HQ.out.drew).mono ?_;rintro e w2 ⟨rfl,ht,hf⟩;have HT2:=Lib.hid ht;have HF2:=Lib.hid ((Frame.of_below HQ.out [b]).drew.trans hf (fun x hx => .inl hx));have HS2:=Lib.hid (hf.heap HS1.out (by simp [hsb]));have HX2:=Lib.hid (hf.heap HX.out (by simp;omega));have k2:=HK.out w2 HS2.out HX2.out;have HF:=Lib.hid hf;clear ht hf))
 have HB2:=Lib.hid (HH.out.bodies.frame HF2.out (by simp;exact fun e => hbsm e.symm) (fun k hk arr e => by
  simp at hk
  subst hk
  rw [HOBB.out] at e;cases e))
 have y1:w2.cell? ⟨s,1,none⟩ = some (.map (some sm)):=(cellAt HS2.out 1)
 have y0:=k2.1
 go_wp2_with (at_delete;refine wpx_drop _ rfl _ _ 119 3 rfl KI 100 Tryz.underlying119 sm nb g rfl HB2.out.map id (KI_good (by omega)) rfl ?_;intro w3 hm3 ht3;have HM3:=Lib.hid hm3;have HT3:=Lib.hid ht3;clear hm3 ht3)
 go_ret
 refine ⟨rfl,if (g id).isSome then nb - 1 else nb,fput g id none,?_,⟨turned_keep HT3.out HS2.out hsm,?_,?_,hbsm⟩,(HF2.out.mono (fun x hx => .inl (by simp at hx ⊢;simp [hx]))).turned HT3.out (.inl (by simp))⟩
 ·split <;> omega
 ·exact HT2.out.frame ((Frame.refl [sm] w2).turned HT3.out (.inl (by simp))) (by simpa using hasm) (by simpa using hbsm) (by simpa using h1sm)
 ·exact bodies_drop HB2.out id HM3.out HT3.out
set_option maxRecDepth 100000 in
set_option maxHeartbeats 4000000 in
theorem applyRmdir_g (w:World) (s a b sm n nb:Nat) (T:TreeF) (next:Int) (S:Int → Option BodyA) (g:Int → Option Value) (H:StateG w s a b sm n nb T next S g) (p t:ByteArray) (hp:p.size ≤ 1000000) (htt:t.size ≤ 1000000)
  (off size:Int) (da:Option Addr) (dn dc:Nat) (hd:dn ≤ 9223372036854775807) (lv:Value) (hc:canDropG T p true = 0) (hn:n ≤ 100000) (id:Int) (hT:T p = some (id,true)) (hid:0 ≤ id ∧ id ≤ 4611686018427387904) :
  Calls Tryz.prog 30 #[.pointer (some ⟨s,0,none⟩),.agg #[.int .i64 7,.string p,.string t,.int .i64 off,.int .i64 size,.slice da dn dc],lv] w fun e w' => e = .returned (.int .i64 0) ∧ ∃ nb' g',nb' ≤ nb ∧ StateG w' s a b sm (n - 1) nb' (gset T p none) next (bset S id none) g' ∧ Frame [a,b,sm] w w':=by
 have HH:=Lib.hid H
 have hb0:∀ o,Below w.heap.size w (w.alloc o):=fun o => (Below.refl _ _).alloc (Nat.le_refl _) _
 have HC:=Lib.hid (fun w' (hb:Below w.heap.size w w') => (by have:=check_g w' s a b sm n nb T next S g (H.below hb) hn 7 p t hp htt off size da dn dc hd;rw [show checkG T n 7 p t off size dn = 0 by simp [checkG,hc]] at this;exact this))
 have HMK:=Lib.hid (fun w' (hb:Below w.heap.size w w') => (by have:=drop_ok w' a b n T next (H.tree.below hb) p hp hn true hc;rw [hT] at this;exact this))
 have hs0:=heap_lt H.cell
 obtain ⟨es,cl,hob⟩:=H.tree.map.obj
 have hsa:s ≠ a:=heap_type_ne H.cell H.tree.cell (by decide)
 have hsb:s ≠ b:=heap_map_ne H.cell hob
 have hal:=heap_lt H.tree.cell
 have hbl:=heap_lt hob
 have hsm:s ≠ sm:=by obtain ⟨es2,cl2,ob2⟩:=H.bodies.map.obj;exact heap_map_ne H.cell ob2
 have hasm:a ≠ sm:=by obtain ⟨es2,cl2,ob2⟩:=H.bodies.map.obj;exact heap_map_ne H.tree.cell ob2
 have h1sm:1 ≠ sm:=H.bodies.map.ne1 H.tree.glob
 have hbsm:=H.ne
 have HOBB:=Lib.hid hob
 clear H hT hob hc
 go_enter Tryz.func30,Tryz.ntmps30
 go_wp2_with (go_at_call 23;refine (HC.out _ (hb0 _)).mono ?_;rintro e w1 ⟨rfl,hq⟩;have HQ:=Lib.hid ((hb0 (.cells #[.int .i64 7,.string p,.string t,.int .i64 off,.int .i64 size,.slice da dn dc] 35)).trans (hq.mono (hb0 _).size));have HX:=Lib.hid (Below.heap hq (Nat.le_refl _) (heap_new w (.cells #[.int .i64 7,.string p,.string t,.int .i64 off,.int .i64 size,.slice da dn dc] 35)));have x0:w1.cell? ⟨w.heap.size,0,none⟩ = some (.int .i64 7):=cellAt HX.out 0;clear hq)
 have HS1:=Lib.hid (Below.heap HQ.out (Nat.le_refl _) HH.out.cell)
 have HK:Hid (∀ W:World,W.heap[s]? = some (.cells #[.pointer (some ⟨a,0,none⟩),.map (some sm)] 121 (0,0)) → W.heap[w.heap.size]? = some (.cells #[.int .i64 7,.string p,.string t,.int .i64 off,.int .i64 size,.slice da dn dc] 35 (0,0)) → W.cell? ⟨s,0,none⟩ = some (.pointer (some ⟨a,0,none⟩)) ∧ W.cell? ⟨w.heap.size,0,none⟩ = some (.int .i64 7) ∧ W.cell? ⟨w.heap.size,1,none⟩ = some (.string p)):=Lib.hid (fun W h1 h2 => ⟨cellAt h1 0,cellAt h2 0,cellAt h2 1⟩)
 go_region_held3 (fun W => W.cell? ⟨s,0,none⟩ = some (.pointer (some ⟨a,0,none⟩)) ∧ W.cell? ⟨w.heap.size,0,none⟩ = some (.int .i64 7) ∧ W.cell? ⟨w.heap.size,1,none⟩ = some (.string p)) (first | exact HK.out _ HS1.out HX.out | exact k2) (first | (go_at_call 66;refine (HMK.out _ HQ.out.drew).mono ?_;rintro e w2 ⟨rfl,ht,hf⟩;have HT2:=Lib.hid ht;have HF2:=Lib.hid ((Frame.of_below HQ.out [b]).drew.trans hf (fun x hx => .inl hx));have HS2:=Lib.hid (hf.heap HS1.out (by simp [hsb]));have HX2:=Lib.hid (hf.heap HX.out (by simp;omega));have k2:=HK.out w2 HS2.out HX2.out;have HF:=Lib.hid hf;clear ht hf))
 have HB2:=Lib.hid (HH.out.bodies.frame HF2.out (by simp;exact fun e => hbsm e.symm) (fun k hk arr e => by
  simp at hk
  subst hk
  rw [HOBB.out] at e;cases e))
 have y1:w2.cell? ⟨s,1,none⟩ = some (.map (some sm)):=(cellAt HS2.out 1)
 have y0:=k2.1
 go_wp2_with (at_delete;refine wpx_drop _ rfl _ _ 119 3 rfl KI 100 Tryz.underlying119 sm nb g rfl HB2.out.map id (KI_good (by omega)) rfl ?_;intro w3 hm3 ht3;have HM3:=Lib.hid hm3;have HT3:=Lib.hid ht3;clear hm3 ht3)
 go_ret
 refine ⟨rfl,if (g id).isSome then nb - 1 else nb,fput g id none,?_,⟨turned_keep HT3.out HS2.out hsm,?_,?_,hbsm⟩,(HF2.out.mono (fun x hx => .inl (by simp at hx ⊢;simp [hx]))).turned HT3.out (.inl (by simp))⟩
 ·split <;> omega
 ·exact HT2.out.frame ((Frame.refl [sm] w2).turned HT3.out (.inl (by simp))) (by simpa using hasm) (by simpa using hbsm) (by simpa using h1sm)
 ·exact bodies_drop HB2.out id HM3.out HT3.out
end Go.Proofs.YtaonlcgneemimaaGreatDoor
