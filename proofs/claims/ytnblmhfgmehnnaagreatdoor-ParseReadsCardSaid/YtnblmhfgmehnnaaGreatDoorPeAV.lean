/- Several texts as one. -/
import Derived.Test.YtnblmhfgmehnnaaGreatDoorPeMv
import Derived.Test.YtnblmhfgmehnnaaGreatDoorPeAU
import Derived.Test.YtnblmhfgmehnnaaGreatDoorPeAC
import Derived.Test.YtnblmhfgmehnnaaGreatDoorPeAT
set_option maxRecDepth 100000
set_option maxHeartbeats 16000000
namespace Go.Proofs.YtnblmhfgmehnnaaGreatDoor
open Go.RowKit Go.Lib
attribute [local go_sem ↓] Go.wp_at_zero Go.wp_at_succ
theorem Nd.ind {C:Nd->Prop} (h:∀ x:Nd,(∀ y ∈ x.body,C y)->(∀ y ∈ x.els,C y)->C x):∀ x,C x:=by
 intro x
 refine Nd.rec (motive_1:=C) (motive_2:=fun l=>∀ y ∈ l,C y) ?_ ?_ ?_ x
 ·exact fun k t ex ky nm bo el hb he=>h (.mk k t ex ky nm bo el) hb he
 ·simp
 ·intro a l ha hl y hy
  rcases List.mem_cons.1 hy with rfl | hy
  ·exact ha
  ·exact hl y hy
theorem Nd.lists {P:List Nd->Prop} (h:∀ l,(∀ x ∈ l,P x.body/\P x.els)->P l) (l:List Nd):P l:=
 h l (fun x _=>Nd.ind (C:=fun x=>P x.body/\P x.els) (fun x hb he=>⟨h x.body hb,h x.els he⟩) x)
theorem right_zero (d:Nat):RightX d Ex.zero:=
 .mk _ _ ⟨.inl rfl,fun s hs=>absurd hs (by simp [Ex.zero,Ex.steps]),fun _=>⟨.inl rfl,rfl,rfl,rfl⟩,fun h=>absurd rfl h,fun h=>absurd (show (0:Int)=1 from h) (by decide),fun h=>absurd (show (0:Int)=2 from h) (by decide),fun h=>absurd (show (0:Int)=3 from h) (by decide)⟩ (.inl rfl) (fun y hy=>absurd hy (by simp [Ex.zero,Ex.args]))
theorem SoundN.right {d:Nat} {top:Prop} {x:Nd} (h:SoundN d top x):RightX 6 x.x:=by
 have ho:=h.own
 by_cases h0:x.kind=0
 ·rw [(ho.txt h0).2.2.1];exact right_zero 6
 ·by_cases h6:x.kind=6
  ·rw [(ho.define h6).2.2];exact right_zero 6
  ·exact (ho.expr h0 h6).1
def wtNo (x:Nd):Nat:=1+x.text.size+x.name.size+x.key.size+wtX 6 x.x
def wtN:Nat->Nd->Nat
 | 0,x=>wtNo x
 | d+1,x=>wtNo x+(x.body.map (wtN d)).sum+(x.els.map (wtN d)).sum
theorem wtN_step {d:Nat} {top:Prop} {x:Nd} (h:SoundN d top x):wtN d x=wtNo x+(x.body.map (wtN (d - 1))).sum+(x.els.map (wtN (d - 1))).sum:=by
 cases d with
 | zero=>
  obtain ⟨h1,h2⟩:=h.deep.resolve_right (Nat.lt_irrefl _);rw [wtN,h1,h2];rfl
 | succ d=>rw [wtN,Nat.add_sub_cancel]
def wB:Nat->Int
 | 0=>72057594037927936
 | d+1=>2*wB d+72057594037927936
theorem wB_low:∀ d,72057594037927936<=wB d
 | 0=>Int.le_refl _
 | d+1=>by have:=wB_low d;rw [wB];omega
theorem wB_top {d:Nat} (h:d<=5):wB d<=4539628424389459968:=by
 have:d=0\/d=1\/d=2\/d=3\/d=4\/d=5:=by omega
 rcases this with rfl | rfl | rfl | rfl | rfl | rfl <;>simp [wB]
def WgC (l:List Nd) (h:Int):Prop:=(l=[]->0<=h/\h<=1048576)/\∀ (d:Nat) (top:Prop),d<=5->(∀ x ∈ l,SoundN d top x)->0<=h/\h<=wB d/\(h<=4000->(((l.map (wtN d)).sum:Nat):Int)<=h)
def WgA (l:List Nd) (q:Nat) (h:Int):Prop:=i64ok h/\(l=[]->h=0)/\∀ (d:Nat) (top:Prop),d<=5->(∀ x ∈ l,SoundN d top x)->0<=h/\h<=4000/\(((l.take q).map (wtN d)).sum:Int)<=h
def WeightI (l:List Nd) (W:World) (e:Ending) (w':World):Prop:=∃ h:Int,i64ok h/\e=.returned (.int .i64 h)/\Below W.heap.size W w'/\WgC l h
def wgStep (x:Nd) (h hx hb he:Int):Int:=wrap64 (h+wrap64 (wrap64 (wrap64 (wrap64 (wrap64 (wrap64 (1+(x.text.size:Int))+(x.name.size:Int))+(x.key.size:Int))+hx)+hb)+he))
theorem wrap_chain {h t n k hx hb he:Int} (h0:0<=h) (h1:h<=4000) (t0:0<=t) (t1:t<=140737488351232) (n0:0<=n) (n1:n<=140737488351232) (k0:0<=k) (k1:k<=140737488351232) (x0:0<=hx) (x1:hx<=63050394783186944) (b0:0<=hb) (e0:0<=he) (s:hb+he<=4539628424391557120):
  wrap64 (h+wrap64 (wrap64 (wrap64 (wrap64 (wrap64 (wrap64 (1+t)+n)+k)+hx)+hb)+he))=h+(1+t+n+k+hx+hb+he):=by
 rw [fit64 (z:=1+t) (by omega) (by omega),fit64 (z:=1+t+n) (by omega) (by omega),fit64 (z:=1+t+n+k) (by omega) (by omega),fit64 (z:=1+t+n+k+hx) (by omega) (by omega),fit64 (z:=1+t+n+k+hx+hb) (by omega) (by omega),fit64 (z:=1+t+n+k+hx+hb+he) (by omega) (by omega),fit64 (by omega) (by omega)]
theorem wg_sum {x:Nd} {d:Nat} {top:Prop} {h hx hb he:Int} (hd:d<=5) (hs:SoundN d top x) (zt:x.text.size<=140737488351232) (zn:x.name.size<=140737488351232) (zk:x.key.size<=140737488351232) (h0:0<=h) (h1:h<=4000) (cx:HvC x.x hx) (cb:WgC x.body hb) (ce:WgC x.els he):
  wgStep x h hx hb he=h+(1+(x.text.size:Int)+(x.name.size:Int)+(x.key.size:Int)+hx+hb+he)/\h<=wgStep x h hx hb he/\wgStep x h hx hb he<=wB d/\(wgStep x h hx hb he<=4000->h+(wtN d x:Int)<=wgStep x h hx hb he):=by
 obtain ⟨x1,x2,x3⟩:=cx 6 (by omega) hs.right;have hlow:=wB_low d;have htop:=wB_top hd
 have bb:0<=hb/\0<=he/\hb+he+72057594037927936<=wB d+2097152/\(hb<=4000->(((x.body.map (wtN (d - 1))).sum:Nat):Int)<=hb)/\(he<=4000->(((x.els.map (wtN (d - 1))).sum:Nat):Int)<=he):=by
  cases d with
  | zero=>
   obtain ⟨e1,e2⟩:=hs.deep.resolve_right (Nat.lt_irrefl _);obtain ⟨c1,c2⟩:=cb.1 e1;obtain ⟨d1,d2⟩:=ce.1 e2
   refine ⟨c1,d1,by omega,fun _=>by rw [e1];simpa using c1,fun _=>by rw [e2];simpa using d1⟩
  | succ d=>
   obtain ⟨c1,c2,c3⟩:=cb.2 d False (by omega) hs.body;obtain ⟨d1,d2,d3⟩:=ce.2 d False (by omega) hs.els
   exact ⟨c1,d1,by rw [wB];omega,c3,d3⟩
 obtain ⟨b1,b2,b3,b4,b5⟩:=bb;have e:wgStep x h hx hb he=h+(1+(x.text.size:Int)+(x.name.size:Int)+(x.key.size:Int)+hx+hb+he):=wrap_chain h0 h1 (by omega) (by omega) (by omega) (by omega) (by omega) (by omega) x1 (by omega) b1 b2 (by omega)
 refine ⟨e,by omega,by omega,fun hc=>?_⟩
 have w1:=wtN_step hs;have w2:=x3 (by omega);have w3:=b4 (by omega);have w4:=b5 (by omega);have w5:wtNo x=1+x.text.size+x.name.size+x.key.size+wtX 6 x.x:=rfl
 omega
theorem wga_zero (l:List Nd):WgA l 0 0:=⟨by unfold i64ok;omega,fun _=>rfl,fun _ _ _ _=>⟨Int.le_refl _,by omega,by simp⟩⟩
section
variable {l:List Nd} {q:Nat} {h hx hb he:Int} (hq:q < l.length) (zt:l[q].text.size<=140737488351232) (zn:l[q].name.size<=140737488351232) (zk:l[q].key.size<=140737488351232) (hA:WgA l q h) (cx:HvC l[q].x hx) (cb:WgC l[q].body hb) (ce:WgC l[q].els he)
include hq zt zn zk hA cx cb ce
theorem wga_next (hn:¬ 4000 < wgStep l[q] h hx hb he):WgA l (q+1) (wgStep l[q] h hx hb he):=by
 refine ⟨wrap_ok _,fun e=>absurd hq (by rw [e];simp),fun d top hd hs=>?_⟩
 obtain ⟨a1,a2,a3⟩:=hA.2.2 d top hd hs;obtain ⟨s1,s2,s3,s4⟩:=wg_sum hd (hs _ (List.getElem_mem hq)) zt zn zk a1 a2 cx cb ce
 have e:l.take (q+1)=l.take q++[l[q]]:=by rw [List.take_succ_eq_append_getElem hq]
 have s5:=s4 (by omega);rw [e,List.map_append,List.sum_append,List.map_cons,List.map_nil,List.sum_cons,List.sum_nil]
 exact ⟨by omega,by omega,by omega⟩
theorem wga_big (hn:4000 < wgStep l[q] h hx hb he):WgC l (wgStep l[q] h hx hb he):=by
 refine ⟨fun e=>absurd hq (by rw [e];simp),fun d top hd hs=>?_⟩
 obtain ⟨a1,a2,a3⟩:=hA.2.2 d top hd hs;obtain ⟨s1,s2,s3,s4⟩:=wg_sum hd (hs _ (List.getElem_mem hq)) zt zn zk a1 a2 cx cb ce
 exact ⟨by omega,s3,fun hc=>by omega⟩
end
theorem wga_end {l:List Nd} {h:Int} (hA:WgA l l.length h):WgC l h:=by
 refine ⟨fun e=>by rw [hA.2.1 e];exact ⟨by omega,by omega⟩,fun d top hd hs=>?_⟩
 obtain ⟨a1,a2,a3⟩:=hA.2.2 d top hd hs
 have:=wB_low d
 rw [List.take_of_length_le (Nat.le_refl _)] at a3
 exact ⟨a1,by omega,fun _=>a3⟩
def WeightR (l:List Nd):Prop:=∀ (w:World) (S:Nat->Prop) (a:OA_) (c:Nat) (W:World) (deep:Int),RepNs w S a l->Room l.length c 264->Below w.heap.size w W->0<=deep->deep<=21->Calls Tryz.prog 24 #[.slice a l.length c,.int .i64 deep] W (WeightI l W)
theorem tweight (l:List Nd):WeightR l:=by
 refine Nd.lists ?_ l
 intro l hP w S a c W deep hx hroom hW hd0 hd1;have HP:=h_ hP;have HX:=h_ hx;have HW:=h_ hW;have hn1:=hroom.2.2;clear hP hx hW
 by_cases hdeep:20 < deep
 ·go_enter Tryz.func24,Tryz.ntmps24
  go_wp2_with fail;go_ret
  exact ⟨1048576,by unfold i64ok;omega,rfl,Below.refl _ _,fun _=>⟨by omega,by omega⟩,fun d top hd _=>⟨by omega,by have:=wB_low d;omega,fun h=>by omega⟩⟩
 ·have hdp:deep<=20:=by omega
  go_enter Tryz.func24,Tryz.ntmps24
  go_wp2_with fail
  go_loopw [5,12] (fun x5 x wr=>∃ (q:Nat) (h:Int),q<=l.length/\x=.int .i64 q/\x5=.int .i64 h/\Hid (WgA l q h)/\Hid (Below W.heap.size W wr)) (fun _ x _=>l.length - (Lib.intOf x).toNat)
  case atStart=>exact ⟨0,0,Nat.zero_le _,rfl,rfl,h_ (wga_zero l),h_ (Below.refl _ _)⟩
  case round=>
   obtain ⟨q,h,hq,rfl,rfl,HH,HB⟩:=hrel
   by_cases hlt:q < l.length
   ·obtain ⟨b,bo,cs,rfl,hSb,hcell,hry⟩:=HX.out q hlt
    have hpq:=HP.out l[q] (List.getElem_mem hlt);obtain ⟨y,hy⟩:∃ z,z=l[q]:=⟨_,rfl⟩;rw [<-hy] at hry hpq;obtain ⟨la,lc,ma,mc,sa,sc,aa,ac,ba,bc,ea,ec,rfl,hp⟩:=hry.inv;have hlt0:b < w.heap.size:=hcell.lt;have HWR:=h_ (show Below w.heap.size w wr from HW.out.trans (HB.out.mono HW.out.size))
    have hcw:cellsAt wr b (bo+q*16) [.int .i64 y.kind,.string y.text,.int .i64 y.x.kind,.int .i64 y.x.val.kind,.bool y.x.val.bool,.int .i64 y.x.val.int,.string y.x.val.str,.slice la y.x.val.list.length lc,.slice ma y.x.val.map.length mc,.string y.x.name,.slice sa y.x.steps.length sc,.slice aa y.x.args.length ac,.string y.key,.string y.name,.slice ba y.body.length bc,.slice ea y.els.length ec]:=hcell.keep fun i=>HWR.out.cell (p:=⟨b,i,none⟩) hlt0
    have c0:wr.cell? ⟨b,bo+q*16,none⟩=some (.int .i64 y.kind):=hcw 0 _ rfl;have c1:wr.cell? ⟨b,bo+q*16+1,none⟩=some (.string y.text):=hcw 1 _ rfl;have c2:wr.cell? ⟨b,bo+q*16+2,none⟩=some (.int .i64 y.x.kind):=hcw 2 _ rfl;have c3:wr.cell? ⟨b,bo+q*16+3,none⟩=some (.int .i64 y.x.val.kind):=hcw 3 _ rfl;have c4:wr.cell? ⟨b,bo+q*16+4,none⟩=some (.bool y.x.val.bool):=hcw 4 _ rfl;have c5:wr.cell? ⟨b,bo+q*16+5,none⟩=some (.int .i64 y.x.val.int):=hcw 5 _ rfl;have c6:wr.cell? ⟨b,bo+q*16+6,none⟩=some (.string y.x.val.str):=hcw 6 _ rfl;have c7:wr.cell? ⟨b,bo+q*16+7,none⟩=some (.slice la y.x.val.list.length lc):=hcw 7 _ rfl;have c8:wr.cell? ⟨b,bo+q*16+8,none⟩=some (.slice ma y.x.val.map.length mc):=hcw 8 _ rfl;have c9:wr.cell? ⟨b,bo+q*16+9,none⟩=some (.string y.x.name):=hcw 9 _ rfl;have c10:wr.cell? ⟨b,bo+q*16+10,none⟩=some (.slice sa y.x.steps.length sc):=hcw 10 _ rfl;have c11:wr.cell? ⟨b,bo+q*16+11,none⟩=some (.slice aa y.x.args.length ac):=hcw 11 _ rfl;have c12:wr.cell? ⟨b,bo+q*16+12,none⟩=some (.string y.key):=hcw 12 _ rfl;have c13:wr.cell? ⟨b,bo+q*16+13,none⟩=some (.string y.name):=hcw 13 _ rfl;have c14:wr.cell? ⟨b,bo+q*16+14,none⟩=some (.slice ba y.body.length bc):=hcw 14 _ rfl;have c15:wr.cell? ⟨b,bo+q*16+15,none⟩=some (.slice ea y.els.length ec):=hcw 15 _ rfl;have hlb:b < wr.heap.size:=Nat.lt_of_lt_of_le hlt0 HWR.out.size
    have hg0:(0:Int)<=(q:Int):=by omega
    have hg1:(q:Int) < (l.length:Int):=by omega
    have hwk:IntKind.i64.wrap ((q:Int)+1)=(q:Int)+1:=wrap_fit (by omega) (by omega);have hwd:IntKind.i64.wrap (deep+1)=deep+1:=wrap_fit (by omega) (by omega);have CB:=h_ (fun (W2:World) (hb:Below w.heap.size w W2)=>hpq.1 w S ba bc W2 (deep+1) hp.body hp.broom hb (by omega) (by omega));have CE:=h_ (fun (W2:World) (hb:Below w.heap.size w W2)=>hpq.2 w S ea ec W2 (deep+1) hp.els hp.eroom hb (by omega) (by omega));have CX:=h_ (fun (W2:World) (hb:Below w.heap.size w W2)=>theavy hp.x W2 0 hb (by omega) (by omega));have HZ:=h_ (⟨hp.text,hp.name,hp.key⟩:y.text.size<=140737488351232/\y.name.size<=140737488351232/\y.key.size<=140737488351232);have HY:=h_ hy;have HBA:=h_ (HB.out.alloc HB.out.size (.cells #[.int .i64 y.kind,.string y.text,.int .i64 y.x.kind,.int .i64 y.x.val.kind,.bool y.x.val.bool,.int .i64 y.x.val.int,.string y.x.val.str,.slice la y.x.val.list.length lc,.slice ma y.x.val.map.length mc,.string y.x.name,.slice sa y.x.steps.length sc,.slice aa y.x.args.length ac,.string y.key,.string y.name,.slice ba y.body.length bc,.slice ea y.els.length ec] 70));have HWA:=h_ (HWR.out.alloc HWR.out.size (.cells #[.int .i64 y.kind,.string y.text,.int .i64 y.x.kind,.int .i64 y.x.val.kind,.bool y.x.val.bool,.int .i64 y.x.val.int,.string y.x.val.str,.slice la y.x.val.list.length lc,.slice ma y.x.val.map.length mc,.string y.x.name,.slice sa y.x.steps.length sc,.slice aa y.x.args.length ac,.string y.key,.string y.name,.slice ba y.body.length bc,.slice ea y.els.length ec] 70));have H7:=h_ (Blk.new wr 70 #[.int .i64 y.kind,.string y.text,.int .i64 y.x.kind,.int .i64 y.x.val.kind,.bool y.x.val.bool,.int .i64 y.x.val.int,.string y.x.val.str,.slice la y.x.val.list.length lc,.slice ma y.x.val.map.length mc,.string y.x.name,.slice sa y.x.steps.length sc,.slice aa y.x.args.length ac,.string y.key,.string y.name,.slice ba y.body.length bc,.slice ea y.els.length ec]);clear hcell hcw hry hp hpq hy hSb;go_upto_region 7 with fail;obtain ⟨WA,eA⟩:∃ z,z=wr.alloc (.cells #[.int .i64 y.kind,.string y.text,.int .i64 y.x.kind,.int .i64 y.x.val.kind,.bool y.x.val.bool,.int .i64 y.x.val.int,.string y.x.val.str,.slice la y.x.val.list.length lc,.slice ma y.x.val.map.length mc,.string y.x.name,.slice sa y.x.steps.length sc,.slice aa y.x.args.length ac,.string y.key,.string y.name,.slice ba y.body.length bc,.slice ea y.els.length ec] 70):=⟨_,rfl⟩;obtain ⟨n7,e7⟩:∃ z,z=wr.heap.size:=⟨_,rfl⟩;rw [<-eA] at HBA HWA H7;rw [<-e7] at H7;rw [<-eA,<-e7];clear eA e7 c0 c1 c2 c3 c4 c5 c6 c7 c8 c9 c10 c11 c12 c13 c14 c15;have l7:=H7.out.lt
    refine wp_region_held_drew (S:=(fun w'=>∀ i,w'.cell? ⟨n7,i,none⟩=(#[.int .i64 y.kind,.string y.text,.int .i64 y.x.kind,.int .i64 y.x.val.kind,.bool y.x.val.bool,.int .i64 y.x.val.int,.string y.x.val.str,.slice la y.x.val.list.length lc,.slice ma y.x.val.map.length mc,.string y.x.name,.slice sa y.x.steps.length sc,.slice aa y.x.args.length ac,.string y.key,.string y.name,.slice ba y.body.length bc,.slice ea y.els.length ec]:Array Value)[i]?)) (by kernel_rfl) (by exact (H7.out.keep (Below.refl _ _).drew).cell) (fun hHeld=>?_)
    refine mv_ 0 ?_
    refine mv_ 1 ?_
    refine mv_ 2 ?_
    refine mv_ 3 ?_
    refine mv_ 4 ?_
    refine mv_ 5 ?_
    refine mv_ 6 ?_
    refine mv_ 7 ?_
    refine mv_ 8 ?_
    refine mv_ 9 ?_
    refine mv_ 10 ?_
    refine mv_ 11 ?_
    refine mv_ 12 ?_
    refine mv_ 13 ?_
    refine mv_ 14 ?_
    refine mv_ 17 ?_
    refine mv_ 18 ?_
    refine mv_ 19 ?_
    refine mv_ 20 ?_
    refine mv_ 23 ?_
    refine mv_ 24 ?_
    refine mv_ 25 ?_
    refine mv_ 26 ?_
    refine mr_ 15 (fun K hK=>?_)
    go_simp
    refine (CX.out _ HWA.out.drew).mono ?_
    rintro e w15 ⟨hv,hio15,rfl,hb15,hc15⟩;have HB1:=h_ (Below.next (Below.refl WA.heap.size WA).drew hb15);have HChv:=h_ hc15;clear hb15 hc15 hio15;go_wp2_with fail
    refine hK.out _ _ (by exact (H7.out.keep HB1.out).cell) (fun hHeld=>?_)
    clear hK K
    try simp only [Act.put,pA_,pB_,pC_]
    refine mv_ 16 ?_
    refine mr_ 21 (fun K hK=>?_)
    go_simp
    refine (CB.out _ (HWA.out.trans (HB1.out.mono HWA.out.size))).mono ?_
    rintro e w21 ⟨hb,hio21,rfl,hb21,hc21⟩;have HB2:=h_ (Below.next HB1.out hb21);have HChb:=h_ hc21;clear hb21 hc21 hio21;go_wp2_with fail
    refine hK.out _ _ (by exact (H7.out.keep HB2.out).cell) (fun hHeld=>?_)
    clear hK K
    try simp only [Act.put,pA_,pB_,pC_]
    refine mv_ 22 ?_
    refine mr_ 27 (fun K hK=>?_)
    go_simp
    refine (CE.out _ (HWA.out.trans (HB2.out.mono HWA.out.size))).mono ?_
    rintro e w27 ⟨he,hio27,rfl,hb27,hc27⟩;have HB3:=h_ (Below.next HB2.out hb27);have HChe:=h_ hc27;clear hb27 hc27 hio27;go_wp2_with fail
    refine hK.out _ _ (by exact (H7.out.keep HB3.out).cell) (fun hHeld=>?_)
    clear hK K
    try simp only [Act.put,pA_,pB_,pC_]
    refine mv_ 28 ?_
    refine mv_ 29 ?_
    refine mv_ 30 ?_
    refine wpAnyH_done (by kernel_rfl) ?_ _
    have HF:=h_ (Below.next HBA.out HB3.out);have HNB:=h_ (fun hn=>wga_big hlt (by rw [<-HY.out];exact HZ.out.1) (by rw [<-HY.out];exact HZ.out.2.1) (by rw [<-HY.out];exact HZ.out.2.2) HH.out (by rw [<-HY.out];exact HChv.out) (by rw [<-HY.out];exact HChb.out) (by rw [<-HY.out];exact HChe.out) hn);have HNN:=h_ (fun hn=>wga_next hlt (by rw [<-HY.out];exact HZ.out.1) (by rw [<-HY.out];exact HZ.out.2.1) (by rw [<-HY.out];exact HZ.out.2.2) HH.out (by rw [<-HY.out];exact HChv.out) (by rw [<-HY.out];exact HChb.out) (by rw [<-HY.out];exact HChe.out) hn);rw [<-HY.out] at HNB HNN;unfold wgStep at HNB HNN
    by_cases hbig:4000 < wrap64 (h+wrap64 (wrap64 (wrap64 (wrap64 (wrap64 (wrap64 (1+(y.text.size:Int))+(y.name.size:Int))+(y.key.size:Int))+hv)+hb)+he))
    ·have hh:=HNB.out hbig
     have ho:=wrap_ok (h+wrap64 (wrap64 (wrap64 (wrap64 (wrap64 (wrap64 (1+(y.text.size:Int))+(y.name.size:Int))+(y.key.size:Int))+hv)+hb)+he))
     simp only [<-Go.IntWalk.i64_left] at hh ho
     have HH2:=h_ hh;have HO2:=h_ ho;clear hh ho;go_wp2_with fail;go_ret
     exact ⟨_,HO2.out,rfl,HF.out,HH2.out⟩
    ·have hh:=HNN.out hbig
     simp only [<-Go.IntWalk.i64_left] at hh
     have HN:=h_ hh;clear hh;go_wp2_with fail
     go_roundw
     case rel=>exact ⟨q+1,_,by omega,by go_num,rfl,HN,HF⟩
     case measure=>simp [Lib.intOf];omega
   ·obtain rfl:q=l.length:=by omega
    clear hlt;go_wp2_with fail;go_ret
    exact ⟨h,HH.out.1,rfl,HB.out,wga_end HH.out⟩
end Go.Proofs.YtnblmhfgmehnnaaGreatDoor
namespace Go.Proofs.YtnblmhfgmehnnaaGreatDoor
theorem flatP_app (l m:List Pc):flatP (l++m)=flatP l++flatP m:=List.flatMap_append
theorem pad_len (L:LB_) (a:Nat):(pads.getD (pickW L a 4).1 [32]).length<=2:=by
 have h:=pickW_lt L a (n:=4) (by omega)
 have key:∀ k,k < 4->(pads.getD k [32]).length<=2:=by decide
 exact key _ h
theorem act_flat (L b:LB_) (a:Nat):flatP (actW L b a).1=123::123::(pads.getD (pickW L a 4).1 [32]++(b++(pads.getD (pickW L a 4).1 [32]++125::125::(if (pickW L (pickW L a 4).2 3).1=2 then 123::123::(comB++[125,125]) else [])))):=by
 unfold actW
 simp only
 split <;>simp [flatP,Pc.flat]
theorem act_len (L b:LB_) (a:Nat):(flatP (actW L b a).1).length<=b.length+19/\(actW L b a).2<=a+2:=by
 rw [act_flat];have h1:=pad_len L a;have h2:=pick_next L a 4;have h3:=pick_next L (pickW L a 4).2 3
 refine ⟨?_,by unfold actW;simp only;omega⟩
 have h4:(if (pickW L (pickW L a 4).2 3).1=2 then 123::123::(comB++[125,125]) else ([]:LB_)).length<=11:=by split <;>decide
 simp only [List.length_cons,List.length_append]
 omega
theorem let_len (L:LB_) (nm:LB_) (a:Nat):(letW L nm a).1.length<=nm.length+7/\(letW L nm a).2<=a+2:=by
 have h1:=gap_len L a;have h2:=gap_len L (gapW L a).2;unfold letW
 simp only [List.length_cons,List.length_append]
 omega
theorem mid_len (L:LB_) (x:Nd) (a:Nat):(midW L x a).1.length<=x.key.size+x.name.size+13/\(midW L x a).2<=a+4:=by
 have h1:=gap_len L a;have h2:=gap_len L (gapW L a).2;have h3:=let_len L x.name.data.toList (gapW L (gapW L a).2).2;have h4:=let_len L x.name.data.toList (gapW L a).2;rw [<-size_list] at h3 h4;have h5:=size_list x.key;unfold midW
 split
 ·split
  ·simp only [List.length_cons,List.length_append]
   omega
  ·split
   ·simp only [List.length_append]
    omega
   ·omega
 ·omega
theorem kw_len (k:Int):(kwW k).length<=5:=by
 unfold kwW
 split
 ·decide
 ·split <;>decide
theorem wtX_pos {d:Nat} (x:Ex):1<=wtX d x:=by
 cases d <;>(unfold wtX wtO;omega)
theorem head_len (L:LB_) {x:Nd} (a:Nat) (hx:RightX 6 x.x):(headW L x a).1.length<=x.key.size+x.name.size+6+40*wtX 6 x.x/\(headW L x a).2<=a+2+6*wtX 6 x.x:=by
 have h1:=mid_len L x a;have h2:=pip_len L 7 6 x.x (midW L x a).2 hx (by omega);have h3:=kw_len x.kind;unfold headW
 simp only [List.length_append]
 omega
theorem set_len (L:LB_) {x:Nd} (a:Nat) (hx:RightX 6 x.x):(setW L x a).1.length<=x.name.size+40*wtX 6 x.x/\(setW L x a).2<=a+6*wtX 6 x.x:=by
 have h1:=let_len L x.name.data.toList a;have h2:=pip_len L 7 6 x.x (letW L x.name.data.toList a).2 hx (by omega);rw [<-size_list] at h1;unfold setW
 simp only [List.length_append]
 omega
theorem def_len (L:LB_) (x:Nd) (a:Nat):(defW L x a).1.length<=10+10*x.name.size/\(defW L x a).2<=a+1:=by
 have h1:=gap_len L a;have h2:=escL_len x.name.data.toList;have h3:=size_list x.name;have h4:defineW.length=6:=rfl;unfold defW quoteL
 simp only [List.length_append,List.length_cons,List.length_nil]
 omega
def LenB (f:Nat->List Pc × Nat) (n k:Nat):Prop:=∀ a,(flatP (f a).1).length<=n/\(f a).2<=a+k
theorem wr_len {node:Nd->Nat->List Pc × Nat} {m:Nd->Nat}:∀ (l:List Nd),(∀ x ∈ l,LenB (node x) (100*m x) (20*m x))->LenB (wrW node l) (100*(l.map m).sum) (20*(l.map m).sum)
 | [],_,a=>by simp [wrW,flatP]
 | x::l,h,a=>by
  have h1:=h x (List.mem_cons_self ..) a;have h2:=wr_len l (fun y hy=>h y (List.mem_cons_of_mem _ hy)) (node x a).2;rw [wrW,flatP_app,List.length_append,List.map_cons,List.sum_cons]
  simp only
  omega
theorem blk_len {L:LB_} {h:LB_ × Nat} {body rest:Nat->List Pc × Nat} {nb kb nr kr:Nat} (hb:LenB body nb kb) (hr:LenB rest nr kr):(flatP (blkW L h body rest).1).length<=h.1.length+19+nb+nr/\(blkW L h body rest).2<=h.2+2+kb+kr:=by
 have h1:=act_len L h.1 h.2;have h2:=hb (actW L h.1 h.2).2;have h3:=hr (body (actW L h.1 h.2).2).2;unfold blkW;rw [flatP_app,flatP_app,List.length_append,List.length_append]
 simp only
 omega
theorem end_len (L:LB_):LenB (actW L endW) 22 2:=fun a=>act_len L endW a
def NdLen (L:LB_) (n:Nat):Prop:=∀ (d:Nat) (top:Prop) (x:Nd),SoundN d top x->2*d+2<=n->LenB (ndW L n x) (100*wtN d x) (20*wtN d x)
def OtLen (L:LB_) (n:Nat):Prop:=∀ (d:Nat) (top:Prop) (x:Nd),SoundN d top x->2*d+1<=n->LenB (otW L n x) (50+100*(x.els.map (wtN (d - 1))).sum) (6+20*(x.els.map (wtN (d - 1))).sum)
theorem nodes_len (L:LB_):∀ n,NdLen L n/\OtLen L n
 | 0=>⟨fun d top x _ h=>by omega,fun d top x _ h=>by omega⟩
 | n+1=>by
  obtain ⟨hN,hO⟩:=nodes_len L n
  have bodies:∀ (d:Nat) (l:List Nd),(∀ y ∈ l,SoundN (d - 1) False y)->(l=[]\/0 < d/\2*d<=n)->LenB (wrW (ndW L n) l) (100*(l.map (wtN (d - 1))).sum) (20*(l.map (wtN (d - 1))).sum):=fun d l hl hd=>
   wr_len l (fun y hy=>hN (d - 1) False y (hl y hy) (by
    rcases hd with rfl | hd
    ·cases hy
    ·omega))
  refine ⟨fun d top x hx hn a=>?_,fun d top x hx hn a=>?_⟩
  ·have ho:=hx.own
   have hw:=wtN_step hx
   have hbd:x.body=[]\/0 < d/\2*d<=n:=by
    rcases hx.deep with h | h
    ·exact .inl h.1
    ·exact .inr ⟨h,by omega⟩
   have hwo:wtNo x=1+x.text.size+x.name.size+x.key.size+wtX 6 x.x:=rfl;have hp:=wtX_pos (d:=6) x.x;have hr:=hx.right;have hb:=bodies d x.body hx.body hbd;rw [ndW]
   split
   ·have h1:=size_list x.text
    simp only [flatP,List.flatMap_cons,List.flatMap_nil,List.append_nil,Pc.flat]
    omega
   ·split
    ·have h1:=act_len L (pipW L 7 x.x a).1 (pipW L 7 x.x a).2
     have h2:=pip_len L 7 6 x.x a hr (by omega)
     omega
    ·split
     ·have h1:=act_len L (setW L x a).1 (setW L x a).2
      have h2:=set_len L a hr
      omega
     ·split
      ·have h1:=blk_len (L:=L) (h:=defW L x a) hb (end_len L)
       have h2:=def_len L x a
       omega
      ·have h1:=blk_len (L:=L) (h:=headW L x a) hb (hO d top x hx (by omega))
       have h2:=head_len L a hr
       omega
  ·have ed:x.els=[]\/0 < d/\2*d<=n:=by
    rcases hx.deep with h | h
    ·exact .inl h.2
    ·exact .inr ⟨h,by omega⟩
   have eb:=bodies d x.els hx.els ed;have h4:elseW.length=4:=rfl
   have fin:∀ a0,a0<=a+1->(flatP (blkW L (elseW,a0) (wrW (ndW L n) x.els) (actW L endW)).1).length<=50+100*(x.els.map (wtN (d - 1))).sum/\(blkW L (elseW,a0) (wrW (ndW L n) x.els) (actW L endW)).2<=a+(6+20*(x.els.map (wtN (d - 1))).sum):=fun a0 ha=>by
    have h1:=blk_len (L:=L) (h:=(elseW,a0)) eb (end_len L)
    simp only at h1
    omega
   rw [otW]
   split
   ·have h1:=end_len L a
    omega
   ·next y he=>
    have hd0:0 < d/\2*d<=n:=ed.resolve_left (by rw [he];simp);have hy:SoundN (d - 1) False y:=hx.els y (by rw [he];exact List.mem_cons_self ..)
    split
    ·split
     ·have hpk:=pick_next L a 2
      have hg:=gap_len L (pickW L a 2).2;have hh:=head_len L (gapW L (pickW L a 2).2).2 hy.right
      have hyb:y.body=[]\/0 < d - 1/\2*(d - 1)<=n:=by
       rcases hy.deep with h | h
       ·exact .inl h.1
       ·exact .inr ⟨h,by omega⟩
      have hb:=bodies (d - 1) y.body hy.body hyb;have h1:=blk_len (L:=L) (h:=(elseW++((gapW L (pickW L a 2).2).1++(headW L y (gapW L (pickW L a 2).2).2).1),(headW L y (gapW L (pickW L a 2).2).2).2)) hb (hO (d - 1) False y hy (by omega));have hw:=wtN_step hy;have hwo:wtNo y=1+y.text.size+y.name.size+y.key.size+wtX 6 y.x:=rfl;have hp:=wtX_pos (d:=6) y.x;rw [he,List.map_cons,List.map_nil,List.sum_cons,List.sum_nil]
      simp only [List.length_append] at h1
      omega
     ·have:=fin (pickW L a 2).2 (pick_next L a 2)
      rw [he] at this ⊢
      exact this
    ·have:=fin a (by omega)
     rw [he] at this ⊢
     exact this
   ·exact fin a (by omega)
end Go.Proofs.YtnblmhfgmehnnaaGreatDoor
namespace Go.Proofs.YtnblmhfgmehnnaaGreatDoor
open Go.RowKit Go.Lib
attribute [local go_sem ↓] Go.wp_at_zero Go.wp_at_succ
theorem ba_extA {a b:ByteArray} (h:a.data.toList=b.data.toList):a=b:=ByteArray.ext (Array.toList_inj.1 h)
theorem taction (gs:Nat) (A:OA_) (c:Nat) (L:LB_) (a:Nat) (b:ByteArray) (w:World) (h:StAt w gs A c L a) (ha:a<=1000000000) (hz:b.size<=1000000):Calls Tryz.prog 46 #[.pointer (some ⟨gs,0,none⟩),.string b] w (WrPost gs A c L (flatP (actW L b.data.toList a).1,(actW L b.data.toList a).2) w):=by
 have hlt:=pickW_lt L a (n:=4) (by omega);have hlt2:=pickW_lt L (pickW L a 4).2 (n:=3) (by omega);have hpn:=pick_next L a 4;have hba:=Below.new w (.cells #[.string ⟨#[32]⟩,.string ⟨#[]⟩,.string ⟨#[32,32]⟩,.string ⟨#[10]⟩] 9);have h0:=Blk.new w 9 #[.string ⟨#[32]⟩,.string ⟨#[]⟩,.string ⟨#[32,32]⟩,.string ⟨#[10]⟩];have hgs:=h.blk.lt;have CP:=tpick gs A c L a 4 _ (h.keep hba) (by omega) (by omega) (by omega);rw [act_flat];unfold actW WrPost
 simp only
 obtain ⟨⟨k,a2⟩,hp⟩:∃ z,z=pickW L a 4:=⟨_,rfl⟩;rw [<-hp] at CP hlt hlt2 hpn ⊢
 simp only at CP hlt hlt2 hpn ⊢
 have CP2:=fun (w2:World) (h2:StAt w2 gs A c L a2)=>tpick gs A c L a2 3 w2 h2 (by omega) (by omega) (by omega)
 obtain ⟨⟨k2,a3⟩,hp2⟩:∃ z,z=pickW L a2 3:=⟨_,rfl⟩;rw [<-hp2] at CP2 hlt2 ⊢
 simp only at CP2 hlt2 ⊢
 have HBA:=h_ hba;have H0:=h_ h0;have CPH:=h_ CP;have CPH2:=h_ CP2
 have hn:w.heap.size≠gs:=by omega
 clear hp hp2 h hba h0 CP CP2 hpn
 go_enter Tryz.func46,Tryz.ntmps46
 go_wp2_with fail
 refine CPH.out.mono ?_
 rintro e w2 ⟨rfl,hs2,hbar2⟩;have HS2:=h_ hs2;have HB2:=h_ ((Bar.of (gc:=gs) HBA.out).trans hbar2);have hk2:=hbar2.blk H0.out hn;have k0:=hk2.cell;have f0:=hk2.frozen;have l0:=hk2.lt;clear hs2 hbar2 hk2;have hba2:=Below.new w2 (.cells #[.string ⟨#[]⟩,.string ⟨#[]⟩,.string ⟨#[123,123,47,42,32,120,32,42,47,125,125]⟩] 9);have h02:=Blk.new w2 9 #[.string ⟨#[]⟩,.string ⟨#[]⟩,.string ⟨#[123,123,47,42,32,120,32,42,47,125,125]⟩];have CQ:=h_ (CPH2.out _ (HS2.out.keep hba2));have HBQ:=h_ (HB2.out.trans (Bar.of (gc:=gs) hba2));have H02:=h_ h02
 have hn2:w2.heap.size≠gs:=by have:=HS2.out.blk.lt;omega
 clear hba2 h02
 have:k=0\/k=1\/k=2\/k=3:=by omega
 rcases this with rfl | rfl | rfl | rfl
 all_goals
  go_wp2_with fail
  refine CQ.out.mono ?_
  rintro e w3 ⟨rfl,hs3,hbar3⟩;have HS3:=h_ hs3;have HB3:=h_ (HBQ.out.trans hbar3);have hk3:=hbar3.blk H02.out hn2;have k1:=hk3.cell;have f1:=hk3.frozen;have l1:=hk3.lt;clear hs3 hbar3 hk3 k0 f0 l0
  have:k2=0\/k2=1\/k2=2:=by omega
  rcases this with rfl | rfl | rfl
  all_goals
   go_wp2_with fail;go_ret
   exact ⟨congrArg (fun s=>Ending.returned (.string s)) (ba_extA (by simp only [ByteArray.data_append,Array.toList_append];simp [pads,comB])),HS3.out,HB3.out⟩
end Go.Proofs.YtnblmhfgmehnnaaGreatDoor
