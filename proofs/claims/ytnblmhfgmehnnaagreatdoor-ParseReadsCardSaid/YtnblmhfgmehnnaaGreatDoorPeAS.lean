/- Several texts as one. -/
import Derived.Test.YtnblmhfgmehnnaaGreatDoorPeFo
import Derived.Test.YtnblmhfgmehnnaaGreatDoorPeMv
import Derived.Test.YtnblmhfgmehnnaaGreatDoorPeAM
import Derived.Test.YtnblmhfgmehnnaaGreatDoorPeAN
import Derived.Test.YtnblmhfgmehnnaaGreatDoorPeAP
import Derived.Test.YtnblmhfgmehnnaaGreatDoorPeAQ
import Derived.Test.YtnblmhfgmehnnaaGreatDoorPeAR
import Derived.Test.YtnblmhfgmehnnaaGreatDoorPeAI
import Derived.Test.YtnblmhfgmehnnaaGreatDoorPeAG
import Derived.Test.YtnblmhfgmehnnaaGreatDoorPeAC
import Derived.Lib.ItoaLen
import Derived.Test.YtnblmhfgmehnnaaGreatDoorPeAB
import Derived.BigQuiet
set_option maxRecDepth 100000
set_option maxHeartbeats 8000000
namespace Go.Proofs.YtnblmhfgmehnnaaGreatDoor
open Go.RowKit Go.Lib
attribute [local go_sem ↓] Go.wp_at_zero Go.wp_at_succ
theorem bl_ok (gm:Nat) (A:OA_) (c:Nat) (toks:List Tok) (m0:Mk) (wd s:ByteArray) (w:World) (hw4:wd.data.toList=ifW\/wd.data.toList=withW\/wd.data.toList=rangeW\/wd.data.toList=defineW) (hs:s.size<=1000000) (h:MkAt w gm A c toks m0) (hv:ScalV w) (hs1:0<=m0.deep) (hs0:m0.deep+m0.rest.length < 1000000) (hgl:Glob gm) (hfit:Fit toks) {n:Nat} (hf:2*m0.rest.length+2<=n+1) (HN:NoOk gm A c toks n) (HB:BlOk gm A c toks n):Calls Tryz.prog 57 #[.pointer (some ⟨gm,0,none⟩),.string wd,.string s] w (NdPost gm A c toks (blockF (n+1) wd.data.toList s.data.toList m0).1 (blockF (n+1) wd.data.toList s.data.toList m0).2 w):=by
 have TH:∀ (m:Mk) (W:World),MkAt W gm A c toks m->ScalV W->Calls Tryz.prog 80 #[.pointer (some ⟨gm,0,none⟩),.string wd,.string s] W (NdPost gm A c toks (headF wd.data.toList s.data.toList m).1 (headF wd.data.toList s.data.toList m).2 W):=fun m W hM hV=>thead gm A c toks m wd s W hM hs hV hw4
 by_cases hdp:16 < m0.deep+1
 ·exact bl_deep gm A c toks m0 wd s w hw4 h hv hs1 hs0 hgl TH hf HN HB hdp
 ·have tails:∀ st rs:LB_,ECase 0 st (skipB rs)\/ECase 1 st (skipB rs)\/ECase 2 st (skipB rs):=fun st rs=>by
   by_cases e1:st=endW
   ·by_cases e2:skipB rs=[]
    ·exact .inl ⟨e1,e2⟩
    ·exact .inr (.inl ⟨e1,e2⟩)
   ·exact .inr (.inr e1)
  obtain ⟨X,hX⟩:∃ z,z=(nodesF n [] (headF wd.data.toList s.data.toList ⟨m0.rest,m0.deep+1,m0.bad⟩).2).1:=⟨_,rfl⟩
  by_cases c1:X.stop=elseW
  ·by_cases c2:wd.data.toList=ifW
   ·by_cases c3:wordL (skipB X.rest)=ifW
    ·exact bl_case0 gm A c toks m0 wd s w hw4 h hv hs1 hs0 hgl hfit TH hf HN HB hdp (by rw [<-hX];exact ⟨c1,c2,c3⟩)
    ·by_cases c4:skipB X.rest=[]
     ·have hK:BCase 1 X.stop wd.data.toList (skipB X.rest):=⟨c1,c2,c3,c4⟩
      rw [hX] at hK
      rcases tails _ _ with e | e | e
      ·exact bl_case1a gm A c toks m0 wd s w hw4 h hv hs1 hs0 hgl hfit TH hf HN HB hdp hK e
      ·exact bl_case1b gm A c toks m0 wd s w hw4 h hv hs1 hs0 hgl hfit TH hf HN HB hdp hK e
      ·exact bl_case1c gm A c toks m0 wd s w hw4 h hv hs1 hs0 hgl hfit TH hf HN HB hdp hK e
     ·exact bl_case2 gm A c toks m0 wd s w hw4 h hv hs1 hs0 hgl hfit TH hf HN HB hdp (by rw [<-hX];exact ⟨c1,c2,c3,c4⟩)
   ·by_cases c5:wd.data.toList=defineW
    ·exact bl_case3 gm A c toks m0 wd s w hw4 h hv hs1 hs0 hgl hfit TH hf HN HB hdp (by rw [<-hX];exact ⟨c1,c2,c5⟩)
    ·by_cases c4:skipB X.rest=[]
     ·have hK:BCase 4 X.stop wd.data.toList (skipB X.rest):=⟨c1,c2,c5,c4⟩
      rw [hX] at hK
      rcases tails _ _ with e | e | e
      ·exact bl_case4a gm A c toks m0 wd s w hw4 h hv hs1 hs0 hgl hfit TH hf HN HB hdp hK e
      ·exact bl_case4b gm A c toks m0 wd s w hw4 h hv hs1 hs0 hgl hfit TH hf HN HB hdp hK e
      ·exact bl_case4c gm A c toks m0 wd s w hw4 h hv hs1 hs0 hgl hfit TH hf HN HB hdp hK e
     ·exact bl_case5 gm A c toks m0 wd s w hw4 h hv hs1 hs0 hgl hfit TH hf HN HB hdp (by rw [<-hX];exact ⟨c1,c2,c5,c4⟩)
  ·have hK:BCase 6 X.stop wd.data.toList (skipB X.rest):=c1
   rw [hX] at hK
   rcases tails _ _ with e | e | e
   ·exact bl_case6a gm A c toks m0 wd s w hw4 h hv hs1 hs0 hgl hfit TH hf HN HB hdp hK e
   ·exact bl_case6b gm A c toks m0 wd s w hw4 h hv hs1 hs0 hgl hfit TH hf HN HB hdp hK e
   ·exact bl_case6c gm A c toks m0 wd s w hw4 h hv hs1 hs0 hgl hfit TH hf HN HB hdp hK e
theorem mk_all {gm:Nat} {A:OA_} {c:Nat} {toks:List Tok} (hgl:Glob gm) (hfit:Fit toks) (htl:toks.length<=1000000) (n:Nat):NoOk gm A c toks n/\BlOk gm A c toks n:=by
 induction n with
 | zero=>exact ⟨fun k hk m W h1=>by omega,fun k hk wd s m W h0 hs h1=>by omega⟩
 | succ n ih=>
  refine ⟨fun k hk m W h1 hb hm hv=>?_,fun k hk wd s m W h0 hs h1 hd hsm hm hv=>?_⟩
  ·by_cases e:k<=n
   ·exact ih.1 k e m W h1 hb hm hv
   ·obtain rfl:k=n+1:=by omega
    exact no_ok gm A c toks m W hm hv hb hfit htl hgl h1 ih.2
  ·by_cases e:k<=n
   ·exact ih.2 k e wd s m W h0 hs h1 hd hsm hm hv
   ·obtain rfl:k=n+1:=by omega
    exact bl_ok gm A c toks m wd s W h0 hs hm hv hd hsm hgl hfit h1 ih.1 ih.2
theorem tnodes (gm:Nat) (A:OA_) (c:Nat) (toks:List Tok) (W:World) (h:MkAt W gm A c toks ⟨toks,0,0⟩) (hv:ScalV W) (hgl:Glob gm) (hfit:Fit toks) (htl:toks.length<=1000000):Calls Tryz.prog 28 #[.pointer (some ⟨gm,0,none⟩)] W (NsPost gm A c toks (nodesF (fuelN toks) [] ⟨toks,0,0⟩).1 (nodesF (fuelN toks) [] ⟨toks,0,0⟩).2 W):=
 (mk_all hgl hfit htl (fuelN toks)).1 _ (Nat.le_refl _) _ _ (by show 2*toks.length+1<=2*toks.length+4;omega) ⟨Int.le_refl _,by show (0:Int)+toks.length<=_;omega⟩ h hv
theorem trimL_le (l s:LB_):(Lib.trimLeftS l s).length<=l.length:=by
 unfold Lib.trimLeftS
 induction l with
 | nil=>exact Nat.le_refl _
 | cons a l ih=>
  rw [List.dropWhile_cons]
  split
  ·simp only [List.length_cons];omega
  ·exact Nat.le_refl _
theorem trimR_le (l s:LB_):(Lib.trimRightS l s).length<=l.length:=by
 unfold Lib.trimRightS;have h:=trimL_le l.reverse s;unfold Lib.trimLeftS at h;rw [List.length_reverse] at h ⊢
 exact h
theorem body_le (raw:LB_):(body raw).length<=raw.length:=by
 have h1:(raw1 raw).length<=raw.length:=by unfold raw1;split <;>simp
 have h2:(raw2 raw).length<=(raw1 raw).length:=by unfold raw2;split <;>simp
 have h3:(body raw).length<=(raw2 raw).length:=by unfold body Lib.trimS;exact Nat.le_trans (trimL_le _ _) (trimR_le _ _)
 omega
theorem txt_fit {s:LB_} {n K:Nat} (h:s.length<=K):(∀ t ∈ txt s n,t.s.length<=K)/\(txt s n).length<=1:=by
 unfold txt
 split
 ·exact ⟨fun t ht=>absurd ht List.not_mem_nil,Nat.zero_le _⟩
 ·exact ⟨fun t ht=>by rw [List.mem_singleton] at ht;rw [ht];exact h,Nat.le_refl _⟩
theorem actn_fit {s:LB_} {n K:Nat} (h:s.length<=K):(∀ t ∈ actn s n,t.s.length<=K)/\(actn s n).length<=1:=by
 unfold actn
 split
 ·exact ⟨fun t ht=>absurd ht List.not_mem_nil,Nat.zero_le _⟩
 ·exact ⟨fun t ht=>by rw [List.mem_singleton] at ht;rw [ht];exact h,Nat.le_refl _⟩
theorem ahead_le (cut:Bool) (s:LB_):(ahead cut s).length<=s.length:=by
 unfold ahead
 split
 ·exact trimL_le _ _
 ·exact Nat.le_refl _
theorem behind_le (raw s:LB_):(behind raw s).length<=s.length:=by
 unfold behind
 split
 ·exact trimR_le _ _
 ·exact Nat.le_refl _
theorem splitM_fit:∀ (n:Nat) (s:LB_) (i:Nat) (cut:Bool) (toks:List Tok) (K:Nat),s.length<=K->splitM n s i cut=some toks->(∀ t ∈ toks,t.s.length<=K)/\toks.length<=s.length
 | 0,s,i,cut,toks,K,hK,h=>by
  rw [splitM] at h
  injection h with h
  subst h
  exact ⟨fun t ht=>absurd ht List.not_mem_nil,Nat.zero_le _⟩
 | n+1,s,i,cut,toks,K,hK,h=>by
  rw [splitM] at h
  split at h
  ·injection h with h
   subst h
   exact ⟨fun t ht=>absurd ht List.not_mem_nil,Nat.zero_le _⟩
  ·next hs=>
   have hs0:0 < s.length:=List.length_pos_iff.2 hs
   split at h
   ·next hf=>
    injection h with h
    subst h;have h1:=txt_fit (n:=i+(s.length - (ahead cut s).length)) (Nat.le_trans (ahead_le cut s) hK)
    exact ⟨h1.1,by have:=h1.2;omega⟩
   ·next o hf=>
    have hb:=find2_bound hf
    split at h
    ·cases h
    ·next e hc=>
     have he:=clos_bound _ (Nat.le_refl _) hc;rw [List.length_drop] at he;obtain ⟨r,hr,rfl⟩:=Option.map_eq_some_iff.1 h;have ih:=splitM_fit n _ _ _ r K (by rw [List.length_drop];omega) hr;rw [List.length_drop] at ih
     have hraw:((s.drop (o+2)).take e).length<=K:=by rw [List.length_take,List.length_drop];omega
     have h1:=txt_fit (n:=i+(o - (ahead cut (s.take o)).length)) (s:=behind ((s.drop (o+2)).take e) (ahead cut (s.take o))) (K:=K) (Nat.le_trans (behind_le _ _) (Nat.le_trans (ahead_le _ _) (by rw [List.length_take];omega)));have h2:=actn_fit (n:=i+o) (s:=body ((s.drop (o+2)).take e)) (K:=K) (Nat.le_trans (body_le _) hraw)
     refine ⟨fun t ht=>?_,?_⟩
     ·rcases List.mem_append.1 ht with ht | ht
      ·exact h1.1 t ht
      ·rcases List.mem_append.1 ht with ht | ht
       ·exact h2.1 t ht
       ·exact ih.1 t ht
     ·rw [List.length_append,List.length_append]
      have:=h1.2;have:=h2.2;have:=ih.2;omega
def PrPost (s:LB_) (w:World) (e:Ending) (w':World):Prop:=
 ∃ a k,e=.returned (.tuple #[.slice a (parseF s).1.length k,.int .i64 (parseF s).2])/\RepNs w' (fun b=>w.heap.size<=b) a (parseF s).1/\Room (parseF s).1.length k 264/\Below w.heap.size w w'
theorem prPost_bad {s:LB_} {w w':World} {b:Int} (h:parseF s=([],b)) (hb:Below w.heap.size w w'):PrPost s w (.returned (.tuple #[.slice none 0 0,.int .i64 b])) w':=
 ⟨none,0,by rw [h];rfl,by rw [h];exact RepNs.nil,by rw [h];exact Room.nil _,hb⟩
theorem tParse (s:ByteArray) (w:World) (hs:s.size<=65536) (hm:MaxL w) (hv:ScalV w):Calls Tryz.prog 12 #[.string s] w (PrPost s.data.toList w):=by
 have hlen:¬ 65536 < s.data.toList.length:=by rw [<-size_list];omega
 cases hsp:splitM (s.size+1) s.data.toList 0 false with
 | none=>
  have HP:=h_ (show parseF s.data.toList=([],21) from by unfold parseF;rw [if_neg hlen,<-size_list,hsp]);have CS:=h_ (tsplit_none w hs hm hsp);clear hsp hlen hm hs hv
  go_enter Tryz.func12,Tryz.ntmps12
  go_wp2_with fail
  refine CS.out.mono ?_
  rintro e w1 ⟨rfl,hb1⟩;have HB1:=h_ hb1;clear hb1;go_wp2_with fail;go_ret2
  exact prPost_bad HP.out HB1.out
 | some toks=>
  have hft:=splitM_fit _ _ _ _ toks 65536 (by rw [<-size_list];exact hs) hsp;rw [<-size_list] at hft;have HFIT:=h_ hft.1
  have htl:toks.length<=65536:=by have:=hft.2;omega
  have CS:=h_ (tsplit_ok w hs hm hsp)
  have hpf:parseF s.data.toList=(if (if (nodesF (fuelN toks) [] ⟨toks,0,0⟩).1.stop≠[] then (nodesF (fuelN toks) [] ⟨toks,0,0⟩).2.fail 21 else (nodesF (fuelN toks) [] ⟨toks,0,0⟩).2).bad=0 then ((nodesF (fuelN toks) [] ⟨toks,0,0⟩).1.out,0) else ([],(if (nodesF (fuelN toks) [] ⟨toks,0,0⟩).1.stop≠[] then (nodesF (fuelN toks) [] ⟨toks,0,0⟩).2.fail 21 else (nodesF (fuelN toks) [] ⟨toks,0,0⟩).2).bad)):=by
   unfold parseF;rw [if_neg hlen,<-size_list,hsp]
  have hct:=nodes_cnt (fuelN toks) [] ⟨toks,0,0⟩
  have CN:=fun (W:World) (gm:Nat) (A:OA_) (c:Nat) (h:MkAt W gm A c toks ⟨toks,0,0⟩) (hvW:ScalV W) (hg:Glob gm)=>tnodes gm A c toks W h hvW hg (HFIT.out) (by omega)
  obtain ⟨⟨⟨out,st,rs⟩,m⟩,hq⟩:∃ z,z=nodesF (fuelN toks) [] ⟨toks,0,0⟩:=⟨_,rfl⟩;rw [<-hq] at hpf CN hct
  simp only at hpf CN hct
  rw [List.length_nil] at hct;have HPF:=h_ hpf;have CNH:=h_ CN;have HV:=h_ hv;clear hsp hlen hm hs hv hft CN hpf hq
  go_enter Tryz.func12,Tryz.ntmps12
  go_wp2_with fail
  refine CS.out.mono ?_
  rintro e w1 ⟨A,c,rfl,ht1,hc1,hc2,hb1⟩;have hba:=Below.new w1 (.cells #[.slice A toks.length c,.int .i64 0,.int .i64 0,.int .i64 0] 76)
  have hz0:((toks.length - toks.length:Nat):Int)=0:=by simp
  have HM:=h_ (show MkAt (w1.alloc (.cells #[.slice A toks.length c,.int .i64 0,.int .i64 0,.int .i64 0] 76)) w1.heap.size A c toks ⟨toks,0,0⟩ from ⟨by simp only [hz0];exact Blk.new _ _ _,by simp,ht1.mono (fun _ _ hlt=>hlt) (fun b o hb hlt=>hba.cell hlt)⟩);have HB1:=h_ (Below.next hb1 hba);have HG:=h_ (HV.out.glob (gc:=w1.heap.size) hb1.size);have HV1:=h_ ((HV.out.keep hb1).keep hba);have hwg:w.heap.size<=w1.heap.size:=hb1.size;clear hb1 ht1 hc1 hc2 hba hz0;go_upto_region 5 with fail;obtain ⟨W1,e1⟩:∃ z,z=w1.alloc (.cells #[.slice A toks.length c,.int .i64 0,.int .i64 0,.int .i64 0] 76):=⟨_,rfl⟩;obtain ⟨gm,eg⟩:∃ z,z=w1.heap.size:=⟨_,rfl⟩;rw [<-e1,<-eg] at HM;rw [<-e1] at HB1 HV1;rw [<-eg] at HG hwg;rw [<-e1,<-eg];clear e1 eg;have hg1:=HM.out.blk.lt;go_wp2_with fail
  refine (CNH.out _ _ _ _ HM.out HV1.out HG.out).mono ?_
  rintro e w2 ⟨a,k,rfl,ho2,hm2,hbar2⟩;have HB2:=h_ ((Bar.of HB1.out).trans hbar2 |>.under hwg);have HM2:=h_ hm2;have HO2:=h_ ho2;have hs2:=HB1.out.size;clear hbar2 hm2 ho2;go_upto_region 6 with fail;obtain ⟨sv,hsv⟩:∃ z,z=bs st:=⟨_,rfl⟩;rw [<-hsv]
  have hem:sv.toList.isEmpty=decide (st=[]):=by rw [empty_eq,hsv]
  clear hsv
  by_cases h0:st=[]
  ·rw [decide_eq_true h0] at hem
   have hpf:=HPF.out;rw [show (if st≠[] then m.fail 21 else m)=m from if_neg (fun h=>h h0)] at hpf;have km:=HM2.out.blk.cell;have fm:=HM2.out.blk.frozen;have lm:=HM2.out.blk.lt
   by_cases hb:m.bad=0
   ·rw [if_pos hb] at hpf
    have g1:(m.bad !=0)=false:=by rw [hb];rfl
    have HP:=h_ hpf;clear hpf HPF h0 hb;go_wp2_with fail;go_ret2
    refine ⟨a,k,by rw [HP.out];rfl,?_,?_,HB2.out⟩
    ·rw [HP.out];exact (own_repNs HO2.out).mono (fun b hb _=>by have:=HB1.out.size;omega) (fun _ _ _ _=>rfl)
    ·rw [HP.out];exact own_roomN HO2.out (show out.length<=1000000 by omega)
   ·rw [if_neg hb] at hpf
    have g1:(m.bad !=0)=true:=bne_iff_ne.2 hb;have HP:=h_ hpf;clear hpf HPF h0 hb;go_wp2_with fail
    go_region
    go_wp2_with fail;go_ret2
    exact prPost_bad HP.out (Below.next HB2.out (Below.drew (Below.refl _ _)))
  ·rw [decide_eq_false h0] at hem
   have hpf:=HPF.out;rw [show (if st≠[] then m.fail 21 else m)=m.fail 21 from if_pos h0] at hpf;have HPF2:=h_ hpf;clear hpf HPF h0;go_wp2_with fail
   refine (mfail gm A c toks m 21 _ HM2.out).mono ?_
   rintro e w3 ⟨rfl,hm3,hbar3⟩;have HM3:=h_ hm3;have HB3:=h_ (((Bar.of (gc:=gm) HB2.out).trans hbar3).under hwg)
   have hnz:(m.fail 21).bad≠0:=by unfold Mk.fail;simp only;split <;>omega
   have hpf:=HPF2.out;rw [if_neg hnz] at hpf;obtain ⟨mY,emY⟩:∃ z,z=m.fail 21:=⟨_,rfl⟩;rw [<-emY] at hpf HM3 hnz;have HP:=h_ hpf;have g1:(mY.bad !=0)=true:=bne_iff_ne.2 hnz;clear hm3 hbar3 hpf HPF2 emY hnz;have km:=HM3.out.blk.cell;have fm:=HM3.out.blk.frozen;have lm:=HM3.out.blk.lt;go_wp2_with fail
   go_region
   go_wp2_with fail;go_ret2
   exact prPost_bad HP.out (Below.next HB3.out (Below.drew (Below.refl _ _)))
end Go.Proofs.YtnblmhfgmehnnaaGreatDoor
namespace Go.Proofs.YtnblmhfgmehnnaaGreatDoor
open Go.RowKit Go.Lib
def closF:Nat->Bool->LB_->Option Nat
 | 0,_,_=>none
 | _+1,_,[]=>none
 | _+1,_,[_]=>none
 | n+1,false,a::b::l=>if a=125/\b=125 then some 0 else if a=34 then (closF n true (b::l)).map (·+1) else (closF n false (b::l)).map (·+1)
 | n+1,true,a::b::l=>if a=34 then (closF n false (b::l)).map (·+1) else if a=92 then (closF n true l).map (·+2) else (closF n true (b::l)).map (·+1)
theorem clos_fuel:∀ (n:Nat) (q:Bool) (s:LB_),s.length < n->clos q s=closF n q s
 | 0,q,s,h=>by omega
 | n+1,q,[],h=>by cases q <;>simp [clos,closF]
 | n+1,q,[a],h=>by cases q <;>simp [clos,closF]
 | n+1,false,a::b::l,h=>by
  simp only [List.length_cons] at h
  rw [clos,closF,clos_fuel n true (b::l) (by simp only [List.length_cons];omega),clos_fuel n false (b::l) (by simp only [List.length_cons];omega)]
 | n+1,true,a::b::l,h=>by
  simp only [List.length_cons] at h
  rw [clos,closF,clos_fuel n true (b::l) (by simp only [List.length_cons];omega),clos_fuel n false (b::l) (by simp only [List.length_cons];omega),clos_fuel n true l (by omega)]
def splitG:Nat->LB_->Nat->Bool->Option (List Tok)
 | 0,_,_,_=>some []
 | n+1,s,i,cut=>
  if s=[] then some [] else
  match find2 123 s with
  | none=>some (txt (ahead cut s) (i+(s.length - (ahead cut s).length)))
  | some o=>
   match closF (s.length+1) false (s.drop (o+2)) with
   | none=>none
   | some e=>
    (splitG n (s.drop (o+2+(e+2))) (i+(o+2+(e+2))) (dashR ((s.drop (o+2)).take e))).map
     (fun r=>txt (behind ((s.drop (o+2)).take e) (ahead cut (s.take o))) (i+(o - (ahead cut (s.take o)).length))++(actn (body ((s.drop (o+2)).take e)) (i+o)++r))
theorem split_fuel:∀ (n:Nat) (s:LB_) (i:Nat) (cut:Bool),splitM n s i cut=splitG n s i cut
 | 0,s,i,cut=>rfl
 | n+1,s,i,cut=>by
  rw [splitM,splitG]
  split
  ·rfl
  ·cases hf:find2 123 s with
   | none=>rfl
   | some o=>
    simp only [clos_fuel (s.length+1) false (s.drop (o+2)) (by rw [List.length_drop];omega)]
    cases hc:closF (s.length+1) false (s.drop (o+2)) with
    | none=>rfl
    | some e=>simp only [split_fuel n]
def parseG (s:LB_):List Nd × Int:=
 if 65536 < s.length then ([],6)
 else match splitG (s.length+1) s 0 false with
  | none=>([],21)
  | some toks=>
   let q:=nodesF (fuelN toks) [] ⟨toks,0,0⟩
   let m:=if q.1.stop≠[] then q.2.fail 21 else q.2
   if m.bad=0 then (q.1.out,0) else ([],m.bad)
theorem parse_fuel (s:LB_):parseF s=parseG s:=by
 unfold parseF parseG;rw [split_fuel]
 rfl
def exP:LB_:=[123,123,32,105,102,32,46,97,32,125,125,120,123,123,32,101,108,115,101,32,125,125,123,123,32,46,98,32,124,32,117,112,112,101,114,32,125,125,123,123,32,101,110,100,32,125,125]
def xA:Ex:=.mk 1 T.zero ⟨#[]⟩ [bs [97]] []
def xB:Ex:=.mk 1 T.zero ⟨#[]⟩ [bs [98]] []
theorem ex_parse:parseG exP=([.mk 2 ⟨#[]⟩ xA ⟨#[]⟩ ⟨#[]⟩ [.mk 0 (bs [120]) Ex.zero ⟨#[]⟩ ⟨#[]⟩ [] []] [.mk 1 ⟨#[]⟩ (.mk 3 T.zero (bs [117,112,112,101,114]) [] [xB]) ⟨#[]⟩ ⟨#[]⟩ [] []]],0):=by
 kernel_rfl
end Go.Proofs.YtnblmhfgmehnnaaGreatDoor
namespace Go.Proofs.YtnblmhfgmehnnaaGreatDoor
open Go.RowKit Go.Lib
attribute [local go_sem ↓] Go.wp_at_zero Go.wp_at_succ
theorem repNs_one {w:World} {S:Nat->Prop} {a:OA_} {n:Nd} (h:RepNs w S a [n]):∃ b o la lc ma mc sa sc aa ac ba bc ea ec,a=some ⟨b,o,none⟩/\cellsAt w b o [.int .i64 n.kind,.string n.text,.int .i64 n.x.kind,.int .i64 n.x.val.kind,.bool n.x.val.bool,.int .i64 n.x.val.int,.string n.x.val.str,.slice la n.x.val.list.length lc,.slice ma n.x.val.map.length mc,.string n.x.name,.slice sa n.x.steps.length sc,.slice aa n.x.args.length ac,.string n.key,.string n.name,.slice ba n.body.length bc,.slice ea n.els.length ec]/\PartsN w S la lc ma mc sa sc aa ac ba bc ea ec n:=by
 obtain ⟨b,o,cs,e, -,hc,hr⟩:=h 0 (Nat.lt_succ_self 0);obtain ⟨la,lc,ma,mc,sa,sc,aa,ac,ba,bc,ea,ec,rfl,hp⟩:=hr.inv;rw [Nat.zero_mul,Nat.add_zero] at hc
 exact ⟨b,o,la,lc,ma,mc,sa,sc,aa,ac,ba,bc,ea,ec,e,hc,hp⟩
theorem tawake7 (w:World) (hm:MaxL w) (hv:ScalV w):Calls Tryz.prog 10 #[] w fun e w'=>e=.returned (.bool true)/\Below w.heap.size w w':=by
 have CS:=tParse (bs exP) w (by decide) hm hv;unfold PrPost at CS;rw [bs_list,parse_fuel,ex_parse] at CS
 simp only at CS
 have CSH:=h_ CS;clear CS hm hv
 go_enter Tryz.func10,Tryz.ntmps10
 go_wp2_with fail
 refine CSH.out.mono ?_
 rintro e w1 ⟨a,k,rfl,hr, -,hb⟩;obtain ⟨b,o,la,lc,ma,mc,sa,sc,aa,ac,ba,bc,ea,ec,rfl,hc,hp⟩:=repNs_one hr;obtain ⟨b2,o2,la2,lc2,ma2,mc2,sa2,sc2,aa2,ac2,ba2,bc2,ea2,ec2,rfl,hc2,hp2⟩:=repNs_one hp.els;have HB:=h_ hb;have c0:w1.cell? ⟨b,o+0,none⟩=some (.int .i64 2):=hc 0 _ rfl;have c14:w1.cell? ⟨b,o+14,none⟩=some (.slice ba 1 bc):=hc 14 _ rfl;have c15:w1.cell? ⟨b,o+15,none⟩=some (.slice (some ⟨b2,o2,none⟩) 1 ec):=hc 15 _ rfl;have d9:w1.cell? ⟨b2,o2+9,none⟩=some (.string ⟨#[117,112,112,101,114]⟩):=hc2 9 _ rfl;have d11:w1.cell? ⟨b2,o2+11,none⟩=some (.slice aa2 1 ac2):=hc2 11 _ rfl;rw [Nat.add_zero] at c0;clear hb hr hc hp hc2 hp2 CSH
 simp only [List.length_singleton]
 go_wp2_with fail;go_ret
 exact ⟨rfl,HB.out⟩
end Go.Proofs.YtnblmhfgmehnnaaGreatDoor
namespace Go.Proofs.YtnblmhfgmehnnaaGreatDoor
structure Irr (n:Nat):Prop where
 op:∀ (r:Rd) (m:Nat),4*r.s.length+1<=n->n<=m->operandF m r=operandF n r
 co:∀ (r:Rd) (m:Nat),4*r.s.length+2<=n->n<=m->commandF m r=commandF n r
 ar:∀ (x:Ex) (r:Rd) (m:Nat),4*r.s.length+2<=n->n<=m->argsF m x r=argsF n x r
 pi:∀ (r:Rd) (m:Nat),4*r.s.length+3<=n->n<=m->pipeF m r=pipeF n r
 ba:∀ (x:Ex) (r:Rd) (m:Nat),4*r.s.length+2<=n->n<=m->barsF m x r=barsF n x r
theorem skip_lt {l t:LB_} {c:UInt8} (h:skipB l=c::t):t.length+1<=l.length:=by
 have:=skip_len l
 rw [h,List.length_cons] at this
 exact this
theorem irr (n:Nat):Irr n:=by
 induction n with
 | zero=>exact ⟨fun r m h=>by omega,fun r m h=>by omega,fun x r m h=>by omega,fun r m h=>by omega,fun x r m h=>by omega⟩
 | succ n ih=>
  refine ⟨fun r m h hm=>?_,fun r m h hm=>?_,fun x r m h hm=>?_,fun r m h hm=>?_,fun x r m h hm=>?_⟩
  all_goals obtain ⟨m,rfl⟩:∃ k,m=k+1:=⟨m - 1,by omega⟩
  all_goals have hnm:n<=m:=by omega
  ·rw [operandF,operandF]
   cases hp:plainOp r with
   | some q=>rfl
   | none=>
    obtain ⟨l,hl⟩:=plain_none hp;have hl2:=skip_lt hl;have e:pipeF m ⟨(skipB r.s).drop 1,r.deep+1,r.bad⟩=pipeF n ⟨(skipB r.s).drop 1,r.deep+1,r.bad⟩:=ih.pi _ m (by rw [hl];show 4*l.length+3<=n;omega) hnm
    simp only [e]
  ·have e:operandF m r=operandF n r:=ih.op r m (by omega) hnm
   have hle:=(le_all n).1 r;rw [commandF,commandF]
   simp only [e]
   obtain ⟨⟨⟨x,b⟩,r2⟩,hq⟩:∃ z,z=operandF n r:=⟨_,rfl⟩;rw [<-hq] at hle ⊢
   simp only at hle ⊢
   cases b with
   | true=>rfl
   | false=>
    by_cases hk:nameK r2.s=0
    ·rw [if_pos hk,if_pos hk]
    ·rw [if_neg hk,if_neg hk]
     have h1:=hle.1.len;have h2:=nameD_len r2.s;rw [ih.ar _ (r2.go (nameD r2.s)) m (by show 4*(nameD r2.s).length+2<=n;omega) hnm]
  ·have e:operandF m r=operandF n r:=ih.op r m (by omega) hnm
   have hle:=(le_all n).1 r;rw [argsF,argsF]
   simp only [e]
   obtain ⟨⟨⟨y,b⟩,r2⟩,hq⟩:∃ z,z=operandF n r:=⟨_,rfl⟩;rw [<-hq] at hle ⊢
   simp only at hle ⊢
   have h1:=hle.1.len
   cases b with
   | true=>
    have h2:=hle.2 rfl
    simp only [if_true]
    exact ih.ar _ _ m (by omega) hnm
   | false=>
    simp only [Bool.false_eq_true,if_false]
    by_cases hk:nameK r2.s=0
    ·rw [if_pos hk,if_pos hk]
    ·rw [if_neg hk,if_neg hk]
     have h2:=nameD_len r2.s;rw [ih.ar _ (r2.go (nameD r2.s)) m (by show 4*(nameD r2.s).length+2<=n;omega) hnm]
  ·have e:commandF m r=commandF n r:=ih.co r m (by omega) hnm
   have hle:=(le_all n).2.1 r;rw [pipeF,pipeF]
   simp only [e]
   exact ih.ba _ _ m (by have:=hle.len;omega) hnm
  ·rw [barsF,barsF]
   cases hs:skipB r.s with
   | nil=>rfl
   | cons c l=>
    have hl2:=skip_lt hs
    by_cases hc:c=124
    ·subst hc
     have e:commandF m (r.go l)=commandF n (r.go l):=ih.co _ m (by show 4*l.length+2<=n;omega) hnm;have hle:=(le_all n).2.1 (r.go l);have h1:(commandF n (r.go l)).2.s.length<=l.length:=hle.len
     simp only [e]
     rw [ih.ba _ _ m (by omega) hnm]
    ·split
     ·next l2 h2=>injection h2 with h2 _;exact absurd h2 hc
     ·rfl
def opX (r:Rd):(Ex × Bool) × Rd:=operandF (4*r.s.length+1) r
def coX (r:Rd):Ex × Rd:=commandF (4*r.s.length+2) r
def arX (x:Ex) (r:Rd):Ex × Rd:=argsF (4*r.s.length+2) x r
def piX (r:Rd):Ex × Rd:=pipeF (4*r.s.length+3) r
def baX (x:Ex) (r:Rd):Ex × Rd:=barsF (4*r.s.length+2) x r
theorem op_is {r:Rd} {n:Nat} (h:4*r.s.length+1<=n):operandF n r=opX r:=(irr _).op r n (Nat.le_refl _) h
theorem co_is {r:Rd} {n:Nat} (h:4*r.s.length+2<=n):commandF n r=coX r:=(irr _).co r n (Nat.le_refl _) h
theorem ar_is {x:Ex} {r:Rd} {n:Nat} (h:4*r.s.length+2<=n):argsF n x r=arX x r:=(irr _).ar x r n (Nat.le_refl _) h
theorem pi_is {r:Rd} {n:Nat} (h:4*r.s.length+3<=n):pipeF n r=piX r:=(irr _).pi r n (Nat.le_refl _) h
theorem ba_is {x:Ex} {r:Rd} {n:Nat} (h:4*r.s.length+2<=n):barsF n x r=baX x r:=(irr _).ba x r n (Nat.le_refl _) h
theorem opX_le (r:Rd):r.Le (opX r).2/\((opX r).1.2=true->(opX r).2.s.length < r.s.length):=(le_all _).1 r
theorem opX_plain {r:Rd} {q:(Ex × Bool) × Rd} (h:plainOp r=some q):opX r=q:=by
 unfold opX;rw [operandF,h]
theorem opX_br {r:Rd} {l l2:LB_} (h:skipB r.s=40::l) (hd:¬ 16 < r.deep+1) (h2:skipB (piX ⟨l,r.deep+1,r.bad⟩).2.s=41::l2):opX r=(((piX ⟨l,r.deep+1,r.bad⟩).1,true),⟨l2,(piX ⟨l,r.deep+1,r.bad⟩).2.deep - 1,(piX ⟨l,r.deep+1,r.bad⟩).2.bad⟩):=by
 have hp:plainOp r=none:=by unfold plainOp;rw [h];simp [digitB]
 have hl:=skip_lt h;unfold opX;rw [operandF,hp]
 simp only
 rw [if_neg hd,h]
 simp only [List.drop_succ_cons,List.drop_zero]
 rw [pi_is (by show 4*l.length+3<=4*r.s.length;omega),h2]
 rfl
theorem coX_eq (r:Rd):coX r=(if (opX r).1.2 then ((opX r).1.1,(opX r).2) else if nameK (opX r).2.s=0 then (Ex.zero,(opX r).2.fail 20) else arX (Ex.call (nameT (opX r).2.s) []) ((opX r).2.go (nameD (opX r).2.s))):=by
 have h1:=(opX_le r).1.len;unfold coX;rw [commandF,op_is (Nat.le_refl _)]
 split
 ·rfl
 ·split
  ·rfl
  ·next hk=>
   have h2:=nameD_len (opX r).2.s;rw [ar_is (by show 4*(nameD (opX r).2.s).length+2<=_;omega)]
theorem arX_eq (x:Ex) (r:Rd):arX x r=(if (opX r).1.2 then arX (x.push (opX r).1.1) (opX r).2 else if nameK (opX r).2.s=0 then (x,(opX r).2) else arX (x.push (Ex.call (nameT (opX r).2.s) [])) ((opX r).2.go (nameD (opX r).2.s))):=by
 have h1:=(opX_le r).1.len;have h0:=(opX_le r).2
 conv=>lhs;unfold arX
 rw [argsF,op_is (Nat.le_refl _)]
 split
 ·next hb=>
  have h3:=h0 hb;rw [ar_is (by omega)]
 ·split
  ·rfl
  ·next hk=>
   have h2:=nameD_len (opX r).2.s;rw [ar_is (by show 4*(nameD (opX r).2.s).length+2<=_;omega)]
theorem piX_eq (r:Rd):piX r=baX (coX r).1 (coX r).2:=by
 have h1:(coX r).2.s.length<=r.s.length:=((le_all _).2.1 r).len;unfold piX;rw [pipeF,co_is (Nat.le_refl _)]
 exact ba_is (by omega)
theorem baX_bar {x:Ex} {r:Rd} {l:LB_} (h:skipB r.s=124::l):baX x r=(if (coX (r.go l)).1.kind≠3/\(coX (r.go l)).2.bad=0 then (Ex.zero,(coX (r.go l)).2.fail 20) else baX ((coX (r.go l)).1.push x) (coX (r.go l)).2):=by
 have hl:=skip_lt h;have h1:(coX (r.go l)).2.s.length<=l.length:=((le_all _).2.1 (r.go l)).len
 conv=>lhs;unfold baX
 rw [barsF,h]
 simp only
 rw [co_is (by show 4*l.length+2<=_;omega)]
 split
 ·rfl
 ·rw [ba_is (by omega)]
theorem baX_end {x:Ex} {r:Rd} (h:(skipB r.s).head? ≠some 124):baX x r=(x,r.go (skipB r.s)):=by
 unfold baX;rw [barsF]
 split
 ·next l hl=>rw [hl] at h;exact absurd rfl h
 ·rfl
theorem allF_eq (s:LB_):allF s=(let q:=piX ⟨s,0,0⟩;let b:=if q.2.bad=0/\skipB q.2.s≠[] then 20 else q.2.bad;if b=0 then (q.1,0) else (Ex.zero,b)):=by
 unfold allF;rw [pi_is (by show 4*s.length+3<=4*s.length+8;omega)]
theorem allF_of {s:LB_} {x:Ex} {d:Int} {t:LB_} (h:piX ⟨s,0,0⟩=(x,⟨t,d,0⟩)) (ht:skipB t=[]):allF s=(x,0):=by
 rw [allF_eq,h]
 simp only [ht,ne_eq,not_true_eq_false,and_false,if_false,if_true]
def Blk_ (l:LB_):Prop:=∀ c ∈ l,c ∈ blanks
def Stop_ (l:LB_):Prop:=∀ c,l.head? =some c->c ∈ blanks\/c=41
theorem blank_cases {c:UInt8} (h:c ∈ blanks):c=32\/c=9\/c=10:=by simpa [blanks] using h
theorem skip_blank {p u:LB_} (h:Blk_ p):skipB (p++u)=skipB u:=by
 induction p with
 | nil=>rfl
 | cons a p ih=>
  have ha:=h a (List.mem_cons_self ..);rw [List.cons_append]
  show (a::(p++u)).dropWhile _=_
  rw [List.dropWhile_cons,if_pos (by simpa using ha)]
  exact ih (fun c hc=>h c (List.mem_cons_of_mem _ hc))
theorem skip_none {u:LB_} (h:∀ c,u.head? =some c->c ∉ blanks):skipB u=u:=by
 cases u with
 | nil=>rfl
 | cons a u=>
  show (a::u).dropWhile _=_
  rw [List.dropWhile_cons,if_neg (by simpa using h a rfl)]
theorem skip_head (u:LB_):∀ c,(skipB u).head? =some c->c ∉ blanks:=by
 induction u with
 | nil=>intro c h;cases h
 | cons a u ih=>
  intro c
  show ((a::u).dropWhile _).head? =some c->_
  rw [List.dropWhile_cons]
  split
  ·exact ih c
  ·next hb=>
   intro h
   injection h with h
   subst h
   simpa using hb
theorem skip_skip (u:LB_):skipB (skipB u)=skipB u:=skip_none (skip_head u)
theorem stop_part {l:LB_} (h:Stop_ l):∀ c,l.head? =some c->npartB c=false:=by
 intro c hc
 rcases h c hc with h1 | h1
 ·rcases blank_cases h1 with rfl | rfl | rfl <;>decide
 ·subst h1;decide
theorem stop_not {l:LB_} (h:Stop_ l) {d:UInt8} (hd:d≠32/\d≠9/\d≠10/\d≠41):l.head? ≠some d:=by
 intro hc
 rcases h d hc with h1 | h1
 ·rcases blank_cases h1 with h2 | h2 | h2
  ·exact hd.1 h2
  ·exact hd.2.1 h2
  ·exact hd.2.2.1 h2
 ·exact hd.2.2.2 h1
theorem takeWhile_app {p:UInt8->Bool} {l r:LB_} (h:l.all p=true) (hr:∀ c,r.head? =some c->p c=false):(l++r).takeWhile p=l:=by
 induction l with
 | nil=>
  cases r with
  | nil=>rfl
  | cons a r=>rw [List.nil_append,List.takeWhile_cons,if_neg (by rw [hr a rfl];decide)]
 | cons a l ih=>
  rw [List.all_cons,Bool.and_eq_true] at h;rw [List.cons_append,List.takeWhile_cons,if_pos h.1,ih h.2]
theorem name_parts {l:LB_} (h:nameL l=true):∃ c r,l=c::r/\nletB c=true/\r.all npartB=true/\l.length<=256:=by
 unfold nameL at h;rw [Bool.and_eq_true,Bool.and_eq_true] at h;obtain ⟨⟨h1,h2⟩,h3⟩:=h
 cases l with
 | nil=>cases h2
 | cons c r=>
  rw [List.all_cons,Bool.and_eq_true] at h1
  exact ⟨c,r,rfl,h2,h1.2,of_decide_eq_true h3⟩
theorem nameK_app {l r:LB_} (h:nameL l=true) (hr:∀ c,r.head? =some c->npartB c=false):nameK (l++r)=l.length:=by
 obtain ⟨c,t,rfl,h1,h2, -⟩:=name_parts h;rw [List.cons_append,nameK,if_pos h1,takeWhile_app h2 hr,List.length_cons,Nat.add_comm]
theorem nameT_app {l r:LB_} (h:nameL l=true) (hr:∀ c,r.head? =some c->npartB c=false):nameT (l++r)=bs l/\nameD (l++r)=r:=by
 unfold nameT nameD;rw [nameK_app h hr]
 exact ⟨by rw [List.take_left],by rw [List.drop_left]⟩
theorem nlet_not {c:UInt8} (h:nletB c=true):c ∉ blanks/\c≠34/\c≠45/\digitB c=false/\c≠46/\c≠36/\c≠40/\c≠41/\c≠124/\c≠47/\c≠123/\c≠125/\c≠44/\c≠58:=by
 have key:(List.range 256).all (fun n=>!(nletB (UInt8.ofNat n)) || (decide (UInt8.ofNat n ∉ blanks) && (UInt8.ofNat n !=34) && (UInt8.ofNat n !=45) && (digitB (UInt8.ofNat n)==false) && (UInt8.ofNat n !=46) && (UInt8.ofNat n !=36) && (UInt8.ofNat n !=40) && (UInt8.ofNat n !=41) && (UInt8.ofNat n !=124) && (UInt8.ofNat n !=47) && (UInt8.ofNat n !=123) && (UInt8.ofNat n !=125) && (UInt8.ofNat n !=44) && (UInt8.ofNat n !=58)))=true:=by decide+kernel
 have hc:UInt8.ofNat c.toNat=c:=UInt8.ofNat_toNat
 have:=List.all_eq_true.1 key c.toNat (List.mem_range.2 (UInt8.toNat_lt c))
 rw [hc,h] at this
 simp only [Bool.not_true,Bool.false_or,Bool.and_eq_true,decide_eq_true_eq,bne_iff_ne,ne_eq,beq_iff_eq] at this
 obtain ⟨⟨⟨⟨⟨⟨⟨⟨⟨⟨⟨⟨⟨a1,a2⟩,a3⟩,a4⟩,a5⟩,a6⟩,a7⟩,a8⟩,a9⟩,a10⟩,a11⟩,a12⟩,a13⟩,a14⟩:=this
 exact ⟨a1,a2,a3,a4,a5,a6,a7,a8,a9,a10,a11,a12,a13,a14⟩
def stepsW (l:List ByteArray):LB_:=l.flatMap (fun s=>46::s.data.toList)
theorem stepsW_cons (s:ByteArray) (l:List ByteArray):stepsW (s::l)=46::(s.data.toList++stepsW l):=by simp [stepsW]
theorem stepsW_head {l:List ByteArray} {r:LB_} (hr:∀ c,r.head? =some c->npartB c=false):∀ c,(stepsW l++r).head? =some c->npartB c=false:=by
 cases l with
 | nil=>exact hr
 | cons s l=>intro c hc;rw [stepsW_cons,List.cons_append] at hc;injection hc with hc;subst hc;decide
theorem stepsL_app {l:List ByteArray} {r:LB_} (h:∀ s ∈ l,nameL s.data.toList=true) (hr:Stop_ r):∀ N,l.length<=N->stepsL N (stepsW l++r)=(l,r):=by
 induction l with
 | nil=>
  intro N _
  show stepsL N r=_
  exact stepsL_stop N (fun c t e=>absurd (by rw [e];rfl) (stop_not hr (d:=46) (by decide)))
 | cons s l ih=>
  intro N hN;obtain ⟨N,rfl⟩:∃ k,N=k+1:=⟨N - 1,by simp only [List.length_cons] at hN;omega⟩;have hs:=h s (List.mem_cons_self ..);obtain ⟨c,t,e,h1, -, -⟩:=name_parts hs;have hh:=stepsW_head (l:=l) (stop_part hr);obtain ⟨hT,hD⟩:=nameT_app hs hh
  have e2:stepsW (s::l)++r=46::c::(t++(stepsW l++r)):=by rw [stepsW_cons,e];simp
  have e3:c::(t++(stepsW l++r))=s.data.toList++(stepsW l++r):=by rw [e];rfl
  rw [e2,stepsL_cons h1,e3,hT,hD,ih (fun x hx=>h x (List.mem_cons_of_mem _ hx)) N (by simp only [List.length_cons] at hN;omega),bs_of]
def litW (v:T):LB_:=if v.kind=0 then [110,105,108] else if v.kind=3 then quoteL v.str.data.toList else if v.kind=1 then (if v.bool then trueW else falseW) else Lib.itoa v.int
def pickW (L:LB_) (a n:Nat):Nat × Nat:=if L=[] then (0,a) else ((L.getD (a % L.length) 0).toNat % n,a+1)
theorem pickW_lt (L:LB_) (a:Nat) {n:Nat} (hn:0 < n):(pickW L a n).1 < n:=by
 unfold pickW
 split
 ·exact hn
 ·exact Nat.mod_lt _ hn
def gaps:List (LB_):=[[32],[32],[32,32],[10],[32,9]]
def gapW (L:LB_) (a:Nat):LB_ × Nat:=(gaps.getD (pickW L a 5).1 [32],(pickW L a 5).2)
theorem gap_blk (L:LB_) (a:Nat):Blk_ (gapW L a).1/\(gapW L a).1≠[]:=by
 have h:=pickW_lt L a (n:=5) (by omega)
 have key:∀ k,k < 5->(gaps.getD k [32]).all (fun c=>decide (c ∈ blanks))=true/\gaps.getD k [32]≠[]:=by decide
 obtain ⟨h1,h2⟩:=key _ h
 exact ⟨fun c hc=>of_decide_eq_true (List.all_eq_true.1 h1 c hc),h2⟩
def opW (L:LB_) (pipe:Ex->Nat->LB_ × Nat) (x:Ex) (a:Nat):LB_ × Nat:=
 if x.kind=0 then (litW x.val,a)
 else if x.kind=1 then (if x.steps=[] then [46] else stepsW x.steps,a)
 else if x.kind=2 then (36::(x.name.data.toList++stepsW x.steps),a)
 else if x.args=[] then
  if (pickW L a 2).1=1 then (x.name.data.toList,(pickW L a 2).2)
  else (40::((pipe x (pickW L a 2).2).1++[41]),(pipe x (pickW L a 2).2).2)
 else (40::((pipe x a).1++[41]),(pipe x a).2)
def argsW (L:LB_) (pipe:Ex->Nat->LB_ × Nat):List Ex->Nat->LB_ × Nat
 | [],a=>([],a)
 | x::l,a=>((gapW L a).1++((opW L pipe x (gapW L a).2).1++(argsW L pipe l (opW L pipe x (gapW L a).2).2).1),(argsW L pipe l (opW L pipe x (gapW L a).2).2).2)
def callW (L:LB_) (pipe:Ex->Nat->LB_ × Nat) (x:Ex) (l:List Ex) (pre:LB_) (a:Nat):LB_ × Nat:=
 (pre++(x.name.data.toList++(argsW L pipe l a).1),(argsW L pipe l a).2)
def pipW (L:LB_):Nat->Ex->Nat->LB_ × Nat
 | 0,_,a=>([],a)
 | n+1,x,a=>
  if x.kind≠3 then opW L (pipW L n) x a
  else match x.args.getLast? with
   | none=>callW L (pipW L n) x [] [] a
   | some y=>
    if (pickW L a 3).1=1 then
     let u:=pipW L n y (pickW L a 3).2
     let g1:=gapW L u.2
     let g2:=gapW L g1.2
     callW L (pipW L n) x x.args.dropLast (u.1++(g1.1++(124::g2.1))) g2.2
    else callW L (pipW L n) x x.args [] (pickW L a 3).2
def wordsB (s:LB_):Bool:=s !=trueW && s !=falseW && s !=[110,105,108]
structure OwnX (x:Ex):Prop where
 kind:x.kind=0\/x.kind=1\/x.kind=2\/x.kind=3
 steps:∀ s ∈ x.steps,nameL s.data.toList=true
 lit:x.kind=0->(x.val=T.zero\/(∃ b,x.val=tB b)\/(∃ n,x.val=tN n/\ -9223372036854775808<=n/\n < 9223372036854775808)\/(∃ s,x.val=tS s))/\x.name=⟨#[]⟩/\x.steps=[]/\x.args=[]
 bare:x.kind≠0->x.val=T.zero
 dot:x.kind=1->x.name=⟨#[]⟩/\x.args=[]
 var:x.kind=2->nameL x.name.data.toList=true/\x.args=[]
 call:x.kind=3->nameL x.name.data.toList=true/\wordsB x.name.data.toList=true/\x.steps=[]
inductive RightX:Nat->Ex->Prop
 | mk (d:Nat) (x:Ex) (ho:OwnX x) (hd:x.args=[]\/0 < d) (ha:∀ y ∈ x.args,RightX (d - 1) y):RightX d x
theorem RightX.own {d:Nat} {x:Ex} (h:RightX d x):OwnX x:=by cases h;assumption
theorem RightX.deep {d:Nat} {x:Ex} (h:RightX d x):x.args=[]\/0 < d:=by cases h;assumption
theorem RightX.args {d:Nat} {x:Ex} (h:RightX d x):∀ y ∈ x.args,RightX (d - 1) y:=by cases h;assumption
theorem plain_nil {r:Rd} (h:skipB r.s=[]):plainOp r=some ((Ex.zero,false),r.go []):=by unfold plainOp;rw [h]
theorem plain_name {r:Rd} {c:UInt8} {l:LB_} (h:skipB r.s=c::l) (hc:nletB c=true) (hw:wordsB ((c::l).take (nameK (c::l)))=true):plainOp r=some ((Ex.zero,false),r.go (c::l)):=by
 obtain ⟨-,h1,h2,h3,h4,h5,h6, -⟩:=nlet_not hc;unfold wordsB at hw;rw [Bool.and_eq_true,Bool.and_eq_true] at hw;obtain ⟨⟨w1,w2⟩,w3⟩:=hw;rw [bne_iff_ne] at w1 w2 w3;unfold plainOp;rw [h]
 simp only
 rw [if_neg h1,if_neg (by rintro (e | e);exact h2 e;rw [h3] at e;cases e),if_neg h4,if_neg h5,if_neg h6,if_pos hc,if_neg w1,if_neg w2,if_neg w3]
theorem plain_end {r:Rd} {c:UInt8} {l:LB_} (h:skipB r.s=c::l) (hc:c=41\/c=124):plainOp r=some ((Ex.zero,false),r.go (c::l)):=by
 unfold plainOp;rw [h]
 rcases hc with rfl | rfl <;>simp [digitB,nletB,letterB]
def End_ (l:LB_):Prop:=Stop_ l/\∀ c,(skipB l).head? =some c->c=41\/c=124
theorem op_end {rest:LB_} {d b:Int} (h:∀ c,(skipB rest).head? =some c->c=41\/c=124):opX ⟨rest,d,b⟩=((Ex.zero,false),⟨skipB rest,d,b⟩):=by
 cases hs:skipB rest with
 | nil=>exact opX_plain (plain_nil hs)
 | cons c l=>exact opX_plain (plain_end hs (h c (by rw [hs];rfl)))
theorem nameK_end {rest:LB_} (h:∀ c,(skipB rest).head? =some c->c=41\/c=124):nameK (skipB rest)=0:=by
 cases hs:skipB rest with
 | nil=>rfl
 | cons c l=>
  have hc:=h c (by rw [hs];rfl);rw [nameK,if_neg]
  rcases hc with rfl | rfl <;>decide
theorem ar_end {x:Ex} {rest:LB_} {d b:Int} (h:∀ c,(skipB rest).head? =some c->c=41\/c=124):arX x ⟨rest,d,b⟩=(x,⟨skipB rest,d,b⟩):=by
 rw [arX_eq,op_end h]
 simp only [Bool.false_eq_true,if_false]
 rw [if_pos (nameK_end h)]
theorem num_head (n:Int):∃ c l,Lib.itoa n=c::l/\(c=45\/digitB c=true)/\l.all digitB=true:=by
 unfold Lib.itoa
 split
 ·exact ⟨45,_,rfl,.inl rfl,dec_digits _ _ (Nat.le_refl _)⟩
 ·obtain ⟨c,r,e,hc⟩:=dec_head n.toNat
  have h:=dec_digits _ n.toNat (Nat.le_refl _);rw [e,List.all_cons,Bool.and_eq_true] at h
  exact ⟨c,r,e,.inr hc,h.2⟩
theorem rd_lit {p rest:LB_} {v:T} {d b:Int} (hp:Blk_ p) (hr:Stop_ rest) (hv:v=T.zero\/(∃ b,v=tB b)\/(∃ n,v=tN n/\ -9223372036854775808<=n/\n < 9223372036854775808)\/(∃ s,v=tS s)):opX ⟨p++(litW v++rest),d,b⟩=((Ex.lit v,true),⟨rest,d,b⟩):=by
 have word:∀ (c:UInt8) (t:LB_),nameL (c::t)=true->skipB (p++((c::t)++rest))=c::(t++rest)/\nletB c=true/\nameK (c::(t++rest))=(c::t).length:=fun c t hn=>by
  obtain ⟨c',t',e,h1, -⟩:=name_parts hn
  injection e with e1 e2
  subst e1 e2
  refine ⟨?_,h1,nameK_app hn (stop_part hr)⟩
  rw [skip_blank hp]
  exact skip_none (fun c hc=>by injection hc with hc;subst hc;exact (nlet_not h1).1)
 have wd:∀ (c:UInt8) (t:LB_) (q:Ex),nameL (c::t)=true->(c::t=trueW/\q=Ex.lit (tB true)\/c::t=falseW/\q=Ex.lit (tB false)\/c::t=[110,105,108]/\q=Ex.zero)->opX ⟨p++((c::t)++rest),d,b⟩=((q,true),⟨rest,d,b⟩):=fun c t q hn hq=>by
  obtain ⟨hs,h1,hk⟩:=word c t hn
  have htk:(c::(t++rest)).take (c::t).length=c::t:=by rw [<-List.cons_append,List.take_left]
  have hdr:nameD (c::(t++rest))=rest:=by unfold nameD;rw [hk,<-List.cons_append,List.drop_left]
  obtain ⟨-,g1,g2,g3,g4,g5,g6, -⟩:=nlet_not h1
  refine opX_plain ?_
  unfold plainOp;rw [show skipB (⟨p++((c::t)++rest),d,b⟩:Rd).s=c::(t++rest) from hs]
  simp only
  rw [if_neg g1,if_neg (by rintro (e | e);exact g2 e;rw [g3] at e;cases e),if_neg g4,if_neg g5,if_neg g6,if_pos h1,hk,htk,hdr]
  rcases hq with ⟨e,rfl⟩ | ⟨e,rfl⟩ | ⟨e,rfl⟩
  ·rw [if_pos e];rfl
  ·rw [if_neg (by rw [e];decide),if_pos e];rfl
  ·rw [if_neg (by rw [e];decide),if_neg (by rw [e];decide),if_pos e];rfl
 rcases hv with rfl | ⟨b',rfl⟩ | ⟨n,rfl,hn1,hn2⟩ | ⟨s,rfl⟩
 ·exact wd 110 [105,108] Ex.zero (by decide) (.inr (.inr ⟨rfl,rfl⟩))
 ·cases b' with
  | true=>exact wd 116 [114,117,101] _ (by decide) (.inl ⟨rfl,rfl⟩)
  | false=>exact wd 102 [97,108,115,101] _ (by decide) (.inr (.inl ⟨rfl,rfl⟩))
 ·obtain ⟨c,l,e,hc,hl⟩:=num_head n
  have e0:litW (tN n)=c::l:=by rw [<-e];rfl
  have hcb:c ∉ blanks/\c≠34:=by
   rcases hc with rfl | hc
   ·decide
   ·constructor
    ·intro hb;rcases blank_cases hb with rfl | rfl | rfl <;>exact absurd hc (by decide)
    ·rintro rfl;exact absurd hc (by decide)
  have hs:skipB (p++((c::l)++rest))=c::(l++rest):=by
   rw [skip_blank hp]
   exact skip_none (fun c' hc'=>by injection hc' with hc';subst hc';exact hcb.1)
  have hnk:numK (c::(l++rest))=(c::l).length:=by
   unfold numK
   rw [List.tail_cons,takeWhile_app hl (fun c' hc'=>by
    rcases hr c' hc' with h | rfl
    ·rcases blank_cases h with rfl | rfl | rfl <;>decide
    ·decide),List.length_cons,Nat.add_comm]
  have htk:(c::(l++rest)).take (c::l).length=c::l:=by rw [<-List.cons_append,List.take_left]
  have hdk:(c::(l++rest)).drop (c::l).length=rest:=by rw [<-List.cons_append,List.drop_left]
  have hnv:numV (c::l)=some (tN n):=by
   obtain ⟨h1,h2⟩:=itoa_num n hn1 hn2;unfold numV;rw [<-e,parse_int (s:=bs (Lib.itoa n)) h1 h2]
   rfl
  rw [e0]
  refine opX_plain ?_
  unfold plainOp;rw [show skipB (⟨p++((c::l)++rest),d,b⟩:Rd).s=c::(l++rest) from hs]
  simp only
  rw [if_neg hcb.2,if_pos hc,hnk,htk,hdk,hnv]
  rfl
 ·have e0:litW (tS s)=quoteL s.data.toList:=rfl
  have hs:skipB (p++(quoteL s.data.toList++rest))=34::(escL s.data.toList++([34]++rest)):=by
   rw [skip_blank hp];unfold quoteL;rw [List.cons_append,List.append_assoc]
   exact skip_none (fun c' hc'=>by injection hc' with hc';subst hc';decide)
  have hu:=unq_quote s.data.toList rest;unfold quoteL at hu;rw [List.cons_append,List.append_assoc] at hu;rw [e0]
  refine opX_plain ?_
  unfold plainOp;rw [show skipB (⟨p++(quoteL s.data.toList++rest),d,b⟩:Rd).s=34::(escL s.data.toList++([34]++rest)) from hs]
  simp only
  rw [if_pos trivial,hu]
  rfl
theorem rd_dot {p rest:LB_} {st:List ByteArray} {d b:Int} (hp:Blk_ p) (hr:Stop_ rest) (hst:∀ s ∈ st,nameL s.data.toList=true):opX ⟨p++((if st=[] then [46] else stepsW st)++rest),d,b⟩=((.mk 1 T.zero ⟨#[]⟩ st [],true),⟨rest,d,b⟩):=by
 obtain ⟨t,ht⟩:∃ t,(if st=[] then [46] else stepsW st)++rest=46::t:=by
  cases st with
  | nil=>exact ⟨rest,rfl⟩
  | cons s st=>rw [if_neg (by simp),stepsW_cons];exact ⟨_,rfl⟩
 have hs:skipB (p++((if st=[] then [46] else stepsW st)++rest))=46::t:=by
  rw [skip_blank hp,ht]
  exact skip_none (fun c' hc'=>by injection hc' with hc';subst hc';decide)
 have hlen:st.length<=t.length+1:=by
  have h9:=congrArg List.length ht;rw [List.length_append,List.length_cons] at h9
  have:st.length<=(stepsW st).length:=by
   clear ht hs hst h9
   induction st with
   | nil=>exact Nat.zero_le _
   | cons s st ih=>rw [stepsW_cons];simp only [List.length_cons,List.length_append];omega
  split at h9
  ·next e=>rw [e];exact Nat.zero_le _
  ·omega
 refine opX_plain ?_
 unfold plainOp;rw [show skipB (⟨p++((if st=[] then [46] else stepsW st)++rest),d,b⟩:Rd).s=46::t from hs]
 simp only
 rw [if_neg (by decide),if_neg (by decide),if_pos trivial,<-ht]
 cases st with
 | nil=>
  have h1:stepsL (t.length+1) (([46]:LB_)++rest)=([],[46]++rest):=stepsL_stop _ (fun c r e=>by
   injection e with _ e
   have e':rest=c::r:=e
   have:=stop_part hr c (by rw [e'];rfl)
   cases hc:nletB c with
   | false=>rfl
   | true=>rw [npart_of hc] at this;cases this)
  rw [if_pos rfl,h1]
  rfl
 | cons s st=>
  rw [if_neg (by simp),stepsL_app hst hr _ hlen]
  rfl
theorem rd_var {p rest:LB_} {nm:ByteArray} {st:List ByteArray} {d b:Int} (hp:Blk_ p) (hr:Stop_ rest) (hn:nameL nm.data.toList=true) (hst:∀ s ∈ st,nameL s.data.toList=true):opX ⟨p++(36::(nm.data.toList++stepsW st)++rest),d,b⟩=((.mk 2 T.zero nm st [],true),⟨rest,d,b⟩):=by
 have hs:skipB (p++(36::(nm.data.toList++stepsW st)++rest))=36::(nm.data.toList++(stepsW st++rest)):=by
  rw [skip_blank hp,List.cons_append,List.append_assoc]
  exact skip_none (fun c' hc'=>by injection hc' with hc';subst hc';decide)
 have hh:=stepsW_head (l:=st) (stop_part hr);obtain ⟨hT,hD⟩:=nameT_app hn hh;have hK:=nameK_app hn hh;obtain ⟨c,t,e, -⟩:=name_parts hn
 have hk0:¬ nameK (nm.data.toList++(stepsW st++rest))=0:=by rw [hK,e];simp
 have hlen:st.length<=(nm.data.toList++(stepsW st++rest)).length+1:=by
  have:st.length<=(stepsW st).length:=by
   clear hs hh hT hD hK hk0 hst
   induction st with
   | nil=>exact Nat.zero_le _
   | cons s st ih=>rw [stepsW_cons];simp only [List.length_cons,List.length_append];omega
  simp only [List.length_append];omega
 refine opX_plain ?_
 unfold plainOp;rw [show skipB (⟨p++(36::(nm.data.toList++stepsW st)++rest),d,b⟩:Rd).s=36::(nm.data.toList++(stepsW st++rest)) from hs]
 simp only
 rw [if_neg (by decide),if_neg (by decide),if_neg (by decide),if_pos trivial,if_neg hk0,hT,hD,stepsL_app hst hr _ hlen,bs_of]
 rfl
theorem last_cat {α:Type} {y:α}:∀ {l:List α},l.getLast? =some y->l.dropLast++[y]=l
 | [],h=>by cases h
 | [a],h=>by simp at h;rw [h];rfl
 | a::b::l,h=>by
  rw [List.getLast?_cons_cons] at h;rw [List.dropLast_cons_cons,List.cons_append,last_cat h]
def PipOk (L:LB_) (n:Nat):Prop:=∀ (d:Nat) (x:Ex) (a:Nat) (deep:Int) (rest:LB_),RightX d x->d+1<=n->0<=deep->deep+d<=16->End_ rest->piX ⟨(pipW L n x a).1++rest,deep,0⟩=baX x ⟨rest,deep,0⟩
theorem end_close (rest:LB_):End_ (41::rest):=by
 refine ⟨fun c hc=>by injection hc with hc;exact .inr hc.symm,fun c hc=>?_⟩
 rw [skip_none (fun c' hc'=>by injection hc' with hc';subst hc';decide)] at hc
 injection hc with hc
 exact .inl hc.symm
theorem end_nil:End_ []:=⟨(fun c hc=>by cases hc),(fun c hc=>by cases hc)⟩
theorem call_of {x:Ex} (h:OwnX x) (hk:x.kind=3):x=Ex.call x.name x.args:=by
 have h1:=h.bare (by omega);have h2:=(h.call hk).2.2;obtain ⟨k,v,nm,st,ar⟩:=x
 simp only [Ex.kind] at hk
 simp only [Ex.val] at h1
 simp only [Ex.steps] at h2
 subst hk h1 h2
 rfl
section
variable {L:LB_} {n:Nat}
theorem op_read (hP:PipOk L n) {d:Nat} {y:Ex} {a:Nat} {deep:Int} {p rest:LB_} (hy:RightX d y) (hn:d+1<=n) (h0:0<=deep) (hd:deep+d+1<=16) (hp:Blk_ p) (hr:Stop_ rest):
  (opX ⟨p++((opW L (pipW L n) y a).1++rest),deep,0⟩=((y,true),⟨rest,deep,0⟩))\/(y.kind=3/\y.args=[]/\(opW L (pipW L n) y a).1=y.name.data.toList):=by
 have ho:=hy.own
 have br:∀ a,opX ⟨p++((40::((pipW L n y a).1++[41]))++rest),deep,0⟩=((y,true),⟨rest,deep,0⟩):=fun a=>by
  have hs:skipB (p++((40::((pipW L n y a).1++[41]))++rest))=40::((pipW L n y a).1++(41::rest)):=by
   rw [skip_blank hp,List.cons_append,List.append_assoc]
   exact skip_none (fun c' hc'=>by injection hc' with hc';subst hc';decide)
  have h1:=hP d y a (deep+1) (41::rest) hy hn (by omega) (by omega) (end_close rest)
  have h2:baX y ⟨41::rest,deep+1,0⟩=(y,⟨41::rest,deep+1,0⟩):=by
   have h3:skipB (41::rest)=41::rest:=skip_none (fun c' hc'=>by injection hc' with hc';subst hc';decide);rw [baX_end (by rw [h3];simp)]
   show (y,(⟨skipB (41::rest),deep+1,0⟩:Rd))=_
   rw [h3]
  have hpi:=h1.trans h2
  rw [opX_br (l:=(pipW L n y a).1++(41::rest)) (l2:=rest) hs (by show ¬ 16 < deep+1;omega) (by
   show skipB (piX ⟨_,deep+1,0⟩).2.s=_
   rw [hpi]
   exact skip_none (fun c' hc'=>by injection hc' with hc';subst hc';decide))]
  show (((piX ⟨_,deep+1,0⟩).1,true),(⟨rest,(piX ⟨_,deep+1,0⟩).2.deep - 1,(piX ⟨_,deep+1,0⟩).2.bad⟩:Rd))=_
  rw [hpi]
  simp only [Int.add_sub_cancel]
 rcases ho.kind with hk | hk | hk | hk
 ·obtain ⟨hv,h1,h2,h3⟩:=ho.lit hk
  refine .inl ?_
  have e:y=Ex.lit y.val:=by obtain ⟨k,v,nm,st,ar⟩:=y;simp only [Ex.kind] at hk;simp only [Ex.name] at h1;simp only [Ex.steps] at h2;simp only [Ex.args] at h3;subst hk h1 h2 h3;rfl
  have e2:(opW L (pipW L n) y a).1=litW y.val:=by unfold opW;rw [if_pos hk]
  rw [e2,rd_lit hp hr hv,<-e]
 ·obtain ⟨h1,h3⟩:=ho.dot hk
  have h4:=ho.bare (by omega)
  refine .inl ?_
  have e:y=.mk 1 T.zero ⟨#[]⟩ y.steps []:=by obtain ⟨k,v,nm,st,ar⟩:=y;simp only [Ex.kind] at hk;simp only [Ex.name] at h1;simp only [Ex.args] at h3;simp only [Ex.val] at h4;subst hk h1 h3 h4;rfl
  have e2:(opW L (pipW L n) y a).1=if y.steps=[] then [46] else stepsW y.steps:=by unfold opW;rw [if_neg (by omega),if_pos hk]
  rw [e2,rd_dot hp hr ho.steps,<-e]
 ·obtain ⟨h1,h3⟩:=ho.var hk
  have h4:=ho.bare (by omega)
  refine .inl ?_
  have e:y=.mk 2 T.zero y.name y.steps []:=by obtain ⟨k,v,nm,st,ar⟩:=y;simp only [Ex.kind] at hk;simp only [Ex.args] at h3;simp only [Ex.val] at h4;subst hk h3 h4;rfl
  have e2:(opW L (pipW L n) y a).1=36::(y.name.data.toList++stepsW y.steps):=by unfold opW;rw [if_neg (by omega),if_neg (by omega),if_pos hk]
  rw [e2,rd_var hp hr h1 ho.steps,<-e]
 ·unfold opW
  rw [if_neg (by omega),if_neg (by omega),if_neg (by omega)]
  by_cases ha:y.args=[]
  ·rw [if_pos ha]
   by_cases hk2:(pickW L a 2).1=1
   ·rw [if_pos hk2]
    exact .inr ⟨hk,ha,rfl⟩
   ·rw [if_neg hk2]
    exact .inl (br _)
  ·rw [if_neg ha]
   exact .inl (br _)
theorem arg_read (hP:PipOk L n) {d:Nat} {y X:Ex} {a:Nat} {deep:Int} {p rest:LB_} (hy:RightX d y) (hn:d+1<=n) (h0:0<=deep) (hd:deep+d+1<=16) (hp:Blk_ p) (hr:Stop_ rest):
  arX X ⟨p++((opW L (pipW L n) y a).1++rest),deep,0⟩=arX (X.push y) ⟨rest,deep,0⟩:=by
 rcases op_read (a:=a) hP hy hn h0 hd hp hr with h | ⟨hk,ha,he⟩
 ·rw [arX_eq,h]
  rfl
 ·obtain ⟨hn1,hw, -⟩:=hy.own.call hk
  rw [he];obtain ⟨c,t,e,hc, -⟩:=name_parts hn1
  have hs:skipB (p++(y.name.data.toList++rest))=c::(t++rest):=by
   rw [skip_blank hp,e]
   exact skip_none (fun c' hc'=>by injection hc' with hc';subst hc';exact (nlet_not hc).1)
  have e3:c::(t++rest)=y.name.data.toList++rest:=by rw [e];rfl
  have hK:=nameK_app hn1 (stop_part hr);obtain ⟨hT,hD⟩:=nameT_app hn1 (stop_part hr)
  have hop:opX ⟨p++(y.name.data.toList++rest),deep,0⟩=((Ex.zero,false),⟨y.name.data.toList++rest,deep,0⟩):=by
   rw [opX_plain (plain_name (r:=⟨p++(y.name.data.toList++rest),deep,0⟩) hs hc (by rw [e3,hK,List.take_left];exact hw)),e3]
   rfl
  rw [arX_eq,hop]
  simp only [Bool.false_eq_true,if_false]
  rw [if_neg (by rw [hK,e];simp),hT]
  show arX _ ⟨nameD (y.name.data.toList++rest),deep,0⟩=_
  rw [hD,bs_of,show Ex.call y.name []=y from by rw [<-ha];exact (call_of hy.own hk).symm]
theorem args_stop (l:List Ex) (a:Nat) {pipe:Ex->Nat->LB_ × Nat} {rest:LB_} (hr:Stop_ rest):Stop_ ((argsW L pipe l a).1++rest):=by
 cases l with
 | nil=>exact hr
 | cons x l=>
  obtain ⟨h1,h2⟩:=gap_blk L a;intro c hc;unfold argsW at hc
  simp only at hc
  cases hg:(gapW L a).1 with
  | nil=>exact absurd hg h2
  | cons g gs=>
   rw [hg] at hc h1
   injection hc with hc
   subst hc
   exact .inl (h1 g (List.mem_cons_self ..))
theorem args_read (hP:PipOk L n) {d:Nat} {deep:Int} {rest:LB_} (hn:d+1<=n) (h0:0<=deep) (hd:deep+d+1<=16) (hr:Stop_ rest) (nm:ByteArray):∀ (l done:List Ex) (a:Nat),(∀ y ∈ l,RightX d y)->
  arX (Ex.call nm done) ⟨(argsW L (pipW L n) l a).1++rest,deep,0⟩=arX (Ex.call nm (done++l)) ⟨rest,deep,0⟩
 | [],done,a,h=>by rw [List.append_nil];rfl
 | y::l,done,a,h=>by
  have h1:=args_read hP hn h0 hd hr nm l (done++[y]) (opW L (pipW L n) y (gapW L a).2).2 (fun z hz=>h z (List.mem_cons_of_mem _ hz))
  have e:(argsW L (pipW L n) (y::l) a).1++rest=(gapW L a).1++((opW L (pipW L n) y (gapW L a).2).1++((argsW L (pipW L n) l (opW L (pipW L n) y (gapW L a).2).2).1++rest)):=by
   rw [argsW]
   simp only [List.append_assoc]
  rw [e,arg_read hP (h y (List.mem_cons_self ..)) hn h0 hd (gap_blk L a).1 (args_stop l _ hr)]
  show arX (Ex.call nm (done++[y])) _=_
  rw [h1,List.append_assoc]
  rfl
theorem call_read (hP:PipOk L n) {d:Nat} {deep:Int} {p rest:LB_} {nm:ByteArray} {l:List Ex} {a:Nat} (hn:d+1<=n\/l=[]) (h0:0<=deep) (hd:deep+d+1<=16\/l=[]) (hr:End_ rest) (hp:Blk_ p) (h1:nameL nm.data.toList=true) (h2:wordsB nm.data.toList=true) (hl:∀ y ∈ l,RightX d y):
  coX ⟨p++(nm.data.toList++((argsW L (pipW L n) l a).1++rest)),deep,0⟩=(Ex.call nm l,⟨skipB rest,deep,0⟩):=by
 have hst:=args_stop (L:=L) l a (pipe:=pipW L n) hr.1;obtain ⟨c,t,e,hc, -⟩:=name_parts h1
 have hs:skipB (p++(nm.data.toList++((argsW L (pipW L n) l a).1++rest)))=c::(t++((argsW L (pipW L n) l a).1++rest)):=by
  rw [skip_blank hp,e]
  exact skip_none (fun c' hc'=>by injection hc' with hc';subst hc';exact (nlet_not hc).1)
 have e3:c::(t++((argsW L (pipW L n) l a).1++rest))=nm.data.toList++((argsW L (pipW L n) l a).1++rest):=by rw [e];rfl
 have hK:=nameK_app h1 (stop_part hst);obtain ⟨hT,hD⟩:=nameT_app h1 (stop_part hst)
 have hop:opX ⟨p++(nm.data.toList++((argsW L (pipW L n) l a).1++rest)),deep,0⟩=((Ex.zero,false),⟨nm.data.toList++((argsW L (pipW L n) l a).1++rest),deep,0⟩):=by
  rw [opX_plain (plain_name (r:=⟨p++(nm.data.toList++((argsW L (pipW L n) l a).1++rest)),deep,0⟩) hs hc (by rw [e3,hK,List.take_left];exact h2)),e3]
  rfl
 rw [coX_eq,hop]
 simp only [Bool.false_eq_true,if_false]
 rw [if_neg (by rw [hK,e];simp),hT]
 show arX _ ⟨nameD (nm.data.toList++((argsW L (pipW L n) l a).1++rest)),deep,0⟩=_
 rw [hD,bs_of]
 rcases hn with hn | rfl
 ·rcases hd with hd | rfl
  ·rw [args_read hP hn h0 hd hr.1 nm l [] a hl,ar_end hr.2,List.nil_append]
  ·exact ar_end hr.2
 ·exact ar_end hr.2
end
theorem pip_ok (L:LB_):∀ n,PipOk L n
 | 0=>fun d x a deep rest hx hn=>by omega
 | n+1=>by
  have hP:=pip_ok L n;intro d x a deep rest hx hn h0 hd hr;have ho:=hx.own
  have fin:∀ (y:Ex),baX y ⟨skipB rest,deep,0⟩=baX y ⟨rest,deep,0⟩:=fun y=>by
   by_cases h:(skipB rest).head? =some 124
   ·obtain ⟨l,hl⟩:∃ l,skipB rest=124::l:=by cases hh:skipB rest with | nil=>rw [hh] at h;cases h | cons c l=>rw [hh] at h;injection h with h;subst h;exact ⟨l,rfl⟩
    rw [baX_bar (r:=⟨skipB rest,deep,0⟩) (l:=l) (by show skipB (skipB rest)=_;rw [skip_skip,hl]),baX_bar (r:=⟨rest,deep,0⟩) (l:=l) hl]
    rfl
   ·rw [baX_end (r:=⟨skipB rest,deep,0⟩) (by show (skipB (skipB rest)).head? ≠_;rw [skip_skip];exact h),baX_end (r:=⟨rest,deep,0⟩) h]
    show (y,(⟨skipB (skipB rest),deep,0⟩:Rd))=_
    rw [skip_skip]
    rfl
  have sub:x.args≠[]->∀ y ∈ x.args,RightX (d - 1) y:=fun _=>hx.args
  have bnd:∀ l:List Ex,(∀ y ∈ l,y ∈ x.args)->(d - 1+1<=n\/l=[])/\(deep+(d - 1:Nat)+1<=16\/l=[]):=fun l hl=>by
   rcases hx.deep with h | h
   ·have:l=[]:=by cases l with | nil=>rfl | cons y l=>have:=hl y (List.mem_cons_self ..);rw [h] at this;cases this
    exact ⟨.inr this,.inr this⟩
   ·exact ⟨.inl (by omega),.inl (by omega)⟩
  unfold pipW
  by_cases hk:x.kind=3
  ·rw [if_neg (fun h=>h hk)]
   obtain ⟨h1,h2, -⟩:=ho.call hk;have hxe:=call_of ho hk
   have plain:∀ a,piX ⟨(callW L (pipW L n) x x.args [] a).1++rest,deep,0⟩=baX x ⟨rest,deep,0⟩:=fun a=>by
    have hb:=bnd x.args (fun _ h=>h);have hc:=call_read (L:=L) (n:=n) (d:=d - 1) (deep:=deep) (p:=[]) (rest:=rest) (nm:=x.name) (l:=x.args) (a:=a) hP hb.1 h0 hb.2 hr (fun c hc=>by cases hc) h1 h2 hx.args;rw [List.nil_append] at hc;unfold callW
    simp only [List.nil_append,List.append_assoc]
    rw [piX_eq,hc]
    show baX (Ex.call x.name x.args) ⟨skipB rest,deep,0⟩=_
    rw [fin,<-hxe]
   cases hl:x.args.getLast? with
   | none=>
    have hnil:x.args=[]:=by simpa using hl
    have:=plain a
    rw [hnil] at this
    exact this
   | some y=>
    simp only
    by_cases hp:(pickW L a 3).1=1
    ·rw [if_pos hp]
     have hne:x.args≠[]:=fun e=>by rw [e] at hl;cases hl
     have hcat:x.args.dropLast++[y]=x.args:=last_cat hl;have hy:RightX (d - 1) y:=hx.args y (by rw [<-hcat];simp);have hb:=bnd x.args.dropLast (fun z hz=>by rw [<-hcat];exact List.mem_append_left _ hz);have hdp:0 < d:=hx.deep.resolve_left hne;obtain ⟨u,hu⟩:∃ z,z=pipW L n y (pickW L a 3).2:=⟨_,rfl⟩;obtain ⟨g1,hg1⟩:∃ z,z=gapW L u.2:=⟨_,rfl⟩;obtain ⟨g2,hg2⟩:∃ z,z=gapW L g1.2:=⟨_,rfl⟩
     have hb1:Blk_ g1.1/\g1.1≠[]:=by rw [hg1];exact gap_blk L u.2
     have hb2:Blk_ g2.1/\g2.1≠[]:=by rw [hg2];exact gap_blk L g1.2
     rw [<-hu,<-hg1,<-hg2];unfold callW
     simp only [List.append_assoc,List.cons_append]
     obtain ⟨tl,htl⟩:∃ z,z=x.name.data.toList++((argsW L (pipW L n) x.args.dropLast g2.2).1++rest):=⟨_,rfl⟩;rw [<-htl]
     have hend:End_ (g1.1++(124::(g2.1++tl))):=by
      have hsk:skipB (g1.1++(124::(g2.1++tl)))=124::(g2.1++tl):=by
       rw [skip_blank hb1.1]
       exact skip_none (fun c' hc'=>by injection hc' with hc';subst hc';decide)
      refine ⟨fun c hc=>?_,fun c hc=>?_⟩
      ·cases hg:g1.1 with
       | nil=>exact absurd hg hb1.2
       | cons g gs=>
        rw [hg] at hc hb1
        injection hc with hc
        subst hc
        exact .inl (hb1.1 g (List.mem_cons_self ..))
      ·rw [hsk] at hc
       injection hc with hc
       exact .inr hc.symm
     have hsk:skipB (g1.1++(124::(g2.1++tl)))=124::(g2.1++tl):=by
      rw [skip_blank hb1.1]
      exact skip_none (fun c' hc'=>by injection hc' with hc';subst hc';decide)
     have hpy:=hP (d - 1) y (pickW L a 3).2 deep (g1.1++(124::(g2.1++tl))) hy (by omega) h0 (by omega) hend;rw [<-hu] at hpy;have hc:=call_read (L:=L) (n:=n) (d:=d - 1) (deep:=deep) (p:=g2.1) (rest:=rest) (nm:=x.name) (l:=x.args.dropLast) (a:=g2.2) hP hb.1 h0 hb.2 hr hb2.1 h1 h2 (fun z hz=>hx.args z (by rw [<-hcat];exact List.mem_append_left _ hz));rw [<-htl] at hc;rw [hpy,baX_bar (r:=⟨g1.1++(124::(g2.1++tl)),deep,0⟩) (l:=g2.1++tl) hsk]
     show (if (coX ⟨g2.1++tl,deep,0⟩).1.kind≠3/\(coX ⟨g2.1++tl,deep,0⟩).2.bad=0 then _ else baX ((coX ⟨g2.1++tl,deep,0⟩).1.push y) (coX ⟨g2.1++tl,deep,0⟩).2)=_
     rw [hc,if_neg (fun h=>h.1 rfl)]
     show baX (Ex.call x.name (x.args.dropLast++[y])) ⟨skipB rest,deep,0⟩=_
     rw [hcat,fin,<-hxe]
    ·rw [if_neg hp]
     exact plain _
  ·rw [if_pos hk]
   have hd0:x.args=[]:=by
    rcases ho.kind with h | h | h | h
    ·exact (ho.lit h).2.2.2
    ·exact (ho.dot h).2
    ·exact (ho.var h).2
    ·exact absurd h hk
   have lit:opX ⟨[]++((opW L (pipW L n) x a).1++rest),deep,0⟩=((x,true),⟨rest,deep,0⟩):=by
    have hp:Blk_ []:=fun c hc=>by cases hc
    have hs:=hr.1
    rcases ho.kind with hk0 | hk0 | hk0 | hk0
    ·obtain ⟨hv,h1,h2,h3⟩:=ho.lit hk0
     have e:x=Ex.lit x.val:=by obtain ⟨k,v,nm,st,ar⟩:=x;simp only [Ex.kind] at hk0;simp only [Ex.name] at h1;simp only [Ex.steps] at h2;simp only [Ex.args] at h3;subst hk0 h1 h2 h3;rfl
     have e2:(opW L (pipW L n) x a).1=litW x.val:=by unfold opW;rw [if_pos hk0]
     rw [e2,rd_lit hp hs hv,<-e]
    ·obtain ⟨h1,h3⟩:=ho.dot hk0
     have h4:=ho.bare (by omega)
     have e:x=.mk 1 T.zero ⟨#[]⟩ x.steps []:=by obtain ⟨k,v,nm,st,ar⟩:=x;simp only [Ex.kind] at hk0;simp only [Ex.name] at h1;simp only [Ex.args] at h3;simp only [Ex.val] at h4;subst hk0 h1 h3 h4;rfl
     have e2:(opW L (pipW L n) x a).1=if x.steps=[] then [46] else stepsW x.steps:=by unfold opW;rw [if_neg (by omega),if_pos hk0]
     rw [e2,rd_dot hp hs ho.steps,<-e]
    ·obtain ⟨h1,h3⟩:=ho.var hk0
     have h4:=ho.bare (by omega)
     have e:x=.mk 2 T.zero x.name x.steps []:=by obtain ⟨k,v,nm,st,ar⟩:=x;simp only [Ex.kind] at hk0;simp only [Ex.args] at h3;simp only [Ex.val] at h4;subst hk0 h3 h4;rfl
     have e2:(opW L (pipW L n) x a).1=36::(x.name.data.toList++stepsW x.steps):=by unfold opW;rw [if_neg (by omega),if_neg (by omega),if_pos hk0]
     rw [e2,rd_var hp hs h1 ho.steps,<-e]
    ·exact absurd hk0 hk
   rw [List.nil_append] at lit;rw [piX_eq,coX_eq,lit]
   rfl
theorem all_read {L:LB_} {n d:Nat} {x:Ex} {a:Nat} (hx:RightX d x) (hn:d+1<=n) (hd:d<=16):allF (pipW L n x a).1=(x,0):=by
 have h:=pip_ok L n d x a 0 [] hx hn (Int.le_refl _) (by omega) end_nil;rw [List.append_nil] at h
 have h2:baX x ⟨[],0,0⟩=(x,⟨[],0,0⟩):=by rw [baX_end (by show (skipB []).head? ≠_;simp [skipB,Lib.trimLeftS])];rfl
 exact allF_of (h.trans h2) rfl
end Go.Proofs.YtnblmhfgmehnnaaGreatDoor
namespace Go.Proofs.YtnblmhfgmehnnaaGreatDoor
open Go.RowKit Go.Lib
attribute [local go_sem ↓] Go.wp_at_zero Go.wp_at_succ
structure StAt (w:World) (gs:Nat) (A:OA_) (c:Nat) (L:LB_) (a:Nat):Prop where
 blk:Blk w gs 28 #[.slice A L.length c,.int .i64 a]
 row:∀ i (h:i < L.length),∃ b o,A=some ⟨b,o,none⟩/\b≠gs/\b < w.heap.size/\w.cell? ⟨b,o+i,none⟩=some (.int .u8 L[i].toNat)
 few:L.length<=1000000
section
variable {w w':World} {gs:Nat} {A:OA_} {c:Nat} {L:LB_} {a a':Nat}
theorem StAt.keep (h:StAt w gs A c L a) (hb:Below w.heap.size w w'):StAt w' gs A c L a:=
 ⟨h.blk.keep hb,fun i hi=>by obtain ⟨b,o,e,h1,h2,h3⟩:=h.row i hi;exact ⟨b,o,e,h1,Nat.lt_of_lt_of_le h2 hb.size,(hb.cell (p:=⟨b,o+i,none⟩) h2).trans h3⟩,h.few⟩
theorem StAt.to (h:StAt w gs A c L a) (hb:Bar w w' gs) (hk:Blk w' gs 28 #[.slice A L.length c,.int .i64 a']):StAt w' gs A c L a':=
 ⟨hk,fun i hi=>by obtain ⟨b,o,e,h1,h2,h3⟩:=h.row i hi;exact ⟨b,o,e,h1,Nat.lt_of_lt_of_le h2 hb.size,(hb.cell h2 h1).trans h3⟩,h.few⟩
end
theorem tpick (gs:Nat) (A:OA_) (c:Nat) (L:LB_) (a n:Nat) (w:World) (h:StAt w gs A c L a) (hn:0 < n) (hn2:n<=10) (ha:a<=1099511627776):Calls Tryz.prog 34 #[.pointer (some ⟨gs,0,none⟩),.int .i64 n] w fun e w'=>e=.returned (.int .i64 ((pickW L a n).1:Nat))/\StAt w' gs A c L (pickW L a n).2/\Bar w w' gs:=by
 have H:=h_ h;have k0:=h.blk.cell;have f0:=h.blk.frozen;have l0:=h.blk.lt;have hfew:=h.few;clear h
 by_cases hL:L=[]
 ·have hp:pickW L a n=(0,a):=by unfold pickW;rw [if_pos hL]
  have g0:((L.length:Int)==0)=true:=by rw [hL];rfl
  rw [hp];clear hp hL
  go_enter Tryz.func34,Tryz.ntmps34
  go_wp2_with fail;go_ret
  exact ⟨rfl,H.out,Bar.refl _ _⟩
 ·have hl:0 < L.length:=List.length_pos_iff.2 hL
  obtain ⟨k,hk⟩:∃ z,z=a % L.length:=⟨_,rfl⟩
  have hkl:k < L.length:=by rw [hk];exact Nat.mod_lt _ hl
  have hp:pickW L a n=(L[k].toNat % n,a+1):=by unfold pickW;rw [if_neg hL,<-hk,List.getD_eq_getElem?_getD,List.getElem?_eq_getElem hkl];rfl
  obtain ⟨b,o,rfl,hbg,hbl,hc⟩:=H.out.row k hkl;rw [hp];obtain ⟨u,hu⟩:∃ z,z=L[k].toNat:=⟨_,rfl⟩
  have hu8:u < 256:=by rw [hu];exact UInt8.toNat_lt _
  rw [<-hu] at hc ⊢;have g0:((L.length:Int)==0)=false:=bf_ (by omega)
  have gm:(a:Int) % (L.length:Int)=(k:Int):=by rw [hk];omega
  have gl0:(0:Int)<=(k:Int):=by omega
  have gl1:(k:Int) < (L.length:Int):=by omega
  have gt:Int.tmod (a:Int) (L.length:Int)=(k:Int):=by rw [Int.tmod_eq_emod_of_nonneg (by omega)];exact gm
  have gw:IntKind.i64.wrap (k:Int)=(k:Int):=wrap_fit (by omega) (by omega);have gw2:IntKind.i64.wrap (u:Int)=(u:Int):=wrap_fit (by omega) (by omega);have GM:=h_ gm
  have hla:(L.length:Int)≠0:=by omega
  clear hp hL hk hu gm
  go_enter Tryz.func34,Tryz.ntmps34
  go_wp2_with fail
  go_region
  have gm2:(u:Int) % (n:Int)=((u % n:Nat):Int):=by omega
  have gwa:IntKind.i64.wrap ((a:Int)+1)=(a:Int)+1:=wrap_fit (by omega) (by omega);go_wp2_with fail;go_ret
  refine ⟨?_,H.out.to (a':=a+1) ((Bar.of (Below.drew (Below.refl _ _))).trans (Bar.set gs 1 _)) (by have h9:=(H.out.blk.drew).set_ 1 (.int .i64 ((a:Int)+1));exact h9),(Bar.of (Below.drew (Below.refl _ _))).trans (Bar.set gs 1 _)⟩
  first | rfl | exact congrArg (fun z=>Ending.returned (Value.int .i64 z)) gm2
theorem tgap (gs:Nat) (A:OA_) (c:Nat) (L:LB_) (a:Nat) (w:World) (h:StAt w gs A c L a) (ha:a<=1099511627776):Calls Tryz.prog 35 #[.pointer (some ⟨gs,0,none⟩)] w fun e w'=>e=.returned (.string (bs (gapW L a).1))/\StAt w' gs A c L (gapW L a).2/\Bar w w' gs:=by
 have hlt:=pickW_lt L a (n:=5) (by omega);have hba:=Below.new w (.cells #[.string ⟨#[32]⟩,.string ⟨#[32]⟩,.string ⟨#[32,32]⟩,.string ⟨#[10]⟩,.string ⟨#[32,9]⟩] 9);have h0:=Blk.new w 9 #[.string ⟨#[32]⟩,.string ⟨#[32]⟩,.string ⟨#[32,32]⟩,.string ⟨#[10]⟩,.string ⟨#[32,9]⟩];have hgs:=h.blk.lt;have CP:=tpick gs A c L a 5 _ (h.keep hba) (by omega) (by omega) ha;unfold gapW;obtain ⟨⟨k,a2⟩,hp⟩:∃ z,z=pickW L a 5:=⟨_,rfl⟩;rw [<-hp] at CP hlt ⊢
 simp only at CP hlt ⊢
 have HBA:=h_ hba;have H0:=h_ h0;have CPH:=h_ CP
 have hn:w.heap.size≠gs:=by omega
 clear hp h hba h0 CP
 go_enter Tryz.func35,Tryz.ntmps35
 go_wp2_with fail
 refine CPH.out.mono ?_
 rintro e w2 ⟨rfl,hs2,hbar2⟩;have HS2:=h_ hs2;have HB2:=h_ ((Bar.of (gc:=gs) HBA.out).trans hbar2);have hk2:=hbar2.blk H0.out hn;have k0:=hk2.cell;have f0:=hk2.frozen;have l0:=hk2.lt;clear hs2 hbar2 hk2
 have:k=0\/k=1\/k=2\/k=3\/k=4:=by omega
 rcases this with rfl | rfl | rfl | rfl | rfl
 all_goals
  go_wp2_with fail;go_ret
  exact ⟨rfl,HS2.out,HB2.out⟩
theorem stepsW_take {l:List ByteArray} {q:Nat} (h:q < l.length):stepsW (l.take (q+1))=stepsW (l.take q)++(46::l[q].data.toList):=by
 rw [List.take_succ_eq_append_getElem h];unfold stepsW;rw [List.flatMap_append];simp
theorem stepsW_le (l:List ByteArray) (q:Nat):(stepsW (l.take q)).length<=(stepsW l).length:=by
 have h:=congrArg List.length (show stepsW l=stepsW (l.take q)++stepsW (l.drop q) from by unfold stepsW;rw [<-List.flatMap_append,List.take_append_drop]);rw [List.length_append] at h
 omega
theorem trsteps {S:Nat->Prop} {sa:OA_} {sc:Nat} {st:List ByteArray} (w:World) (h:RepS w S sa st) (hr:Room st.length sc 16) (hz:(stepsW st).length<=1000000):Calls Tryz.prog 64 #[.slice sa st.length sc] w fun e w'=>e=.returned (.string (bs (stepsW st)))/\w=w':=by
 have HS:=h_ h;have hst:=hr.2.2;have HZ:=h_ (fun q=>Nat.le_trans (stepsW_le st q) hz);clear h hr hz
 go_enter Tryz.func64,Tryz.ntmps64
 go_wp2_with fail
 go_loop [3,4] (fun x3 x4=>∃ (q:Nat) (s:ByteArray),q<=st.length/\x4=.int .i64 q/\x3=.string s/\Hid (s=bs (stepsW (st.take q)))) (fun _ x4=>st.length - (Lib.intOf x4).toNat)
 case atStart=>exact ⟨0,⟨#[]⟩,Nat.zero_le _,rfl,rfl,h_ (by rw [List.take_zero];rfl)⟩
 case round=>
  obtain ⟨q,s,hq,rfl,rfl,HQ⟩:=hrel
  by_cases hlt:q < st.length
  ·obtain ⟨b,bo,rfl, -,hbl,hc, -⟩:=HS.out q hlt
   have hst1:=stepsW_take hlt;have hz1:=HZ.out (q+1);rw [hst1,List.length_append,List.length_cons] at hz1
   have hsz:s.size=(stepsW (st.take q)).length:=by rw [HQ.out,bs_size]
   obtain ⟨y,hy⟩:∃ z,z=st[q]:=⟨_,rfl⟩;rw [<-hy] at hc hst1 hz1;have hyz:y.size=y.data.toList.length:=size_list y
   have hs1:s.size<=1000000:=by omega
   have hs2:s.size+1+y.size<=1000001:=by omega
   have hys:y.size<=1000000:=by omega
   have HE:=h_ (show s++⟨#[46]⟩++y=bs (stepsW (st.take (q+1))) from by rw [hst1,HQ.out];exact list_ext (by simp))
   have hg0:(0:Int)<=(q:Int):=by omega
   have hg1:(q:Int) < (st.length:Int):=by omega
   have hwk:IntKind.i64.wrap ((q:Int)+1)=(q:Int)+1:=wrap_fit (by omega) (by omega);clear hst1 hz1 hsz hyz hy HQ;go_wp2_with fail
   go_round
   case rel=>exact ⟨q+1,_,by omega,by go_num,rfl,HE⟩
   case measure=>simp [Lib.intOf];omega
  ·obtain rfl:q=st.length:=by omega
   have HE:=h_ (show s=bs (stepsW st) from by rw [HQ.out,List.take_length]);clear HQ;go_wp2_with fail;go_ret
   exact ⟨by rw [HE.out];rfl,rfl⟩
end Go.Proofs.YtnblmhfgmehnnaaGreatDoor
namespace Go.Proofs.YtnblmhfgmehnnaaGreatDoor
def wtO (x:Ex):Nat:=1+x.val.str.size+x.name.size+(stepsW x.steps).length
def wtX:Nat->Ex->Nat
 | 0,x=>wtO x
 | d+1,x=>wtO x+(x.args.map (wtX d)).sum
theorem wtX_step {d:Nat} {x:Ex} (h:RightX d x):wtX d x=wtO x+(x.args.map (wtX (d - 1))).sum:=by
 cases d with
 | zero=>
  have h0:x.args=[]:=h.deep.resolve_right (Nat.lt_irrefl 0);rw [wtX,h0]
  rfl
 | succ d=>rfl
theorem lit_len {x:Ex} (ho:OwnX x) (hk:x.kind=0):(litW x.val).length+15<=40*wtO x:=by
 unfold wtO;have hv:=(ho.lit hk).1
 rcases hv with h | ⟨b,h⟩ | ⟨n,h,h1,h2⟩ | ⟨s,h⟩
 ·rw [h];show 3+15<=_;omega
 ·rw [h];cases b
  ·show 5+15<=_;omega
  ·show 4+15<=_;omega
 ·rw [h]
  have h3:=Lib.itoa_length_le n h1 (by omega)
  show (Lib.itoa n).length+15<=_
  omega
 ·rw [h]
  have h3:=escL_len s.data.toList
  show (quoteL s.data.toList).length+15<=40*(1+s.size+_+_)
  unfold quoteL;rw [List.length_cons,List.length_append,List.length_singleton,size_list s]
  omega
theorem gap_len (L:LB_) (a:Nat):(gapW L a).1.length<=2/\(gapW L a).2<=a+1:=by
 have h:=pickW_lt L a (n:=5) (by omega)
 have h2:(pickW L a 5).2<=a+1:=by unfold pickW;split <;>simp
 have key:∀ k,k < 5->(gaps.getD k [32]).length<=2:=by decide
 exact ⟨key _ h,h2⟩
theorem pick_next (L:LB_) (a n:Nat):(pickW L a n).2<=a+1:=by unfold pickW;split <;>simp
def LenOk (L:LB_) (n:Nat):Prop:=∀ (d:Nat) (x:Ex) (a:Nat),RightX d x->d+1<=n->(pipW L n x a).1.length+12<=40*wtX d x/\(pipW L n x a).2+2<=a+6*wtX d x
section
variable {L:LB_} {n:Nat}
theorem op_len (hP:LenOk L n) {d:Nat} {x:Ex} {a:Nat} (hx:RightX d x) (hn:d+1<=n):(opW L (pipW L n) x a).1.length+5<=40*wtX d x/\(opW L (pipW L n) x a).2+1<=a+6*wtX d x:=by
 have ho:=hx.own;have hw:=wtX_step hx
 have hw1:1<=wtO x:=by unfold wtO;omega
 have br:∀ a',a'<=a+1->(40::((pipW L n x a').1++[41])).length+5<=40*wtX d x/\(pipW L n x a').2+1<=a+6*wtX d x:=fun a' ha=>by
  have h:=hP d x a' hx hn;rw [List.length_cons,List.length_append,List.length_singleton]
  omega
 unfold opW
 by_cases k0:x.kind=0
 ·rw [if_pos k0]
  have h:=lit_len ho k0
  exact ⟨by show (litW x.val).length+5<=_;omega,by show a+1<=_;omega⟩
 ·rw [if_neg k0]
  by_cases k1:x.kind=1
  ·rw [if_pos k1]
   refine ⟨?_,by show a+1<=_;omega⟩
   show (if x.steps=[] then [46] else stepsW x.steps).length+5<=_
   unfold wtO at hw
   split
   ·rw [List.length_singleton];omega
   ·omega
  ·rw [if_neg k1]
   by_cases k2:x.kind=2
   ·rw [if_pos k2]
    refine ⟨?_,by show a+1<=_;omega⟩
    show (36::(x.name.data.toList++stepsW x.steps)).length+5<=_
    rw [List.length_cons,List.length_append,<-size_list];unfold wtO at hw
    omega
   ·rw [if_neg k2]
    by_cases hA:x.args=[]
    ·rw [if_pos hA]
     have hpk:=pick_next L a 2
     by_cases hp:(pickW L a 2).1=1
     ·rw [if_pos hp]
      refine ⟨?_,by show (pickW L a 2).2+1<=_;omega⟩
      show x.name.data.toList.length+5<=_
      rw [<-size_list];unfold wtO at hw
      omega
     ·rw [if_neg hp]
      exact br _ hpk
    ·rw [if_neg hA]
     exact br _ (Nat.le_succ a)
theorem args_len (hP:LenOk L n) {d:Nat} (hn:d+1<=n):∀ (l:List Ex) (a:Nat),(∀ y ∈ l,RightX d y)->(argsW L (pipW L n) l a).1.length+3*l.length<=40*(l.map (wtX d)).sum/\(argsW L (pipW L n) l a).2<=a+6*(l.map (wtX d)).sum
 | [],a,h=>⟨by simp [argsW],by simp [argsW]⟩
 | y::l,a,h=>by
  have h1:=gap_len L a;have h2:=op_len hP (a:=(gapW L a).2) (h y (List.mem_cons_self ..)) hn;have h3:=args_len hP hn l (opW L (pipW L n) y (gapW L a).2).2 (fun z hz=>h z (List.mem_cons_of_mem _ hz));rw [argsW]
  simp only [List.length_append,List.length_cons,List.map_cons,List.sum_cons]
  omega
end
theorem pip_len (L:LB_):∀ n,LenOk L n
 | 0=>fun d x a hx hn=>by omega
 | n+1=>by
  have hP:=pip_len L n;intro d x a hx hn;have ho:=hx.own;have hw:=wtX_step hx
  have hw1:1<=wtO x:=by unfold wtO;omega
  unfold pipW
  by_cases hk:x.kind=3
  ·rw [if_neg (fun h=>h hk)]
   have hname:x.name.data.toList.length+1<=wtO x:=by unfold wtO;rw [<-size_list];omega
   have call:∀ (l:List Ex) (pre:LB_) (a':Nat),(∀ y ∈ l,y ∈ x.args)->(callW L (pipW L n) x l pre a').1.length<=pre.length+x.name.data.toList.length+40*(l.map (wtX (d - 1))).sum/\(callW L (pipW L n) x l pre a').2<=a'+6*(l.map (wtX (d - 1))).sum:=fun l pre a' hl=>by
    unfold callW
    simp only [List.length_append]
    by_cases he:l=[]
    ·subst he;simp [argsW]
    ·have hdp:0 < d:=hx.deep.resolve_left (fun e=>by
      cases l with
      | nil=>exact he rfl
      | cons y l=>have:=hl y (List.mem_cons_self ..);rw [e] at this;cases this)
     have h:=args_len hP (d:=d - 1) (by omega) l a' (fun y hy=>hx.args y (hl y hy))
     omega
   cases hl:x.args.getLast? with
   | none=>
    simp only
    have h:=call [] [] a (fun y hy=>by cases hy)
    simp only [List.map_nil,List.sum_nil,List.length_nil] at h
    omega
   | some y=>
    simp only
    have hpk:=pick_next L a 3
    by_cases hp:(pickW L a 3).1=1
    ·rw [if_pos hp]
     have hcat:=last_cat hl
     have hy:y ∈ x.args:=by rw [<-hcat];simp
     have hdp:0 < d:=hx.deep.resolve_left (fun e=>by rw [e] at hy;cases hy);have h1:=hP (d - 1) y (pickW L a 3).2 (hx.args y hy) (by omega);have h2:=gap_len L (pipW L n y (pickW L a 3).2).2;have h3:=gap_len L (gapW L (pipW L n y (pickW L a 3).2).2).2;have h4:=call x.args.dropLast ((pipW L n y (pickW L a 3).2).1++((gapW L (pipW L n y (pickW L a 3).2).2).1++(124::(gapW L (gapW L (pipW L n y (pickW L a 3).2).2).2).1))) (gapW L (gapW L (pipW L n y (pickW L a 3).2).2).2).2 (fun z hz=>by rw [<-hcat];exact List.mem_append_left _ hz)
     have hsum:(x.args.map (wtX (d - 1))).sum=(x.args.dropLast.map (wtX (d - 1))).sum+wtX (d - 1) y:=by
      conv=>lhs;rw [<-hcat]
      rw [List.map_append,List.sum_append]
      simp
     simp only [List.length_append,List.length_cons] at h4
     omega
    ·rw [if_neg hp]
     have h:=call x.args [] (pickW L a 3).2 (fun y hy=>hy)
     simp only [List.length_nil] at h
     omega
  ·rw [if_pos hk]
   have h3:x.kind≠3:=hk;unfold opW
   by_cases k0:x.kind=0
   ·rw [if_pos k0]
    have h:=lit_len ho k0
    exact ⟨by show (litW x.val).length+12<=_;omega,by show a+2<=_;omega⟩
   ·rw [if_neg k0]
    by_cases k1:x.kind=1
    ·rw [if_pos k1]
     refine ⟨?_,by show a+2<=_;omega⟩
     show (if x.steps=[] then [46] else stepsW x.steps).length+12<=_
     unfold wtO at hw
     split
     ·rw [List.length_singleton];omega
     ·omega
    ·rw [if_neg k1]
     by_cases k2:x.kind=2
     ·rw [if_pos k2]
      refine ⟨?_,by show a+2<=_;omega⟩
      show (36::(x.name.data.toList++stepsW x.steps)).length+12<=_
      rw [List.length_cons,List.length_append,<-size_list];unfold wtO at hw
      omega
     ·rcases ho.kind with h | h | h | h
      ·exact absurd h k0
      ·exact absurd h k1
      ·exact absurd h k2
      ·exact absurd h h3
end Go.Proofs.YtnblmhfgmehnnaaGreatDoor
namespace Go.Proofs.YtnblmhfgmehnnaaGreatDoor
open Go.RowKit
attribute [local go_sem ↓] Go.wp_at_zero Go.wp_at_succ
theorem rbare (s:ByteArray) (hs:s.size<=140737488355328) (w:World):Calls Tryz.prog 85 #[.string s] w fun e w'=>e=.returned (.bool (bareL s.data.toList))/\w=w':=by
 have HB:=h_ (fun h=>bare_ends s h);have HF:=h_ (fun q (h:okL (s.data.toList.take (q+1))=false)=>okL_bad (s:=s) h)
 have HW:=h_ (show s.toList.isEmpty=true\/s.toList==nullW\/s.toList==trueW\/s.toList==falseW->bareL s.data.toList=false from fun h=>by
  rw [bareL,Bool.and_eq_false_iff];right;rw [ByteArray.toList_eq] at h
  rcases h with h | h | h | h
  ·rw [List.isEmpty_iff] at h;rw [h];rfl
  all_goals (rw [h];simp))
 have HOK:=h_ (fun (h:okL (s.data.toList.take s.size)=true)=>show okL s.data.toList=true by rw [take_all] at h;exact h)
 generalize bareL s.data.toList=bb at*
 have hz:((s.size:Int)==0)=s.toList.isEmpty:=by
  rw [ByteArray.toList_eq,size_list]
  cases s.data.toList with
  | nil=>rfl
  | cons c r=>simp;omega
 cases h0:s.toList.isEmpty
 case true=>
  have hz':((s.size:Int)==0)=true:=hz.trans h0;have HE:=h_ (HW.out (.inl h0));clear hz h0 HW HB HF HOK
  go_enter Tryz.func85,Tryz.ntmps85
  go_wp2_with fail;go_ret
  exact ⟨by rw [HE.out];rfl,rfl⟩
 have hz':((s.size:Int)==0)=false:=hz.trans h0;clear hz
 cases h1:s.toList==nullW
 case true=>
  have g1:(s.toList==[110,117,108,108])=true:=h1;have HE:=h_ (HW.out (.inr (.inl h1)));clear HW HB HF h0 HOK;clear h1
  go_enter Tryz.func85,Tryz.ntmps85
  go_wp2_with fail;go_ret
  exact ⟨by rw [HE.out];rfl,rfl⟩
 have g1:(s.toList==[110,117,108,108])=false:=h1
 cases h2:s.toList==trueW
 case true=>
  have g2:(s.toList==[116,114,117,101])=true:=h2;have HE:=h_ (HW.out (.inr (.inr (.inl h2))));clear HW HB HF h0 HOK;clear h1 h2
  go_enter Tryz.func85,Tryz.ntmps85
  go_wp2_with fail;go_ret
  exact ⟨by rw [HE.out];rfl,rfl⟩
 have g2:(s.toList==[116,114,117,101])=false:=h2
 cases h3:s.toList==falseW
 case true=>
  have g3:(s.toList==[102,97,108,115,101])=true:=h3;have HE:=h_ (HW.out (.inr (.inr (.inr h3))));clear HW HB HF h0 HOK;clear h1 h2 h3
  go_enter Tryz.func85,Tryz.ntmps85
  go_wp2_with fail;go_ret
  exact ⟨by rw [HE.out];rfl,rfl⟩
 have g3:(s.toList==[102,97,108,115,101])=false:=h3;have HB2:=h_ (fun h=>show bb=true by rw [HB.out h,h0,h1,h2,h3];rfl);clear h0 h1 h2 h3 HB HW
 go_enter Tryz.func85,Tryz.ntmps85
 go_wp2_with fail
 go_loop [3] (fun x3=>∃ (q:Nat),x3=.int .i64 q/\q<=s.size/\Hid (okL (s.data.toList.take q)=true)) (fun x3=>s.size - (intOf x3).toNat)
 case atStart=>exact ⟨0,rfl,Nat.zero_le _,h_ (by simp [okL])⟩
 case round=>
  obtain ⟨q,rfl,hq,HR⟩:=hrel
  by_cases hlt:q < s.size
  case neg=>
   have hq3:¬ (q:Int) < s.size:=by omega
   have HE:=h_ (HB2.out (HOK.out (by rw [show s.size=q by omega];exact HR.out)));clear hlt hq;go_wp2_with fail;go_ret
   exact ⟨by rw [HE.out];rfl,rfl⟩
  have hq2:(q:Int) < s.size:=by omega
  have h256:=UInt8.toNat_lt s[q];have HA:=h_ (okL_at hlt HR.out);obtain ⟨n,hn⟩:∃ n,n=s[q].toNat:=⟨_,rfl⟩
  have hL:letterB s[q]=decide ((97<=n/\n<=122)\/(65<=n/\n<=90)):=by rw [hn];rfl
  have hM:moreB s[q]=decide ((48<=n/\n<=57)\/n=95\/n=45\/n=46\/n=47):=by
   have e:∀ k:Nat,k < 256->(s[q]==UInt8.ofNat k)=decide (n=k):=fun k hk=>by
    rw [<-u8_eq hk,hn,Bool.eq_iff_iff];simp;omega
   have e95:=e 95 (by omega);have e45:=e 45 (by omega);have e46:=e 46 (by omega);have e47:=e 47 (by omega);rw [moreB,digitB,<-hn];rw [show (s[q]==95)=decide (n=95) from e95,show (s[q]==45)=decide (n=45) from e45,show (s[q]==46)=decide (n=46) from e46,show (s[q]==47)=decide (n=47) from e47]
   simp only [Bool.decide_or,Bool.or_assoc]
  rw [<-hn] at h256;have HLM:=h_ (⟨hL,hM⟩:_/\_)
  have hc:(n<=44)\/(n=45)\/(n=46)\/(n=47)\/(48<=n/\n<=57)\/(58<=n/\n<=64)\/(65<=n/\n<=90)\/(91<=n/\n<=94)\/(n=95)\/(n=96)\/(97<=n/\n<=122)\/(123<=n/\n<=255):=by omega
  clear hL hM
  rcases hc with hc | hc | hc | hc | hc | hc | hc | hc | hc | hc | hc | hc
  ·have a1:(s[q].toNat:Int) < 65:=(by omega);have a2:(s[q].toNat:Int) < 97:=(by omega);have a3:(s[q].toNat:Int) < 48:=(by omega);have b1:(s[q].toNat:Int)<=90:=(by omega);have b2:(s[q].toNat:Int)<=122:=(by omega);have b3:(s[q].toNat:Int)<=57:=(by omega)
   have e95:((s[q].toNat:Int)==95)=false:=by rw [beq_eq_false_iff_ne];omega
   have e45:((s[q].toNat:Int)==45)=false:=by rw [beq_eq_false_iff_ne];omega
   have e46:((s[q].toNat:Int)==46)=false:=by rw [beq_eq_false_iff_ne];omega
   have e47:((s[q].toNat:Int)==47)=false:=by rw [beq_eq_false_iff_ne];omega
   have HL:=h_ (show letterB s[q]=false by rw [HLM.out.1];exact decide_eq_false (by omega));have HM:=h_ (show moreB s[q]=false by rw [HLM.out.2];exact decide_eq_false (by omega));clear hn hc h256 HLM
   by_cases h0:q=0
   ·have g0:((q:Int)==0)=true:=by rw [h0];rfl
    have HE:=h_ (HF.out q (by rw [HA.out,okPos,HL.out,show (q==0)=true by rw [h0];rfl];rfl));clear h0;go_wp2_with fail;go_ret
    exact ⟨by rw [HE.out];rfl,rfl⟩
   ·have g0:((q:Int)==0)=false:=by rw [beq_eq_false_iff_ne];omega
    have HG:=h_ (show (q==0)=false by rw [beq_eq_false_iff_ne];exact h0);clear h0;have HE:=h_ (HF.out q (by rw [HA.out,okPos,HL.out,HM.out,HG.out];rfl));go_wp2_with fail;go_ret
    exact ⟨by rw [HE.out];rfl,rfl⟩
  ·have a1:(s[q].toNat:Int) < 65:=(by omega);have a2:(s[q].toNat:Int) < 97:=(by omega);have a3:(s[q].toNat:Int) < 48:=(by omega);have b1:(s[q].toNat:Int)<=90:=(by omega);have b2:(s[q].toNat:Int)<=122:=(by omega);have b3:(s[q].toNat:Int)<=57:=(by omega)
   have e95:((s[q].toNat:Int)==95)=false:=by rw [beq_eq_false_iff_ne];omega
   have e45:((s[q].toNat:Int)==45)=true:=by rw [beq_iff_eq];omega
   have e46:((s[q].toNat:Int)==46)=false:=by rw [beq_eq_false_iff_ne];omega
   have e47:((s[q].toNat:Int)==47)=false:=by rw [beq_eq_false_iff_ne];omega
   have HL:=h_ (show letterB s[q]=false by rw [HLM.out.1];exact decide_eq_false (by omega));have HM:=h_ (show moreB s[q]=true by rw [HLM.out.2];exact decide_eq_true (by omega));clear hn hc h256 HLM
   by_cases h0:q=0
   ·have g0:((q:Int)==0)=true:=by rw [h0];rfl
    have HE:=h_ (HF.out q (by rw [HA.out,okPos,HL.out,show (q==0)=true by rw [h0];rfl];rfl));clear h0;go_wp2_with fail;go_ret
    exact ⟨by rw [HE.out];rfl,rfl⟩
   ·have g0:((q:Int)==0)=false:=by rw [beq_eq_false_iff_ne];omega
    have HG:=h_ (show (q==0)=false by rw [beq_eq_false_iff_ne];exact h0);clear h0;go_wp2_with fail
    go_round
    case rel=>exact ⟨q+1,by go_num,by omega,h_ (by rw [HA.out,okPos,HL.out,HM.out,HG.out];rfl)⟩
    case measure=>simp [intOf];omega
  ·have a1:(s[q].toNat:Int) < 65:=(by omega);have a2:(s[q].toNat:Int) < 97:=(by omega);have a3:(s[q].toNat:Int) < 48:=(by omega);have b1:(s[q].toNat:Int)<=90:=(by omega);have b2:(s[q].toNat:Int)<=122:=(by omega);have b3:(s[q].toNat:Int)<=57:=(by omega)
   have e95:((s[q].toNat:Int)==95)=false:=by rw [beq_eq_false_iff_ne];omega
   have e45:((s[q].toNat:Int)==45)=false:=by rw [beq_eq_false_iff_ne];omega
   have e46:((s[q].toNat:Int)==46)=true:=by rw [beq_iff_eq];omega
   have e47:((s[q].toNat:Int)==47)=false:=by rw [beq_eq_false_iff_ne];omega
   have HL:=h_ (show letterB s[q]=false by rw [HLM.out.1];exact decide_eq_false (by omega));have HM:=h_ (show moreB s[q]=true by rw [HLM.out.2];exact decide_eq_true (by omega));clear hn hc h256 HLM
   by_cases h0:q=0
   ·have g0:((q:Int)==0)=true:=by rw [h0];rfl
    have HE:=h_ (HF.out q (by rw [HA.out,okPos,HL.out,show (q==0)=true by rw [h0];rfl];rfl));clear h0;go_wp2_with fail;go_ret
    exact ⟨by rw [HE.out];rfl,rfl⟩
   ·have g0:((q:Int)==0)=false:=by rw [beq_eq_false_iff_ne];omega
    have HG:=h_ (show (q==0)=false by rw [beq_eq_false_iff_ne];exact h0);clear h0;go_wp2_with fail
    go_round
    case rel=>exact ⟨q+1,by go_num,by omega,h_ (by rw [HA.out,okPos,HL.out,HM.out,HG.out];rfl)⟩
    case measure=>simp [intOf];omega
  ·have a1:(s[q].toNat:Int) < 65:=(by omega);have a2:(s[q].toNat:Int) < 97:=(by omega);have a3:(s[q].toNat:Int) < 48:=(by omega);have b1:(s[q].toNat:Int)<=90:=(by omega);have b2:(s[q].toNat:Int)<=122:=(by omega);have b3:(s[q].toNat:Int)<=57:=(by omega)
   have e95:((s[q].toNat:Int)==95)=false:=by rw [beq_eq_false_iff_ne];omega
   have e45:((s[q].toNat:Int)==45)=false:=by rw [beq_eq_false_iff_ne];omega
   have e46:((s[q].toNat:Int)==46)=false:=by rw [beq_eq_false_iff_ne];omega
   have e47:((s[q].toNat:Int)==47)=true:=by rw [beq_iff_eq];omega
   have HL:=h_ (show letterB s[q]=false by rw [HLM.out.1];exact decide_eq_false (by omega));have HM:=h_ (show moreB s[q]=true by rw [HLM.out.2];exact decide_eq_true (by omega));clear hn hc h256 HLM
   by_cases h0:q=0
   ·have g0:((q:Int)==0)=true:=by rw [h0];rfl
    have HE:=h_ (HF.out q (by rw [HA.out,okPos,HL.out,show (q==0)=true by rw [h0];rfl];rfl));clear h0;go_wp2_with fail;go_ret
    exact ⟨by rw [HE.out];rfl,rfl⟩
   ·have g0:((q:Int)==0)=false:=by rw [beq_eq_false_iff_ne];omega
    have HG:=h_ (show (q==0)=false by rw [beq_eq_false_iff_ne];exact h0);clear h0;go_wp2_with fail
    go_round
    case rel=>exact ⟨q+1,by go_num,by omega,h_ (by rw [HA.out,okPos,HL.out,HM.out,HG.out];rfl)⟩
    case measure=>simp [intOf];omega
  ·have a1:(s[q].toNat:Int) < 65:=(by omega);have a2:(s[q].toNat:Int) < 97:=(by omega);have a3:(48:Int)<=s[q].toNat:=(by omega);have b1:(s[q].toNat:Int)<=90:=(by omega);have b2:(s[q].toNat:Int)<=122:=(by omega);have b3:(s[q].toNat:Int)<=57:=(by omega)
   have e95:((s[q].toNat:Int)==95)=false:=by rw [beq_eq_false_iff_ne];omega
   have e45:((s[q].toNat:Int)==45)=false:=by rw [beq_eq_false_iff_ne];omega
   have e46:((s[q].toNat:Int)==46)=false:=by rw [beq_eq_false_iff_ne];omega
   have e47:((s[q].toNat:Int)==47)=false:=by rw [beq_eq_false_iff_ne];omega
   have HL:=h_ (show letterB s[q]=false by rw [HLM.out.1];exact decide_eq_false (by omega));have HM:=h_ (show moreB s[q]=true by rw [HLM.out.2];exact decide_eq_true (by omega));clear hn hc h256 HLM
   by_cases h0:q=0
   ·have g0:((q:Int)==0)=true:=by rw [h0];rfl
    have HE:=h_ (HF.out q (by rw [HA.out,okPos,HL.out,show (q==0)=true by rw [h0];rfl];rfl));clear h0;go_wp2_with fail;go_ret
    exact ⟨by rw [HE.out];rfl,rfl⟩
   ·have g0:((q:Int)==0)=false:=by rw [beq_eq_false_iff_ne];omega
    have HG:=h_ (show (q==0)=false by rw [beq_eq_false_iff_ne];exact h0);clear h0;go_wp2_with fail
    go_round
    case rel=>exact ⟨q+1,by go_num,by omega,h_ (by rw [HA.out,okPos,HL.out,HM.out,HG.out];rfl)⟩
    case measure=>simp [intOf];omega
  ·have a1:(s[q].toNat:Int) < 65:=(by omega);have a2:(s[q].toNat:Int) < 97:=(by omega);have a3:(48:Int)<=s[q].toNat:=(by omega);have b1:(s[q].toNat:Int)<=90:=(by omega);have b2:(s[q].toNat:Int)<=122:=(by omega);have b3:¬ (s[q].toNat:Int)<=57:=(by omega)
   have e95:((s[q].toNat:Int)==95)=false:=by rw [beq_eq_false_iff_ne];omega
   have e45:((s[q].toNat:Int)==45)=false:=by rw [beq_eq_false_iff_ne];omega
   have e46:((s[q].toNat:Int)==46)=false:=by rw [beq_eq_false_iff_ne];omega
   have e47:((s[q].toNat:Int)==47)=false:=by rw [beq_eq_false_iff_ne];omega
   have HL:=h_ (show letterB s[q]=false by rw [HLM.out.1];exact decide_eq_false (by omega));have HM:=h_ (show moreB s[q]=false by rw [HLM.out.2];exact decide_eq_false (by omega));clear hn hc h256 HLM
   by_cases h0:q=0
   ·have g0:((q:Int)==0)=true:=by rw [h0];rfl
    have HE:=h_ (HF.out q (by rw [HA.out,okPos,HL.out,show (q==0)=true by rw [h0];rfl];rfl));clear h0;go_wp2_with fail;go_ret
    exact ⟨by rw [HE.out];rfl,rfl⟩
   ·have g0:((q:Int)==0)=false:=by rw [beq_eq_false_iff_ne];omega
    have HG:=h_ (show (q==0)=false by rw [beq_eq_false_iff_ne];exact h0);clear h0;have HE:=h_ (HF.out q (by rw [HA.out,okPos,HL.out,HM.out,HG.out];rfl));go_wp2_with fail;go_ret
    exact ⟨by rw [HE.out];rfl,rfl⟩
  ·have a1:(65:Int)<=s[q].toNat:=(by omega);have a2:(s[q].toNat:Int) < 97:=(by omega);have a3:(48:Int)<=s[q].toNat:=(by omega);have b1:(s[q].toNat:Int)<=90:=(by omega);have b2:(s[q].toNat:Int)<=122:=(by omega);have b3:¬ (s[q].toNat:Int)<=57:=(by omega)
   have e95:((s[q].toNat:Int)==95)=false:=by rw [beq_eq_false_iff_ne];omega
   have e45:((s[q].toNat:Int)==45)=false:=by rw [beq_eq_false_iff_ne];omega
   have e46:((s[q].toNat:Int)==46)=false:=by rw [beq_eq_false_iff_ne];omega
   have e47:((s[q].toNat:Int)==47)=false:=by rw [beq_eq_false_iff_ne];omega
   have HL:=h_ (show letterB s[q]=true by rw [HLM.out.1];exact decide_eq_true (by omega));have HM:=h_ (show moreB s[q]=false by rw [HLM.out.2];exact decide_eq_false (by omega));clear hn hc h256 HLM;have HX:=h_ (show okPos q s[q]=true by rw [okPos,HL.out];rfl);clear HM HL;go_wp2_with fail
   go_round
   case rel=>exact ⟨q+1,by go_num,by omega,h_ (by rw [HA.out,HX.out])⟩
   case measure=>simp [intOf];omega
  ·have a1:(65:Int)<=s[q].toNat:=(by omega);have a2:(s[q].toNat:Int) < 97:=(by omega);have a3:(48:Int)<=s[q].toNat:=(by omega);have b1:¬ (s[q].toNat:Int)<=90:=(by omega);have b2:(s[q].toNat:Int)<=122:=(by omega);have b3:¬ (s[q].toNat:Int)<=57:=(by omega)
   have e95:((s[q].toNat:Int)==95)=false:=by rw [beq_eq_false_iff_ne];omega
   have e45:((s[q].toNat:Int)==45)=false:=by rw [beq_eq_false_iff_ne];omega
   have e46:((s[q].toNat:Int)==46)=false:=by rw [beq_eq_false_iff_ne];omega
   have e47:((s[q].toNat:Int)==47)=false:=by rw [beq_eq_false_iff_ne];omega
   have HL:=h_ (show letterB s[q]=false by rw [HLM.out.1];exact decide_eq_false (by omega));have HM:=h_ (show moreB s[q]=false by rw [HLM.out.2];exact decide_eq_false (by omega));clear hn hc h256 HLM
   by_cases h0:q=0
   ·have g0:((q:Int)==0)=true:=by rw [h0];rfl
    have HE:=h_ (HF.out q (by rw [HA.out,okPos,HL.out,show (q==0)=true by rw [h0];rfl];rfl));clear h0;go_wp2_with fail;go_ret
    exact ⟨by rw [HE.out];rfl,rfl⟩
   ·have g0:((q:Int)==0)=false:=by rw [beq_eq_false_iff_ne];omega
    have HG:=h_ (show (q==0)=false by rw [beq_eq_false_iff_ne];exact h0);clear h0;have HE:=h_ (HF.out q (by rw [HA.out,okPos,HL.out,HM.out,HG.out];rfl));go_wp2_with fail;go_ret
    exact ⟨by rw [HE.out];rfl,rfl⟩
  ·have a1:(65:Int)<=s[q].toNat:=(by omega);have a2:(s[q].toNat:Int) < 97:=(by omega);have a3:(48:Int)<=s[q].toNat:=(by omega);have b1:¬ (s[q].toNat:Int)<=90:=(by omega);have b2:(s[q].toNat:Int)<=122:=(by omega);have b3:¬ (s[q].toNat:Int)<=57:=(by omega)
   have e95:((s[q].toNat:Int)==95)=true:=by rw [beq_iff_eq];omega
   have e45:((s[q].toNat:Int)==45)=false:=by rw [beq_eq_false_iff_ne];omega
   have e46:((s[q].toNat:Int)==46)=false:=by rw [beq_eq_false_iff_ne];omega
   have e47:((s[q].toNat:Int)==47)=false:=by rw [beq_eq_false_iff_ne];omega
   have HL:=h_ (show letterB s[q]=false by rw [HLM.out.1];exact decide_eq_false (by omega));have HM:=h_ (show moreB s[q]=true by rw [HLM.out.2];exact decide_eq_true (by omega));clear hn hc h256 HLM
   by_cases h0:q=0
   ·have g0:((q:Int)==0)=true:=by rw [h0];rfl
    have HE:=h_ (HF.out q (by rw [HA.out,okPos,HL.out,show (q==0)=true by rw [h0];rfl];rfl));clear h0;go_wp2_with fail;go_ret
    exact ⟨by rw [HE.out];rfl,rfl⟩
   ·have g0:((q:Int)==0)=false:=by rw [beq_eq_false_iff_ne];omega
    have HG:=h_ (show (q==0)=false by rw [beq_eq_false_iff_ne];exact h0);clear h0;go_wp2_with fail
    go_round
    case rel=>exact ⟨q+1,by go_num,by omega,h_ (by rw [HA.out,okPos,HL.out,HM.out,HG.out];rfl)⟩
    case measure=>simp [intOf];omega
  ·have a1:(65:Int)<=s[q].toNat:=(by omega);have a2:(s[q].toNat:Int) < 97:=(by omega);have a3:(48:Int)<=s[q].toNat:=(by omega);have b1:¬ (s[q].toNat:Int)<=90:=(by omega);have b2:(s[q].toNat:Int)<=122:=(by omega);have b3:¬ (s[q].toNat:Int)<=57:=(by omega)
   have e95:((s[q].toNat:Int)==95)=false:=by rw [beq_eq_false_iff_ne];omega
   have e45:((s[q].toNat:Int)==45)=false:=by rw [beq_eq_false_iff_ne];omega
   have e46:((s[q].toNat:Int)==46)=false:=by rw [beq_eq_false_iff_ne];omega
   have e47:((s[q].toNat:Int)==47)=false:=by rw [beq_eq_false_iff_ne];omega
   have HL:=h_ (show letterB s[q]=false by rw [HLM.out.1];exact decide_eq_false (by omega));have HM:=h_ (show moreB s[q]=false by rw [HLM.out.2];exact decide_eq_false (by omega));clear hn hc h256 HLM
   by_cases h0:q=0
   ·have g0:((q:Int)==0)=true:=by rw [h0];rfl
    have HE:=h_ (HF.out q (by rw [HA.out,okPos,HL.out,show (q==0)=true by rw [h0];rfl];rfl));clear h0;go_wp2_with fail;go_ret
    exact ⟨by rw [HE.out];rfl,rfl⟩
   ·have g0:((q:Int)==0)=false:=by rw [beq_eq_false_iff_ne];omega
    have HG:=h_ (show (q==0)=false by rw [beq_eq_false_iff_ne];exact h0);clear h0;have HE:=h_ (HF.out q (by rw [HA.out,okPos,HL.out,HM.out,HG.out];rfl));go_wp2_with fail;go_ret
    exact ⟨by rw [HE.out];rfl,rfl⟩
  ·have a1:(65:Int)<=s[q].toNat:=(by omega);have a2:(97:Int)<=s[q].toNat:=(by omega);have a3:(48:Int)<=s[q].toNat:=(by omega);have b1:¬ (s[q].toNat:Int)<=90:=(by omega);have b2:(s[q].toNat:Int)<=122:=(by omega);have b3:¬ (s[q].toNat:Int)<=57:=(by omega)
   have e95:((s[q].toNat:Int)==95)=false:=by rw [beq_eq_false_iff_ne];omega
   have e45:((s[q].toNat:Int)==45)=false:=by rw [beq_eq_false_iff_ne];omega
   have e46:((s[q].toNat:Int)==46)=false:=by rw [beq_eq_false_iff_ne];omega
   have e47:((s[q].toNat:Int)==47)=false:=by rw [beq_eq_false_iff_ne];omega
   have HL:=h_ (show letterB s[q]=true by rw [HLM.out.1];exact decide_eq_true (by omega));have HM:=h_ (show moreB s[q]=false by rw [HLM.out.2];exact decide_eq_false (by omega));clear hn hc h256 HLM;have HX:=h_ (show okPos q s[q]=true by rw [okPos,HL.out];rfl);clear HM HL;go_wp2_with fail
   go_round
   case rel=>exact ⟨q+1,by go_num,by omega,h_ (by rw [HA.out,HX.out])⟩
   case measure=>simp [intOf];omega
  ·have a1:(65:Int)<=s[q].toNat:=(by omega);have a2:(97:Int)<=s[q].toNat:=(by omega);have a3:(48:Int)<=s[q].toNat:=(by omega);have b1:¬ (s[q].toNat:Int)<=90:=(by omega);have b2:¬ (s[q].toNat:Int)<=122:=(by omega);have b3:¬ (s[q].toNat:Int)<=57:=(by omega)
   have e95:((s[q].toNat:Int)==95)=false:=by rw [beq_eq_false_iff_ne];omega
   have e45:((s[q].toNat:Int)==45)=false:=by rw [beq_eq_false_iff_ne];omega
   have e46:((s[q].toNat:Int)==46)=false:=by rw [beq_eq_false_iff_ne];omega
   have e47:((s[q].toNat:Int)==47)=false:=by rw [beq_eq_false_iff_ne];omega
   have HL:=h_ (show letterB s[q]=false by rw [HLM.out.1];exact decide_eq_false (by omega));have HM:=h_ (show moreB s[q]=false by rw [HLM.out.2];exact decide_eq_false (by omega));clear hn hc h256 HLM
   by_cases h0:q=0
   ·have g0:((q:Int)==0)=true:=by rw [h0];rfl
    have HE:=h_ (HF.out q (by rw [HA.out,okPos,HL.out,show (q==0)=true by rw [h0];rfl];rfl));clear h0;go_wp2_with fail;go_ret
    exact ⟨by rw [HE.out];rfl,rfl⟩
   ·have g0:((q:Int)==0)=false:=by rw [beq_eq_false_iff_ne];omega
    have HG:=h_ (show (q==0)=false by rw [beq_eq_false_iff_ne];exact h0);clear h0;have HE:=h_ (HF.out q (by rw [HA.out,okPos,HL.out,HM.out,HG.out];rfl));go_wp2_with fail;go_ret
    exact ⟨by rw [HE.out];rfl,rfl⟩
theorem dec_len:∀ (k u:Nat),u < 10 ^ (k+1)->(Lib.decDigits u).length<=k+1
 | 0,u,h=>by
  have h1:u < 10:=by omega
  rw [Lib.decDigits,dif_pos h1];simp
 | k+1,u,h=>by
  rw [Lib.decDigits]
  split
  ·simp
  ·have:=dec_len k (u / 10) (by rw [Nat.pow_succ] at h;omega)
   rw [List.length_append];simp only [List.length_cons,List.length_nil];omega
def restD (m:Nat) (first:Bool):LB_:=if m=0/\first=false then [] else Lib.decDigits m
theorem restD_step (m:Nat) (first:Bool) (h:m≠0\/first=true):restD m first=restD (m / 10) false++[UInt8.ofNat (48+m % 10)]:=by
 have e:restD m first=Lib.decDigits m:=by
  unfold restD;rw [if_neg];rintro ⟨h1,h2⟩
  rcases h with h | h
  ·exact h h1
  ·rw [h] at h2;cases h2
 rw [e,Lib.decDigits,restD]
 split
 ·next h10=>
  have h1:m / 10=0:=by omega
  rw [if_pos ⟨h1,rfl⟩];simp;congr 2;omega
 ·next h10=>
  rw [if_neg];rintro ⟨h1, -⟩
  omega
theorem convD (d:Nat) (hd:d < 10) (W:World):(convert 23 9 (.slice (some ⟨W.heap.size,0,none⟩) 1 1)).run Tryz.prog (W.alloc (.cells #[.int .u8 (48+(d:Int))] 5))=.ok (.string ⟨#[UInt8.ofNat (48+d)]⟩) (W.alloc (.cells #[.int .u8 (48+(d:Int))] 5)):=by
 have:=run_convert_bytes_arg (P:=Tryz.prog) (W.alloc (.cells #[.int .u8 (48+(d:Int))] 5)) 23 5 (by kernel_rfl) (by kernel_rfl) W.heap.size 0 1 1 [48+(d:Int)] rfl (fun i hi=>by
  obtain rfl:i=0:=by omega
  exact (Blk.new W 5 #[.int .u8 (48+(d:Int))]).cell 0) 9 (by kernel_rfl)
 rw [this]
 have e:strOfNums [48+(d:Int)]=⟨#[UInt8.ofNat (48+d)]⟩:=by
  show (⟨#[UInt8.ofNat (48+(d:Int)).toNat]⟩:ByteArray)=⟨#[UInt8.ofNat (48+d)]⟩
  rw [show (48+(d:Int)).toNat=48+d by omega]
 rw [e]
theorem itoa_neg {n:Int} (h:n < 0):Lib.itoa n=45::Lib.decDigits n.natAbs:=by unfold Lib.itoa;rw [if_pos h]
theorem itoa_pos {n:Int} (h:¬ n < 0):Lib.itoa n=Lib.decDigits n.natAbs:=by unfold Lib.itoa;rw [if_neg h,show n.toNat=n.natAbs by omega]
theorem rdigits (n0:Int) (hn:i64ok n0) (w:World):Calls Tryz.prog 84 #[.int .i64 n0] w (FreshPost w (Lib.itoa n0)):=by
 unfold i64ok at hn;have HLEN:=h_ (dec_len 18 n0.natAbs (by simp only [Nat.reduceAdd,Nat.reducePow];omega));have HI:=h_ (⟨fun h=>itoa_neg (n:=n0) h,fun h=>itoa_pos (n:=n0) h⟩:(n0 < 0->_)/\(¬ n0 < 0->_))
 go_enter Tryz.func84,Tryz.ntmps84
 go_wp2_with fail
 go_loopw [0,3] (fun x0 x3 wr=>∃ (n:Int) (o:ByteArray) (f:Bool),x0=.int .i64 n/\x3=.string o/\i64ok n/\o.size<=20/\Hid (restD n.natAbs f++o.data.toList=Lib.decDigits n0.natAbs)/\Hid (n.natAbs≠0\/f=true)/\Hid (Below w.heap.size w wr)) (fun x0 _ _=>(intOf x0).natAbs)
 case atStart=>exact ⟨n0,⟨#[]⟩,true,rfl,rfl,hn,by decide,h_ (by simp [restD]),h_ (.inr rfl),h_ (Below.refl _ _)⟩
 case round=>
  obtain ⟨n,o,f,rfl,rfl,hn1,ho,HD,HF,hb⟩:=hrel;unfold i64ok at hn1;obtain ⟨d,hd⟩:∃ d,d=n.natAbs % 10:=⟨_,rfl⟩;obtain ⟨t,ht⟩:∃ t,n.tdiv 10=t:=⟨_,rfl⟩
  have hta:t.natAbs=n.natAbs / 10:=by rw [<-ht,Int.natAbs_tdiv];rfl
  have hd9:d < 10:=by omega
  obtain ⟨db,hdb⟩:∃ db:ByteArray,db=⟨#[UInt8.ofNat (48+d)]⟩:=⟨_,rfl⟩
  have hti:i64ok t:=by unfold i64ok;omega
  have ht1: -9223372036854775808<=t:=by omega
  have ht2:t<=9223372036854775807:=by omega
  have HTA:=h_ hta;have HTI:=h_ hti
  have HNX:=h_ (show restD t.natAbs false++(db++o:ByteArray).data.toList=Lib.decDigits n0.natAbs by
   rw [<-HD.out,restD_step _ _ HF.out,hta,app_list,hdb,hd,List.append_assoc])
  have HNO:=h_ (show (db++o:ByteArray).size<=19 by
   have h1:=congrArg List.length HNX.out;rw [List.length_append,<-size_list] at h1
   have:=HLEN.out
   omega)
  have hu:(48+(d:Int)) % 256=48+d:=by omega
  have hcv:∀ W:World,(convert 23 9 (.slice (some ⟨W.heap.size,0,none⟩) 1 1)).run Tryz.prog (W.alloc (.cells #[.int .u8 (48+(d:Int))] 5))=.ok (.string db) (W.alloc (.cells #[.int .u8 (48+(d:Int))] 5)):=fun W=>hdb ▸ convD d hd9 W
  have hsg:(n.tmod 10=(d:Int))\/(∃ r,n.tmod 10=r/\r < 0/\ -10 < r/\ -r=(d:Int)):=by
   by_cases h:n < 0
   ·by_cases h0:d=0
    ·left
     have h1:n.tmod 10= -((-n).tmod 10):=by rw [Int.neg_tmod];omega
     have h2:(-n).tmod 10=(-n) % 10:=Int.tmod_eq_emod_of_nonneg (by omega)
     omega
    ·right
     have h1:n.tmod 10= -((-n).tmod 10):=by rw [Int.neg_tmod];omega
     have h2:(-n).tmod 10=(-n) % 10:=Int.tmod_eq_emod_of_nonneg (by omega)
     exact ⟨_,rfl,by omega,by omega,by omega⟩
   ·left
    rw [Int.tmod_eq_emod_of_nonneg (by omega)];omega
  have htz:(t==0)=true\/(t==0)=false:=by cases t==0 <;>simp
  clear hd hta hti HD hdb
  have hdo:db.size+o.size<=19:=by have:=HNO.out;rwa [ByteArray.size_append] at this
  have hnz:(n0 < 0)\/(0<=n0):=by omega
  rcases hsg with hr | ⟨r,hr,hr1,hr2,hr3⟩
  all_goals
   rcases htz with hz | hz
   ·have HZ:=h_ (show (db++o:ByteArray).data.toList=Lib.decDigits n0.natAbs by
     rw [<-HNX.out,show t.natAbs=0 by rw [beq_iff_eq] at hz;omega];simp [restD])
    rcases hnz with hneg | hneg
    ·have HE:=h_ (HI.out.1 hneg)
     go_wp2_with fail;go_ret
     exact ⟨_,rfl,by rw [HE.out,app_list,HZ.out];rfl,(Below.next hb.out (Below.new _ _))⟩
    ·have HE:=h_ (HI.out.2 (by omega))
     go_wp2_with fail;go_ret
     exact ⟨_,rfl,by rw [HE.out,HZ.out],(Below.next hb.out (Below.new _ _))⟩
   ·have HZ:=h_ (show t.natAbs≠0 by rw [beq_eq_false_iff_ne] at hz;omega)
    go_wp2_with fail
    go_round
    case rel=>exact ⟨t,_,false,rfl,rfl,HTI.out,by have:=HNO.out;omega,HNX,h_ (.inl HZ.out),h_ (Below.next hb.out (Below.new _ _))⟩
    case measure=>have h1:=HTA.out;have h2:=HZ.out;simp [intOf];omega
theorem rprint (t:T) (v:Value) (w:World) (S:Nat->Prop) (h:RepT w S v t) (hs:t.str.size<=1000000):Calls Tryz.prog 63 #[v] w (FreshPost w (printL t)):=by
 obtain ⟨la,lc,ma,mc,rfl,hp⟩:=h.inv;have HN:=h_ hp.2.1;clear hp h;have HW:=h_ (Below.new w (.cells #[.int .i64 t.kind,.bool t.bool,.int .i64 t.int,.string t.str,.slice la t.list.length lc,.slice ma t.map.length mc] 41));have HP:=h_ (show printL t=_ from rfl)
 by_cases k1:t.kind=1
 ·have g1:(t.kind==1)=true:=by rw [k1];rfl
  cases hb:t.bool
  ·have HE:=h_ (show printL t=falseW by rw [printL,if_pos k1,hb];rfl)
   clear k1 HP
   go_enter Tryz.func63,Tryz.ntmps63
   go_wp2_with fail;go_ret
   exact ⟨_,rfl,HE.out.symm,by simpa only [hb] using HW.out⟩
  ·have HE:=h_ (show printL t=trueW by rw [printL,if_pos k1,hb];rfl)
   clear k1 HP
   go_enter Tryz.func63,Tryz.ntmps63
   go_wp2_with fail;go_ret
   exact ⟨_,rfl,HE.out.symm,by simpa only [hb] using HW.out⟩
 have g1:(t.kind==1)=false:=by simpa using k1
 by_cases k2:t.kind=2
 ·have g2:(t.kind==2)=true:=by rw [k2];rfl
  have HE:=h_ (show printL t=Lib.itoa t.int by rw [printL,if_neg k1,if_pos k2]);clear k1 k2 HP
  go_enter Tryz.func63,Tryz.ntmps63
  go_wp2_with fail
  refine (rdigits _ HN.out _).mono ?_
  rintro e w1 ⟨q,rfl,hq,hb1⟩;go_wp2_with fail;go_ret
  exact ⟨_,rfl,by rw [HE.out,hq],Below.next HW.out hb1⟩
 have g2:(t.kind==2)=false:=by simpa using k2
 by_cases k3:t.kind=3
 ·have g3:(t.kind==3)=true:=by rw [k3];rfl
  obtain ⟨bb,hbb⟩:∃ d,d=bareL t.str.data.toList:=⟨_,rfl⟩;have CB:=h_ (fun w2=>show Calls Tryz.prog 85 #[.string t.str] w2 (fun e w'=>e=.returned (.bool bb)/\w2=w') from hbb ▸ rbare t.str (by omega) w2);have CQ:=h_ (fun w2=>rquote t.str hs w2)
  cases bb
  ·have HE:=h_ (show printL t=quoteL t.str.data.toList by rw [printL,if_neg k1,if_neg k2,if_pos k3,<-hbb];rfl)
   clear k1 k2 k3 HP hbb
   go_enter Tryz.func63,Tryz.ntmps63
   go_wp2_with fail
   refine (CB.out _).mono ?_
   rintro e w1 ⟨rfl,rfl⟩;go_wp2_with fail
   refine (CQ.out _).mono ?_
   rintro e w2 ⟨q,rfl,hq,rfl⟩;go_wp2_with fail;go_ret
   exact ⟨_,rfl,by rw [HE.out,hq],HW.out⟩
  ·have HE:=h_ (show printL t=t.str.data.toList by rw [printL,if_neg k1,if_neg k2,if_pos k3,<-hbb];rfl)
   clear k1 k2 k3 HP hbb
   go_enter Tryz.func63,Tryz.ntmps63
   go_wp2_with fail
   refine (CB.out _).mono ?_
   rintro e w1 ⟨rfl,rfl⟩;go_wp2_with fail;go_ret
   exact ⟨_,rfl,HE.out.symm,HW.out⟩
 have g3:(t.kind==3)=false:=by simpa using k3
 by_cases k4:t.kind=4
 ·have g4:(t.kind==4)=true:=by rw [k4];rfl
  have HE:=h_ (show printL t=[91,93] by rw [printL,if_neg k1,if_neg k2,if_neg k3,if_pos k4]);clear k1 k2 k3 k4 HP
  go_enter Tryz.func63,Tryz.ntmps63
  go_wp2_with fail;go_ret
  exact ⟨_,rfl,HE.out.symm,HW.out⟩
 have g4:(t.kind==4)=false:=by simpa using k4
 by_cases k5:t.kind=5
 ·have g5:(t.kind==5)=true:=by rw [k5];rfl
  have HE:=h_ (show printL t=[123,125] by rw [printL,if_neg k1,if_neg k2,if_neg k3,if_neg k4,if_pos k5]);clear k1 k2 k3 k4 k5 HP
  go_enter Tryz.func63,Tryz.ntmps63
  go_wp2_with fail;go_ret
  exact ⟨_,rfl,HE.out.symm,HW.out⟩
 have g5:(t.kind==5)=false:=by simpa using k5
 have HE:=h_ (show printL t=nullW by rw [printL,if_neg k1,if_neg k2,if_neg k3,if_neg k4,if_neg k5]);clear k1 k2 k3 k4 k5 HP
 go_enter Tryz.func63,Tryz.ntmps63
 go_wp2_with fail;go_ret
 exact ⟨_,rfl,HE.out.symm,HW.out⟩
end Go.Proofs.YtnblmhfgmehnnaaGreatDoor
namespace Go.Proofs.YtnblmhfgmehnnaaGreatDoor
open Go.RowKit Go.Lib
attribute [local go_sem ↓] Go.wp_at_zero Go.wp_at_succ
def WrPost (gs:Nat) (A:OA_) (c:Nat) (L:LB_) (q:LB_ × Nat) (w:World) (e:Ending) (w':World):Prop:=
 e=.returned (.string (bs q.1))/\StAt w' gs A c L q.2/\Bar w w' gs
def OpR (gs:Nat) (A:OA_) (c:Nat) (L:LB_) (n:Nat):Prop:=∀ (d:Nat) (x:Ex) (a:Nat) (W:World) (S:Nat->Prop) (cs:List Value),RightX d x->d+1<=n->StAt W gs A c L a->RepX W S cs x->(∀ b,S b->b≠gs)->a+6*wtX d x < 1000000000->40*wtX d x<=1000000->Calls Tryz.prog 33 #[.pointer (some ⟨gs,0,none⟩),.agg (List.toArray cs)] W (WrPost gs A c L (opW L (pipW L n) x a) W)
def PiR (gs:Nat) (A:OA_) (c:Nat) (L:LB_) (n:Nat):Prop:=∀ (d:Nat) (x:Ex) (a:Nat) (W:World) (S:Nat->Prop) (cs:List Value),RightX d x->d+1<=n->StAt W gs A c L a->RepX W S cs x->(∀ b,S b->b≠gs)->a+6*wtX d x<=1000000000->40*wtX d x<=1000000->Calls Tryz.prog 18 #[.pointer (some ⟨gs,0,none⟩),.agg (List.toArray cs)] W (WrPost gs A c L (pipW L n x a) W)
theorem lit_print {v:T} (h:(∃ b,v=tB b)\/∃ n,v=tN n):printL v=litW v:=by
 rcases h with ⟨b,rfl⟩ | ⟨n,rfl⟩
 ·cases b <;>rfl
 ·rfl
section
variable {gs:Nat} {A:OA_} {c:Nat} {L:LB_}
theorem op_r0 {x:Ex} {a:Nat} {W:World} {S:Nat->Prop} {cs:List Value} (ho:OwnX x) (hk:x.kind=0) (h:StAt W gs A c L a) (hx:RepX W S cs x) (hz:wtO x<=25000):Calls Tryz.prog 33 #[.pointer (some ⟨gs,0,none⟩),.agg (List.toArray cs)] W (WrPost gs A c L (litW x.val,a) W):=by
 obtain ⟨la,lc,ma,mc,sa,sc,aa,ac,rfl,hp⟩:=hx.inv
 have hvs:x.val.str.size<=1000000:=by unfold wtO at hz;omega
 have hgs:=h.blk.lt;have hba:=Below.new W (.cells (aX x la lc ma mc sa sc aa ac) 45);have h0:=Blk.new W 45 (aX x la lc ma mc sa sc aa ac);have HS:=h_ (h.keep hba);have HV:=h_ (hp.val.keep hba);have HB:=h_ (Bar.of (gc:=gs) hba);have H0:=h_ h0
 have g0:(x.kind==0)=true:=by rw [hk];rfl
 have hv:=(ho.lit hk).1;obtain ⟨W1,e1⟩:∃ z,z=W.alloc (.cells (aX x la lc ma mc sa sc aa ac) 45):=⟨_,rfl⟩;obtain ⟨n3,e3⟩:∃ z,z=W.heap.size:=⟨_,rfl⟩;rw [<-e1] at HS HV HB H0;rw [<-e3] at H0;have E1:=h_ e1;have E3:=h_ e3;clear h hx hp hba h0 e1 e3 hz hk;have k0:=H0.out.cell;have f0:=H0.out.frozen;have l0:=H0.out.lt;unfold aX at *
 rcases hv with hv | hv
 ·have q0:(x.val.kind==0)=true:=by rw [hv];rfl
  have HE:=h_ (show litW x.val=[110,105,108] from by rw [hv];rfl);clear hv
  go_enter Tryz.func33,Tryz.ntmps33
  go_upto_region 1 with fail;rw [<-E1.out,<-E3.out];go_wp2_with fail;go_ret
  exact ⟨by rw [HE.out];rfl,HS.out,HB.out⟩
 ·by_cases h3:∃ s,x.val=tS s
  ·have q0:(x.val.kind==0)=false:=by obtain ⟨s,hs⟩:=h3;rw [hs];rfl
   have q3:(x.val.kind==3)=true:=by obtain ⟨s,hs⟩:=h3;rw [hs];rfl
   have HE:=h_ (show litW x.val=quoteL x.val.str.data.toList from by obtain ⟨s,hs⟩:=h3;rw [hs];rfl);have CQ:=h_ (fun (w:World)=>rquote x.val.str hvs w);clear hv h3
   go_enter Tryz.func33,Tryz.ntmps33
   go_upto_region 1 with fail;rw [<-E1.out,<-E3.out];go_wp2_with fail
   refine (CQ.out _).mono ?_
   rintro e w9 ⟨v,rfl,hv,rfl⟩;have HVV:=h_ (show v=bs (litW x.val) from by rw [HE.out];exact list_ext hv);clear hv;go_wp2_with fail;go_ret
   exact ⟨by rw [HVV.out];rfl,HS.out,HB.out⟩
  ·have hv2:(∃ b,x.val=tB b)\/∃ n,x.val=tN n:=by
    rcases hv with h | ⟨n,h, -⟩ | h
    ·exact .inl h
    ·exact .inr ⟨n,h⟩
    ·exact absurd h h3
   have q0:(x.val.kind==0)=false:=by rcases hv2 with ⟨b,h⟩ | ⟨n,h⟩ <;>(rw [h];rfl)
   have q3:(x.val.kind==3)=false:=by rcases hv2 with ⟨b,h⟩ | ⟨n,h⟩ <;>(rw [h];rfl)
   have HE:=h_ (lit_print hv2);have CP:=h_ (rprint x.val _ W1 S HV.out hvs);clear hv h3 hv2
   go_enter Tryz.func33,Tryz.ntmps33
   go_upto_region 1 with fail;rw [<-E1.out,<-E3.out];go_wp2_with fail
   refine CP.out.mono ?_
   rintro e w9 ⟨v,rfl,hv,hb9⟩;have HVV:=h_ (show v=bs (litW x.val) from by rw [<-HE.out];exact list_ext hv);have HS9:=h_ (HS.out.keep hb9);have HB9:=h_ (HB.out.trans (Bar.of hb9));clear hv hb9;go_wp2_with fail;go_ret
   exact ⟨by rw [HVV.out];rfl,HS9.out,HB9.out⟩
theorem op_r1 {x:Ex} {a:Nat} {W:World} {S:Nat->Prop} {cs:List Value} (hk:x.kind=1) (h:StAt W gs A c L a) (hx:RepX W S cs x) (hz:wtO x<=25000):Calls Tryz.prog 33 #[.pointer (some ⟨gs,0,none⟩),.agg (List.toArray cs)] W (WrPost gs A c L (if x.steps=[] then [46] else stepsW x.steps,a) W):=by
 obtain ⟨la,lc,ma,mc,sa,sc,aa,ac,rfl,hp⟩:=hx.inv;have hgs:=h.blk.lt;have hba:=Below.new W (.cells (aX x la lc ma mc sa sc aa ac) 45);have h0:=Blk.new W 45 (aX x la lc ma mc sa sc aa ac);have HS:=h_ (h.keep hba);have HB:=h_ (Bar.of (gc:=gs) hba);have H0:=h_ h0;have CS:=h_ (fun (w:World) (hw:RepS w S sa x.steps)=>trsteps w hw hp.sroom (by unfold wtO at hz;omega));have HST:=h_ (RepS.mono hp.steps (w':=W.alloc (.cells (aX x la lc ma mc sa sc aa ac) 45)) (S':=S) (fun _ h _=>h) (fun _ _ _ hlt=>hba.cell hlt))
 have g0:(x.kind==0)=false:=by rw [hk];rfl
 have g1:(x.kind==1)=true:=by rw [hk];rfl
 obtain ⟨W1,e1⟩:∃ z,z=W.alloc (.cells (aX x la lc ma mc sa sc aa ac) 45):=⟨_,rfl⟩;obtain ⟨n3,e3⟩:∃ z,z=W.heap.size:=⟨_,rfl⟩;rw [<-e1] at HS HB H0 HST;rw [<-e3] at H0
 have hn3:n3≠gs:=by omega
 have E1:=h_ e1;have E3:=h_ e3;clear h hx hp hba h0 e1 e3 hz hk;have k0:=H0.out.cell;have f0:=H0.out.frozen;have l0:=H0.out.lt;unfold aX at *
 by_cases he:x.steps=[]
 ·have gl:((x.steps.length:Int)==0)=true:=by rw [he];rfl
  rw [if_pos he];clear he
  go_enter Tryz.func33,Tryz.ntmps33
  go_upto_region 1 with fail;rw [<-E1.out,<-E3.out];go_wp2_with fail;go_ret
  exact ⟨rfl,HS.out,HB.out⟩
 ·have gl:((x.steps.length:Int)==0)=false:=bf_ (by have:=List.length_pos_iff.2 he;omega)
  rw [if_neg he];clear he
  go_enter Tryz.func33,Tryz.ntmps33
  go_upto_region 1 with fail;rw [<-E1.out,<-E3.out];go_wp2_with fail
  refine (CS.out _ HST.out).mono ?_
  rintro e w9 ⟨rfl,rfl⟩;go_wp2_with fail;go_ret
  exact ⟨rfl,HS.out,HB.out⟩
theorem op_r2 {x:Ex} {a:Nat} {W:World} {S:Nat->Prop} {cs:List Value} (hk:x.kind=2) (h:StAt W gs A c L a) (hx:RepX W S cs x) (hz:wtO x<=25000):Calls Tryz.prog 33 #[.pointer (some ⟨gs,0,none⟩),.agg (List.toArray cs)] W (WrPost gs A c L (36::(x.name.data.toList++stepsW x.steps),a) W):=by
 obtain ⟨la,lc,ma,mc,sa,sc,aa,ac,rfl,hp⟩:=hx.inv;have hgs:=h.blk.lt;have hba:=Below.new W (.cells (aX x la lc ma mc sa sc aa ac) 45);have h0:=Blk.new W 45 (aX x la lc ma mc sa sc aa ac);have HS:=h_ (h.keep hba);have HB:=h_ (Bar.of (gc:=gs) hba);have H0:=h_ h0
 have hz1:(stepsW x.steps).length<=1000000:=by unfold wtO at hz;omega
 have hz2:x.name.size<=25000:=by unfold wtO at hz;omega
 have cs:=fun (w:World) (hw:RepS w S sa x.steps)=>trsteps w hw hp.sroom hz1
 have hstep:=RepS.mono hp.steps (w':=W.alloc (.cells (aX x la lc ma mc sa sc aa ac) 45)) (S':=S) (fun _ h _=>h) (fun _ _ _ hlt=>hba.cell hlt);obtain ⟨sv,hsv⟩:∃ z,z=bs (stepsW x.steps):=⟨_,rfl⟩;rw [<-hsv] at cs
 have hs2:sv.size<=1000000:=by rw [hsv,bs_size];exact hz1
 have HE:=h_ (show (⟨#[36]⟩:ByteArray)++x.name++sv=bs (36::(x.name.data.toList++stepsW x.steps)) from by rw [hsv];exact list_ext (by simp));have CS:=h_ cs;have HST:=h_ hstep
 have g0:(x.kind==0)=false:=by rw [hk];rfl
 have g1:(x.kind==1)=false:=by rw [hk];rfl
 have g2:(x.kind==2)=true:=by rw [hk];rfl
 clear cs hstep hsv hz1;obtain ⟨W1,e1⟩:∃ z,z=W.alloc (.cells (aX x la lc ma mc sa sc aa ac) 45):=⟨_,rfl⟩;obtain ⟨n3,e3⟩:∃ z,z=W.heap.size:=⟨_,rfl⟩;rw [<-e1] at HS HB H0 HST;rw [<-e3] at H0
 have hn3:n3≠gs:=by omega
 have E1:=h_ e1;have E3:=h_ e3;clear h hx hp hba h0 e1 e3 hz hk;have k0:=H0.out.cell;have f0:=H0.out.frozen;have l0:=H0.out.lt;have CS1:=h_ (fun q=>show Calls Tryz.prog 64 #[.slice sa x.steps.length sc] (W1.drewN q) (fun e w'=>e=.returned (.string sv)/\W1.drewN q=w') from CS.out _ (RepS.mono HST.out (w':=W1.drewN q) (S':=S) (fun _ h _=>h) (fun _ _ _ _=>rfl)));unfold aX at *
 go_enter Tryz.func33,Tryz.ntmps33
 go_upto_region 1 with fail;rw [<-E1.out,<-E3.out];go_upto_region 14 with fail;clear f0 l0
 go_quiet ((go_at_call 64;exact Calls.quiet_of_same ((CS1.out _).mono (fun e w' h=>⟨h.1,h.2.symm⟩))))
 all_goals
  go_wp2_with fail;go_ret
  exact ⟨by rw [<-HE.out];rfl,HS.out.keep (Below.drewN (Below.refl _ _) _),HB.out.trans (Bar.of (Below.drewN (Below.refl _ _) _))⟩
theorem op_r3 {n d:Nat} {x:Ex} {a:Nat} {W:World} {S:Nat->Prop} {cs:List Value} (hP:PiR gs A c L n) (hR:RightX d x) (hn:d+1<=n) (hk:x.kind=3) (h:StAt W gs A c L a) (hx:RepX W S cs x) (hS:∀ b,S b->b≠gs) (hz:a+6*wtX d x < 1000000000) (hz2:40*wtX d x<=1000000):Calls Tryz.prog 33 #[.pointer (some ⟨gs,0,none⟩),.agg (List.toArray cs)] W (WrPost gs A c L (opW L (pipW L n) x a) W):=by
 have hlen:=fun a'=>(pip_len L n d x a' hR hn)
 have hst:=wtX_step hR;obtain ⟨la,lc,ma,mc,sa,sc,aa,ac,rfl,hp⟩:=hx.inv;have hgs:=h.blk.lt;have hba:=Below.new W (.cells #[.int .i64 x.kind,.int .i64 x.val.kind,.bool x.val.bool,.int .i64 x.val.int,.string x.val.str,.slice la x.val.list.length lc,.slice ma x.val.map.length mc,.string x.name,.slice sa x.steps.length sc,.slice aa x.args.length ac] 45);have h0:=Blk.new W 45 #[.int .i64 x.kind,.int .i64 x.val.kind,.bool x.val.bool,.int .i64 x.val.int,.string x.val.str,.slice la x.val.list.length lc,.slice ma x.val.map.length mc,.string x.name,.slice sa x.steps.length sc,.slice aa x.args.length ac];have HS:=h_ (h.keep hba);have HB:=h_ (Bar.of (gc:=gs) hba);have H0:=h_ h0;have HX:=h_ (hx.keep hba)
 have g0:(x.kind==0)=false:=by rw [hk];rfl
 have g1:(x.kind==1)=false:=by rw [hk];rfl
 have g2:(x.kind==2)=false:=by rw [hk];rfl
 have hw1:1<=wtO x:=by unfold wtO;omega
 obtain ⟨W1,e1⟩:∃ z,z=W.alloc (.cells #[.int .i64 x.kind,.int .i64 x.val.kind,.bool x.val.bool,.int .i64 x.val.int,.string x.val.str,.slice la x.val.list.length lc,.slice ma x.val.map.length mc,.string x.name,.slice sa x.steps.length sc,.slice aa x.args.length ac] 45):=⟨_,rfl⟩;obtain ⟨n3,e3⟩:∃ z,z=W.heap.size:=⟨_,rfl⟩;rw [<-e1] at HS HB H0 HX;rw [<-e3] at H0
 have hn3:n3≠gs:=by omega
 have E1:=h_ e1;have E3:=h_ e3
 have hopw:opW L (pipW L n) x a=(if x.args=[] then (if (pickW L a 2).1=1 then (x.name.data.toList,(pickW L a 2).2) else (40::((pipW L n x (pickW L a 2).2).1++[41]),(pipW L n x (pickW L a 2).2).2)) else (40::((pipW L n x a).1++[41]),(pipW L n x a).2)):=by unfold opW;rw [if_neg (by omega),if_neg (by omega),if_neg (by omega)]
 rw [hopw];clear h hx hp hba h0 e1 e3 hopw hk
 have br:∀ (a':Nat),a'<=a+1->∀ (W':World),StAt W' gs A c L a'->RepX W' S [.int .i64 x.kind,.int .i64 x.val.kind,.bool x.val.bool,.int .i64 x.val.int,.string x.val.str,.slice la x.val.list.length lc,.slice ma x.val.map.length mc,.string x.name,.slice sa x.steps.length sc,.slice aa x.args.length ac] x->(∀ Q:Ending->World->Prop,(∀ (w9:World) (u:ByteArray),u.size<=1000000->(⟨#[40]⟩:ByteArray)++u++⟨#[41]⟩=bs (40::((pipW L n x a').1++[41]))->StAt w9 gs A c L (pipW L n x a').2->Bar W' w9 gs->Q (.returned (.string u)) w9)->Calls Tryz.prog 18 #[.pointer (some ⟨gs,0,none⟩),.agg #[.int .i64 x.kind,.int .i64 x.val.kind,.bool x.val.bool,.int .i64 x.val.int,.string x.val.str,.slice la x.val.list.length lc,.slice ma x.val.map.length mc,.string x.name,.slice sa x.steps.length sc,.slice aa x.args.length ac]] W' Q):=fun a' ha' W' hs' hx' Q hQ=>by
  have hl:=hlen a'
  refine (hP d x a' W' S _ hR hn hs' hx' hS (by omega) hz2).mono ?_
  rintro e w9 ⟨rfl,h1,h2⟩
  exact hQ w9 _ (by rw [bs_size];omega) (list_ext (by simp)) h1 h2
 have BR:=h_ br;clear br hlen hst
 by_cases he:x.args=[]
 ·have gl:((x.args.length:Int)==0)=true:=by rw [he];rfl
  rw [if_pos he];have hpk:=pick_next L a 2;have CP:=tpick gs A c L a 2 W1 HS.out (by omega) (by omega) (by omega);obtain ⟨⟨p1,p2⟩,hpp⟩:∃ z,z=pickW L a 2:=⟨_,rfl⟩;rw [<-hpp] at CP hpk ⊢
  simp only at CP hpk ⊢
  have CPH:=h_ CP;clear CP hpp he
  by_cases hp1:p1=1
  ·have gp:((p1:Int)==1)=true:=by rw [hp1];rfl
   rw [if_pos hp1];clear hp1;have k0:=H0.out.cell;have f0:=H0.out.frozen;have l0:=H0.out.lt
   go_enter Tryz.func33,Tryz.ntmps33
   go_upto_region 1 with fail;rw [<-E1.out,<-E3.out];go_wp2_with fail
   refine CPH.out.mono ?_
   rintro e w2 ⟨rfl,hs2,hbar2⟩;have HS2:=h_ hs2;have HB2:=h_ (HB.out.trans hbar2);have H02:=h_ (hbar2.blk H0.out hn3);have HX2:=h_ (HX.out.bar hbar2 hS);clear hs2 hbar2 k0 f0 l0;have k0:=H02.out.cell;have f0:=H02.out.frozen;have l0:=H02.out.lt;go_wp2_with fail;go_ret
   exact ⟨rfl,HS2.out,HB2.out⟩
  ·have gp:((p1:Int)==1)=false:=bf_ (by omega)
   rw [if_neg hp1];clear hp1;have k0:=H0.out.cell;have f0:=H0.out.frozen;have l0:=H0.out.lt
   go_enter Tryz.func33,Tryz.ntmps33
   go_upto_region 1 with fail;rw [<-E1.out,<-E3.out];go_wp2_with fail
   refine CPH.out.mono ?_
   rintro e w2 ⟨rfl,hs2,hbar2⟩;have HS2:=h_ hs2;have HB2:=h_ (HB.out.trans hbar2);have H02:=h_ (hbar2.blk H0.out hn3);have HX2:=h_ (HX.out.bar hbar2 hS);clear hs2 hbar2 k0 f0 l0;have k0:=H02.out.cell;have f0:=H02.out.frozen;have l0:=H02.out.lt;go_wp2_with fail
   refine BR.out p2 hpk w2 HS2.out HX2.out _ ?_
   intro w9 u hu hE hs9 hb9;have HE:=h_ hE;have HS9:=h_ hs9;have HB9:=h_ (HB2.out.trans hb9);clear hE hs9 hb9 k0 f0 l0;go_wp2_with fail;go_ret
   exact ⟨by rw [<-HE.out];rfl,HS9.out,HB9.out⟩
 ·have gl:((x.args.length:Int)==0)=false:=bf_ (by have:=List.length_pos_iff.2 he;omega)
  rw [if_neg he];clear he;have k0:=H0.out.cell;have f0:=H0.out.frozen;have l0:=H0.out.lt
  go_enter Tryz.func33,Tryz.ntmps33
  go_upto_region 1 with fail;rw [<-E1.out,<-E3.out];go_wp2_with fail
  refine BR.out a (Nat.le_succ a) W1 HS.out HX.out _ ?_
  intro w9 u hu hE hs9 hb9;have HE:=h_ hE;have HS9:=h_ hs9;have HB9:=h_ (HB.out.trans hb9);clear hE hs9 hb9 k0 f0 l0;go_wp2_with fail;go_ret
  exact ⟨by rw [<-HE.out];rfl,HS9.out,HB9.out⟩
theorem op_all {n:Nat} (hP:PiR gs A c L n):OpR gs A c L n:=by
 intro d x a W S cs hR hn h hx hS hz hz2;have ho:=hR.own;have hst:=wtX_step hR
 have hwo:wtO x<=25000:=by omega
 rcases ho.kind with hk | hk | hk | hk
 ·have e:opW L (pipW L n) x a=(litW x.val,a):=by unfold opW;rw [if_pos hk]
  rw [e]
  exact op_r0 ho hk h hx hwo
 ·have e:opW L (pipW L n) x a=(if x.steps=[] then [46] else stepsW x.steps,a):=by unfold opW;rw [if_neg (by omega),if_pos hk]
  rw [e]
  exact op_r1 hk h hx hwo
 ·have e:opW L (pipW L n) x a=(36::(x.name.data.toList++stepsW x.steps),a):=by unfold opW;rw [if_neg (by omega),if_neg (by omega),if_pos hk]
  rw [e]
  exact op_r2 hk h hx hwo
 ·exact op_r3 hP hR hn hk h hx hS hz hz2
end
end Go.Proofs.YtnblmhfgmehnnaaGreatDoor
