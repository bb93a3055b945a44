/- Several texts as one. -/
import Derived.Test.YtnblmhfgmehnnaaGreatDoorPeMv
import Derived.Test.YtnblmhfgmehnnaaGreatDoorPeAK
import Derived.Test.YtnblmhfgmehnnaaGreatDoorPeAL
import Derived.Test.YtnblmhfgmehnnaaGreatDoorPeAC
import Derived.BigQuiet
import Derived.Test.YtnblmhfgmehnnaaGreatDoorPeAH
import Derived.Test.YtnblmhfgmehnnaaGreatDoorPeAI
set_option maxRecDepth 100000
set_option maxHeartbeats 4000000
namespace Go.Proofs.YtnblmhfgmehnnaaGreatDoor
open Go.RowKit Go.Lib
theorem head_range (gm:Nat) (A:OA_) (c:Nat) (toks:List Tok) (m:Mk) (s:ByteArray) (w:World) (h:MkAt w gm A c toks m) (hs:s.size<=1000000) (hv:ScalV w):Calls Tryz.prog 80 #[.pointer (some ⟨gm,0,none⟩),.string ⟨#[114,97,110,103,101]⟩,.string s] w (NdPost gm A c toks (headF rangeW s.data.toList m).1 (headF rangeW s.data.toList m).2 w):=by
 rw [headF,if_neg (by decide),if_neg (by decide),if_neg (by decide)]
 simp only
 split
 ·next l h3 h44=>
  by_cases hz:(setL l).2.2=true
  ·rw [if_pos hz]
   exact range_a1 gm A c toks m s w h hs hv h3 h44 hz
  ·rw [if_neg hz]
   exact range_a0 gm A c toks m s w h hs hv h3 h44 (by simpa using hz)
 ·next hno=>
  have hno':¬ ((varL s.data.toList).2.2=true/\∃ l,(varL s.data.toList).2.1=44::l):=fun ⟨h1,l,h2⟩=>hno l h1 h2
  by_cases hz:(setL s.data.toList).2.2=true
  ·rw [if_pos hz]
   exact range_b1 gm A c toks m s w h hs hv hno' hz
  ·rw [if_neg hz]
   exact range_b0 gm A c toks m s w h hs hv hno' (by simpa using hz)
theorem thead (gm:Nat) (A:OA_) (c:Nat) (toks:List Tok) (m:Mk) (wd s:ByteArray) (w:World) (h:MkAt w gm A c toks m) (hs:s.size<=1000000) (hv:ScalV w) (hw:wd.data.toList=ifW\/wd.data.toList=withW\/wd.data.toList=rangeW\/wd.data.toList=defineW):Calls Tryz.prog 80 #[.pointer (some ⟨gm,0,none⟩),.string wd,.string s] w (NdPost gm A c toks (headF wd.data.toList s.data.toList m).1 (headF wd.data.toList s.data.toList m).2 w):=by
 have e:∀ l,wd.data.toList=l->wd=bs l:=fun l h9=>by rw [<-h9]
 rcases hw with h1 | h1 | h1 | h1
 ·rw [h1,e _ h1];exact head_if gm A c toks m s w h hs hv
 ·rw [h1,e _ h1];exact head_with gm A c toks m s w h hs hv
 ·rw [h1,e _ h1];exact head_range gm A c toks m s w h hs hv
 ·rw [h1,e _ h1];exact head_define gm A c toks m s w h hs hv
end Go.Proofs.YtnblmhfgmehnnaaGreatDoor
namespace Go.Proofs.YtnblmhfgmehnnaaGreatDoor
open Go.RowKit
attribute [local go_sem ↓] Go.wp_at_zero Go.wp_at_succ
def SplitPost (s:ByteArray) (w:World) (e:Ending) (w':World):Prop:=
 (∃ toks A c,splitM (s.size+1) s.data.toList 0 false=some toks/\e=.returned (.tuple #[.slice A toks.length c,.int .i64 0])/\RepE eltK w' (fun b=>w.heap.size<=b) A toks/\toks.length<=c/\c<=maxLen/\Below w.heap.size w w')\/
 (splitM (s.size+1) s.data.toList 0 false=none/\e=.returned (.tuple #[.slice none 0 0,.int .i64 21])/\Below w.heap.size w w')
structure SpInv (s:ByteArray) (w wr:World) (out:List Tok) (A:OA_) (c q:Nat) (cut:Bool):Prop where
 at_:q<=s.size
 eq:splitM (s.size+1) s.data.toList 0 false=(splitM (s.size - q+1) (s.data.toList.drop q) q cut).map (out++·)
 own:OwnE eltK wr w.heap.size (fun _=>False) A c out
 bel:Below w.heap.size w wr
 few:out.length<=q
theorem step_eq {L:LB_} {q o e p E n:Nat} {cut:Bool} (hq:q < L.length) (hf:find2 123 (L.drop q)=some o) (hp:p=q+o) (hc:clos false (L.drop (p+2))=some e) (hE:E=e+(p+2)):
  splitM (n+1) (L.drop q) q cut=(splitM n (L.drop (E+2)) (E+2) (dashR ((L.drop (p+2)).take e))).map (fun r=>txt (behind ((L.drop (p+2)).take e) (ahead cut ((L.drop q).take o))) (q+(o - (ahead cut ((L.drop q).take o)).length))++(actn (body ((L.drop (p+2)).take e)) p++r)):=by
 subst hp hE
 have h0:L.drop q≠[]:=fun h=>by have:=congrArg List.length h;simp at this;omega
 have h1:(L.drop q).drop (o+2)=L.drop (q+o+2):=by rw [List.drop_drop];congr 1
 have h2:(L.drop q).drop (o+2+(e+2))=L.drop (e+(q+o+2)+2):=by rw [List.drop_drop];congr 1;omega
 have h3:q+(o+2+(e+2))=e+(q+o+2)+2:=by omega
 rw [splitM,if_neg h0,hf]
 simp only [h1,hc,h2,h3]
theorem step_none {L:LB_} {q o p n:Nat} {cut:Bool} (hq:q < L.length) (hf:find2 123 (L.drop q)=some o) (hp:p=q+o) (hc:clos false (L.drop (p+2))=none):splitM (n+1) (L.drop q) q cut=none:=by
 have h0:L.drop q≠[]:=fun h=>by have:=congrArg List.length h;simp at this;omega
 have h1:(L.drop q).drop (o+2)=L.drop (p+2):=by rw [List.drop_drop,hp];congr 1
 rw [splitM,if_neg h0,hf]
 simp only [h1,hc]
theorem SpInv.next {s:ByteArray} {w wr wx:World} {out:List Tok} {A A2:OA_} {c c2 q o e p E b:Nat} {cut:Bool} {raw v2 t:LB_} (h:SpInv s w wr out A c q cut) (hq:q < s.size) (hf:find2 123 (s.data.toList.drop q)=some o) (hp:p=q+o) (hc:clos false (s.data.toList.drop (p+2))=some e)
  (hE:E=e+(p+2)) (hE2:E+2<=s.size) (hraw:raw=(s.data.toList.drop (p+2)).take e) (ht:t=ahead cut ((s.data.toList.drop q).take o)) (hv2:v2=behind raw t) (hb:b=q+(o - t.length))
  (hown:OwnE eltK wx w.heap.size (fun _=>False) A2 c2 (out++txt v2 b++actn (body raw) p)) (hbel:Below w.heap.size w wx):SpInv s w wx (out++txt v2 b++actn (body raw) p) A2 c2 (E+2) (dashR raw):=by
 have hlen:(txt v2 b).length<=1:=by unfold txt;split <;>simp
 have hlen2:(actn (body raw) p).length<=1:=by unfold actn;split <;>simp
 refine ⟨hE2,?_,hown,hbel,?_⟩
 ·have hL:s.data.toList.length=s.size:=(size_list s).symm
  rw [h.eq,step_eq (by omega) hf hp hc hE,splitM_fuel (s.size - q) (s.size - (E+2)+1) (by rw [List.length_drop];omega) (by rw [List.length_drop];omega),<-hraw,<-ht,<-hv2,<-hb,Option.map_map]
  congr 1
  funext r
  simp
 ·have:=h.few
  simp only [List.length_append]
  omega
theorem tok_appendv {w:World} {B:Nat} {A:OA_} {c:Nat} {l:List Tok} (t:Bool) (v:ByteArray) (k:Nat) (hl:OwnE eltK w B (fun _=>False) A c l) (hn:l.length<=1000000) (hs:v.size<=1000000) (hB:B<=w.heap.size):
  ∃ A' c' w',(Builtin.append_ #[71,71] 71 #[.slice A l.length c,.slice (some ⟨w.heap.size,0,none⟩) 1 1]).run Tryz.prog (w.alloc (.cells #[.bool t,.string v,.int .i64 k] 102))=.ok (.slice A' (l++[(⟨t,v.data.toList,k⟩:Tok)]).length c') w'/\
   OwnE eltK w' B (fun _=>False) A' c' (l++[(⟨t,v.data.toList,k⟩:Tok)])/\Below B w w':=by
 have hb2:=Below.new w (.cells #[.bool t,.string v,.int .i64 k] 102)
 obtain ⟨A',c',w',h1,h2,h3⟩:=own_append (l2:=[(⟨t,v.data.toList,k⟩:Tok)]) (es:=[.bool t,.string v,.int .i64 k]) (ad:=⟨w.heap.size,0,none⟩) (cc:=1) (ty:=71) (t:=71) rfl (hl.keep hb2) (by show (l.length+1)*32<=_;omega) (by show l.length+1<=_;unfold maxLen;omega) (by have:=hb2.size;omega) rfl
  (fun j u hu=>by
   rw [add_none'];rw [(Blk.new w 102 #[.bool t,.string v,.int .i64 k]).cell]
   simpa using hu)
  (fun i hi=>by
   have:i=0:=by simpa using hi
   subst this
   exact ⟨rfl,by rw [size_list] at hs;exact hs⟩)
 refine ⟨A',c',w',h1,h2,?_⟩
 have hg:∀ g,Value.ownBlock (.slice A l.length c)=some g->B<=g:=fun g e=>(hl.own g e).1
 exact (hb2.mono hB).trans ⟨h3.os,h3.tape,h3.output,h3.size,fun b hb=>h3.block b (by have:=hb2.size;omega) (fun e=>by have:=hg b e.symm;omega)⟩
theorem suffix_two {l:LB_} {a b:UInt8} (h:Lib.hasSuffix l [a,b]=true):2<=l.length:=by
 have:[a,b] <:+l:=by simpa [Lib.hasSuffix] using h
 simpa using this.length_le
theorem tsplit (s:ByteArray) (hs:s.size<=65536) (w:World) (m:Int) (hm:w.cell? ⟨0,0,none⟩=some (.int .i64 m)):
  Calls Tryz.prog 27 #[.string s] w (SplitPost s w):=by
 have HM:=h_ hm;clear hm
 have hs2:(s.size:Int)<=65536:=by omega
 go_enter Tryz.func27,Tryz.ntmps27
 go_wp2_with fail
 go_loopw [4,5,6] (fun x4 x5 x6 wr=>∃ (out:List Tok) (A:OA_) (c q:Nat) (cut:Bool),x4=.slice A out.length c/\x5=.bool cut/\x6=.int .i64 q/\q<=s.size/\Hid (SpInv s w wr out A c q cut)) (fun _ _ x6 _=>s.size - (intOf x6).toNat)
 case atStart=>exact ⟨[],none,0,0,false,rfl,rfl,rfl,Nat.zero_le _,⟨Nat.zero_le _,by simp,OwnE.nil,Below.refl _ _,by simp⟩⟩
 case round=>
  obtain ⟨out,A,c,q,cut,rfl,rfl,rfl,hq,hI⟩:=hrel;have HI:=h_ hI.out;clear hI
  by_cases hlt:q < s.size
  ·have h0:(0:Int)<=q:=by omega
   have h1:(q:Int)<=s.size:=by omega
   obtain ⟨u1,hu1⟩:∃ u,u=s.extract q s.size:=⟨_,rfl⟩
   have hl1:u1.data.toList=s.data.toList.drop q:=by rw [hu1,ext_list]
   have hz1:u1.size+q=s.size:=by rw [size_list,hl1,List.length_drop,<-size_list];omega
   have HL1:=h_ hl1;have HZ1:=h_ hz1
   have hu0:u1.size<=65536:=by omega
   have hmw:wr.cell? ⟨0,0,none⟩=some (.int .i64 m):=(HI.out.bel.cell (p:=⟨0,0,none⟩) (block_lt_of_cell HM.out)).trans HM.out;have C1:=h_ (tindex u1 m wr (by omega) hmw);have HU1:=h_ hu1;clear hl1 hz1 hu1 hmw;go_wp2_with fail;rw [<-HU1.out]
   refine C1.out.mono ?_
   rintro e w' ⟨rfl,rfl⟩
   cases hf:find2 123 u1.data.toList with
   | none=>
    have HF:=h_ hf;clear hf C1;have hn1:braceI none= -1:=rfl;rw [hn1];clear hn1
    have HE:=h_ (show splitM (s.size+1) s.data.toList 0 false=some (out++txt (ahead cut u1.data.toList) (q+(u1.size - (ahead cut u1.data.toList).length))) from by
     rw [HI.out.eq,<-HL1.out,splitM_plain HF.out,size_list];rfl)
    cases cut
    ·go_wp2_with fail
     rw [<-HU1.out]
     refine (addv w.heap.size A c out u1 q wr HI.out.own (by have:=HI.out.few;omega) (by omega) HI.out.bel.size).mono ?_
     rintro e w' ⟨A2,c2,rfl,hown,hb⟩;have HO:=h_ hown;have HB:=h_ hb;clear hown hb;go_wp2_with fail
     exact bodyPost_ret (v:=.tuple #[.slice A2 (out++txt u1.data.toList q).length c2,.int .i64 0]) (by simp [results,Tryz.results27,go_sem]) rfl
      (.inl ⟨_,A2,c2,by rw [HE.out,ahead_false,<-size_list,Nat.sub_self];rfl,rfl,HO.out.rep.weak (fun b hb _=>hb.elim (fun h=>h.elim) id),HO.out.len.1,HO.out.len.2,HI.out.bel.trans HB.out⟩)
    ·go_wp2_with fail
     rw [<-HU1.out]
     refine (strPost (ttrimL u1 wr)).mono ?_
     rintro e w1 ⟨v,rfl,hv,hb1⟩
     have hvz:v.size<=u1.size:=by rw [size_list,hv,size_list];exact (List.dropWhile_sublist _).length_le
     have HV:=h_ hv;have HB1:=h_ hb1;clear hv hb1
     have hz3:(0:Int)<=(u1.size:Int) - v.size:=by omega
     have hz4:(u1.size:Int) - v.size<=65536:=by omega
     go_wp2_with fail
     have hnum:(q:Int)+((u1.size:Int) - v.size)=((q+(u1.size - v.size):Nat):Int):=by omega
     rw [hnum]
     refine (addv w.heap.size A c out v (q+(u1.size - v.size)) w1 (HI.out.own.keep HB1.out) (by have:=HI.out.few;omega) (by omega) (by have:=HI.out.bel.size;have:=HB1.out.size;omega)).mono ?_
     rintro e w' ⟨A2,c2,rfl,hown,hb⟩;have HO:=h_ hown;have HB:=h_ hb;clear hown hb;go_wp2_with fail
     exact bodyPost_ret (v:=.tuple #[.slice A2 (out++txt v.data.toList (q+(u1.size - v.size))).length c2,.int .i64 0]) (by simp [results,Tryz.results27,go_sem]) rfl
      (.inl ⟨_,A2,c2,by rw [HE.out,show ahead true u1.data.toList=v.data.toList from HV.out.symm,<-size_list],rfl,HO.out.rep.weak (fun b hb _=>hb.elim (fun h=>h.elim) id),HO.out.len.1,HO.out.len.2,(HI.out.bel.trans (HB1.out.mono HI.out.bel.size)).trans HB.out⟩)
   | some o=>
    have hbo:=find2_bound hf
    have hno:o+2<=u1.size:=by rw [size_list];exact hbo
    have hno1:braceI (some o)=(o:Int):=rfl;rw [hno1];have HF:=h_ hf;clear hf C1 hbo hno1
    have ho1:(0:Int)<=(o:Int):=by omega
    have ho2:(o:Int)<=((s.size - q:Nat):Int):=by have:=HZ1.out;omega
    have ho4:o<=s.size - q:=by have:=HZ1.out;omega
    obtain ⟨u2,hu2⟩:∃ u,u=u1.extract 0 o:=⟨_,rfl⟩
    have hl2:u2.data.toList=u1.data.toList.take o:=by rw [hu2,Lib.extract_data];simp
    have hz2:u2.size=o:=by rw [size_list,hl2,List.length_take,<-size_list];omega
    have HL2:=h_ hl2;have HZ2:=h_ hz2;have HU2:=h_ hu2
    have hu2z:u2.size<=65536:=by omega
    clear hl2 hz2 hu2
    go_upto_if 33 with (fail)
    rw [<-HU1.out];rw [<-HU2.out]
    go_cut [8,9,10] (fun x8 x9 _ wx=>∃ (v:ByteArray) (b:Nat),x8=.string v/\x9=.int .i64 b/\v.size<=o/\b<=65536/\Hid (v.data.toList=ahead cut u2.data.toList)/\Hid (b=q+(o - v.size))/\Hid (Below wr.heap.size wr wx))
    case first=>
     cases cut
     ·go_wp2_with fail
      go_meet
      exact ⟨u2,q,rfl,rfl,by have:=HZ2.out;omega,by omega,h_ rfl,h_ (by have:=HZ2.out;omega),h_ (Below.refl _ _)⟩
     ·go_wp2_with fail
      refine (strPost (ttrimL u2 wr)).mono ?_
      rintro e w1 ⟨v,rfl,hv,hb1⟩
      have hvz:v.size<=u2.size:=by rw [size_list,hv,size_list];exact (List.dropWhile_sublist _).length_le
      have HV:=h_ hv;have HB1:=h_ hb1;clear hv hb1
      have hz3:(0:Int)<=(u2.size:Int) - v.size:=by omega
      have hz4:(u2.size:Int) - v.size<=65536:=by omega
      have hz5:=HZ2.out;have HZ5:=h_ (show v.size<=o/\q+(u2.size - v.size)<=65536 from ⟨by omega,by have:=HZ1.out;omega⟩);clear hz5;go_wp2_with fail
      go_meet
      exact ⟨v,q+(u2.size - v.size),rfl,by congr 1;omega,HZ5.out.1,HZ5.out.2,HV.out,h_ (show q+(u2.size - v.size)=q+(o - v.size) from by rw [HZ2.out]),HB1.out⟩
    case rest=>
     obtain ⟨v,b,rfl,rfl,hvo,hb6,hv,hbq,hb1⟩:=hcut;have HV:=h_ hv.out;have HBQ:=h_ hbq.out;have HB1:=h_ hb1.out;clear hv hbq hb1;obtain ⟨p,hp⟩:∃ p:Nat,p=q+o:=⟨_,rfl⟩
     have hp2:p+2<=s.size:=by have:=HZ1.out;omega
     have HP:=h_ hp
     have hop:(o:Int)+(q:Int)=(p:Int):=by omega
     have HOP:=h_ hop;have CC:=h_ (tclosed s (p+2) hp2 (by omega) wc)
     have hk:((p:Int)+2)=((p+2:Nat):Int):=by omega
     have HK:=h_ hk;clear hp hop hk;go_wp2_with fail;rw [HOP.out];rw [HK.out]
     refine CC.out.mono ?_
     rintro e w' ⟨rfl,rfl⟩
     cases hc:clos false (s.data.toList.drop (p+2)) with
     | none=>
      have HC:=h_ hc;clear hc CC;have hn1:closI (p+2) none= -1:=rfl;rw [hn1];clear hn1;go_wp2_with fail
      exact bodyPost_ret (v:=.tuple #[.slice none 0 0,.int .i64 21]) (by simp [results,Tryz.results27,go_sem]) rfl
       (.inr ⟨by rw [HI.out.eq,step_none (by rw [<-size_list];exact hlt) (by rw [<-HL1.out];exact HF.out) HP.out HC.out];rfl,rfl,HI.out.bel.trans (HB1.out.mono HI.out.bel.size)⟩)
     | some e=>
      obtain ⟨E,hE⟩:∃ E:Nat,E=e+(p+2):=⟨_,rfl⟩
      have hE2:E+2<=s.size:=by have:=clos_bound _ (Nat.le_refl _) hc;rw [List.length_drop,<-size_list] at this;omega
      have hn1:closI (p+2) (some e)=(E:Int):=by rw [hE];rfl
      rw [hn1]
      have hE3:p+2<=E:=by omega
      have HC:=h_ hc;have HE:=h_ hE;clear hc CC hn1 hE;obtain ⟨r,hr⟩:∃ r,r=s.extract (p+2) E:=⟨_,rfl⟩
      have hrl:r.data.toList=(s.data.toList.drop (p+2)).take e:=by rw [hr,Lib.extract_data,HE.out];congr 1;omega
      have hrz:r.size+(p+2)=E:=by rw [hr,ByteArray.size_extract];omega
      have hr6:r.size<=65536:=by omega
      have HRL:=h_ hrl;have HR:=h_ hr;have HRZ:=h_ hrz;clear hrl hr hrz;go_upto_region 23 with (fail);rw [<-HR.out]
      go_cut [70] (fun x70 wx=>x70=.bool (dashL r.data.toList)/\wx=wc)
      case first=>
       by_cases h45:r.toList=[45]
       ·have HD:=h_ (show dashL r.data.toList=true from by rw [<-ByteArray.toList_eq,h45];rfl)
        go_wp2_with fail
        go_meet
        exact ⟨by rw [HD.out],rfl⟩
       ·have HD:=h_ (show (dashL r.data.toList)=Lib.hasPrefix r.data.toList [45,32] from by rw [<-ByteArray.toList_eq,dashL];simp [h45])
        have HD2:=h_ (show (r.toList==[45] || Lib.hasPrefix r.data.toList [45,32])=dashL r.data.toList from by rw [dashL,ByteArray.toList_eq])
        go_wp2_with (go_at_call 40;refine (tprefix _ _ _).mono ?_;rintro e w' ⟨rfl,rfl⟩)
        go_meet
        exact ⟨by first | rw [HD2.out] | rw [HD.out],rfl⟩
      case rest=>
       obtain ⟨rfl,rfl⟩:=hcut;obtain ⟨dl,hdl⟩:∃ d,d=dashL r.data.toList:=⟨_,rfl⟩;have HDL:=h_ hdl;rw [<-hdl];clear hdl
       go_upto_if 70 with (fail)
       go_cut [8,12] (fun x8 x12 wx=>∃ (v2 r1:ByteArray),x8=.string v2/\x12=.string r1/\v2.size<=65536/\r1.size<=65536/\Hid (v2.data.toList=behind r.data.toList v.data.toList)/\Hid (r1.data.toList=raw1 r.data.toList)/\Hid (Below wc.heap.size wc wx))
       case first=>
        cases dl
        ·go_wp2_with fail
         go_meet
         exact ⟨v,r,rfl,rfl,by omega,hr6,h_ (by rw [behind,<-HDL.out];rfl),h_ (by rw [raw1,<-HDL.out];rfl),Below.refl _ _⟩
        ·have hr1:(1:Int)<=(r.size:Int):=by
          have h1:r.data.toList≠[]:=fun e=>by have:=HDL.out;rw [e] at this;cases this
          have:=List.length_pos_iff.2 h1
          rw [<-size_list] at this;omega
         have hv6:v.size<=65536:=by omega
         go_wp2_with fail
         refine (strPost (ttrimR v _ (by omega))).mono ?_
         rintro e w1 ⟨v2,rfl,hv2,hb2⟩
         have hvz:v2.size<=v.size:=by rw [size_list,hv2,size_list,Lib.trimRightS,List.length_reverse];have:=(List.dropWhile_sublist (l:=v.data.toList.reverse) (blanks.contains ·)).length_le;simpa using this
         have HV2:=h_ hv2;have HB2:=h_ hb2;clear hv2 hb2;go_wp2_with fail
         go_meet
         exact ⟨v2,r.extract 1 r.size,rfl,rfl,by omega,by rw [ByteArray.size_extract];omega,h_ (by rw [behind,<-HDL.out];exact HV2.out),h_ (by rw [raw1,<-HDL.out,ext_list];rfl),HB2.out⟩
       case rest=>
        obtain ⟨v2,r1,rfl,rfl,hv26,hr16,hv2,hr1,hb2⟩:=hcut;have HV2:=h_ hv2.out;have HR1:=h_ hr1.out;have HB2:=h_ hb2.out;clear hv2 hr1 hb2;have HW:=h_ (show Below w.heap.size w wc from (HI.out.bel.trans (HB1.out.mono HI.out.bel.size)).trans (HB2.out.mono (by have:=HI.out.bel.size;have:=HB1.out.size;omega)));have HOW:=h_ ((HI.out.own.keep HB1.out).keep HB2.out);go_wp2_with fail
        refine (tsuffix r1 _ _ (by omega)).mono ?_
        rintro e9 w' ⟨rfl,rfl⟩;obtain ⟨dr,hdr⟩:∃ d,d=Lib.hasSuffix r1.data.toList (⟨#[32,45]⟩:ByteArray).data.toList:=⟨_,rfl⟩;rw [<-hdr];have HDR:=h_ (show dr=dashR r.data.toList from by rw [hdr,HR1.out];rfl);clear hdr
        go_upto_if 77 with (fail)
        obtain ⟨wb,ewb⟩:∃ z,z=wc:=⟨_,rfl⟩;subst ewb
        go_cut [12] (fun x12 wx=>∃ r2:ByteArray,x12=.string r2/\r2.size<=65536/\Hid (r2.data.toList=raw2 r.data.toList)/\wx=wb)
        case first=>
         cases dr
         ·go_wp2_with fail
          go_meet
          exact ⟨r1,rfl,hr16,h_ (by rw [raw2,<-HDR.out];exact HR1.out),rfl⟩
         ·have hr2:(2:Int)<=(r1.size:Int):=by
           have h1:=suffix_two (a:=32) (b:=45) (l:=r1.data.toList) (by rw [HR1.out];exact HDR.out.symm);rw [<-size_list] at h1;omega
          go_wp2_with fail
          go_meet
          exact ⟨r1.extract 0 (r1.size - 2),rfl,by rw [ByteArray.size_extract];omega,h_ (by rw [raw2,<-HDR.out,if_pos rfl,<-HR1.out,Lib.extract_data,size_list];simp),rfl⟩
        case rest=>
         obtain ⟨r2,rfl,hr26,hr2,rfl⟩:=hcut;have HR2:=h_ hr2.out;clear hr2;go_wp2_with fail;obtain ⟨o2,ho2⟩:∃ o2,o2=out++txt v2.data.toList b:=⟨_,rfl⟩
         refine (show Calls Tryz.prog 51 #[.slice A out.length c,.agg #[.bool false,.string v2,.int .i64 b]] _ (AddPost _ w.heap.size o2) from by rw [ho2];exact addv w.heap.size A c out v2 b _ HOW.out (by have:=HI.out.few;omega) (by omega) HW.out.size).mono ?_
         have HO2:=h_ (show o2=out++txt v2.data.toList b/\o2.length<=1000000 from ⟨ho2,by have:=HI.out.few;have:=(show (txt v2.data.toList b).length<=1 from by unfold txt;split <;>simp);rw [ho2];simp;omega⟩);clear ho2;rintro e9 w3 ⟨A2,c2,rfl,hown,hb3⟩;have HO:=h_ hown;have HB3:=h_ (HW.out.trans hb3);clear hown hb3;go_wp2_with fail
         refine (strPost (ttrim r2 _ (by omega))).mono ?_
         rintro e9 w4 ⟨bd,rfl,hbd,hb4⟩
         replace HO:=h_ (HO.out.keep hb4);replace HB3:=h_ (HB3.out.trans (hb4.mono HB3.out.size))
         have HBD:=h_ (show bd.data.toList=body r.data.toList from by rw [hbd,HR2.out];rfl)
         have hbz:bd.size<=65536:=by
          have h1:bd.size<=r2.size:=by
           rw [size_list,hbd,size_list,Lib.trimS,Lib.trimLeftS]
           refine Nat.le_trans (List.dropWhile_sublist _).length_le ?_
           rw [Lib.trimRightS,List.length_reverse];have:=(List.dropWhile_sublist (l:=r2.data.toList.reverse) (blanks.contains ·)).length_le;simpa using this
          omega
         clear hb4 hbd;obtain ⟨hp,hhp⟩:∃ d,d=Lib.hasPrefix bd.data.toList (⟨#[47,42]⟩:ByteArray).data.toList:=⟨_,rfl⟩;obtain ⟨hs,hhs⟩:∃ d,d=Lib.hasSuffix bd.data.toList (⟨#[42,47]⟩:ByteArray).data.toList:=⟨_,rfl⟩;have CP:=h_ (show Calls Tryz.prog 40 #[.string bd,.string ⟨#[47,42]⟩] w4 (fun e w'=>e=.returned (.bool hp)/\w4=w') from hhp ▸ tprefix _ _ _);have CS:=h_ (show Calls Tryz.prog 54 #[.string bd,.string ⟨#[42,47]⟩] w4 (fun e w'=>e=.returned (.bool hs)/\w4=w') from hhs ▸ tsuffix _ _ _ (by omega));have HCM:=h_ (show comment bd.data.toList=(hp && hs && decide (4<=bd.data.toList.length)) from by rw [hhp,hhs];rfl);clear hhp hhs;go_upto_region 31 with (fail)
         go_cut [102] (fun x wx=>x=.bool (!comment bd.data.toList)/\wx=w4)
         case first=>
          have HCN:=h_ (show comment bd.data.toList=(hp && hs && decide (4<=bd.size)) from by rw [HCM.out,<-size_list])
          by_cases h4:4<=bd.size
          ·have d4:decide ((bd.size:Int) < 4)=false:=by simp;omega
           have d5:decide (4<=bd.size)=true:=by simp [h4]
           have HD5:=h_ d5;clear d5
           cases hp
           ·go_wp2_with (go_at_call 40;refine CP.out.mono ?_;rintro e9 w' ⟨rfl,rfl⟩)
            go_meet
            exact ⟨by rw [HCN.out];rfl,rfl⟩
           ·cases hs
            ·go_wp2_with (first | (go_at_call 40;refine CP.out.mono ?_;rintro e9 w' ⟨rfl,rfl⟩) | (go_at_call 54;refine CS.out.mono ?_;rintro e9 w' ⟨rfl,rfl⟩))
             go_meet
             exact ⟨by rw [HCN.out];rfl,rfl⟩
            ·go_wp2_with (first | (go_at_call 40;refine CP.out.mono ?_;rintro e9 w' ⟨rfl,rfl⟩) | (go_at_call 54;refine CS.out.mono ?_;rintro e9 w' ⟨rfl,rfl⟩))
             go_meet
             exact ⟨by rw [HCN.out,HD5.out];rfl,rfl⟩
          ·have d4:decide ((bd.size:Int) < 4)=true:=by simp;omega
           have d5:decide (4<=bd.size)=false:=by simp [h4]
           have HD5:=h_ d5;clear d5
           cases hp
           ·go_wp2_with (go_at_call 40;refine CP.out.mono ?_;rintro e9 w' ⟨rfl,rfl⟩)
            go_meet
            exact ⟨by rw [HCN.out];rfl,rfl⟩
           ·cases hs
            ·go_wp2_with (first | (go_at_call 40;refine CP.out.mono ?_;rintro e9 w' ⟨rfl,rfl⟩) | (go_at_call 54;refine CS.out.mono ?_;rintro e9 w' ⟨rfl,rfl⟩))
             go_meet
             exact ⟨by rw [HCN.out];rfl,rfl⟩
            ·go_wp2_with (first | (go_at_call 40;refine CP.out.mono ?_;rintro e9 w' ⟨rfl,rfl⟩) | (go_at_call 54;refine CS.out.mono ?_;rintro e9 w' ⟨rfl,rfl⟩))
             go_meet
             exact ⟨by rw [HCN.out,HD5.out];rfl,rfl⟩
         case rest=>
          obtain ⟨rfl,rfl⟩:=hcut;clear CP CS
          have HN:=h_ (fun (out2:List Tok) (A3:OA_) (c3:Nat) (wx:World) (he:out2=out++txt v2.data.toList b++actn (body r.data.toList) p) (ho:OwnE eltK wx w.heap.size (fun _=>False) A3 c3 out2) (hbl:Below w.heap.size w wx)=>
           (show SpInv s w wx out2 A3 c3 (E+2) dr from by
            subst he;rw [HDR.out]
            exact HI.out.next hlt (by rw [<-HL1.out];exact HF.out) HP.out HC.out HE.out hE2 HRL.out (t:=v.data.toList) (by rw [HV.out,HL2.out,HL1.out]) HV2.out (by rw [HBQ.out,size_list]) ho hbl))
          cases hcm:comment bd.data.toList with
          | true=>
           have HK2:=h_ (show actn (body r.data.toList) p=[] from by rw [<-HBD.out,actn,hcm];rfl);clear hcm HCM;go_wp2_with fail
           go_round
           case rel=>exact ⟨o2,A2,c2,E+2,dr,rfl,rfl,by go_num,hE2,HN.out _ _ _ _ (by rw [HK2.out,List.append_nil,HO2.out.1]) HO.out HB3.out⟩
           case measure=>have:=HP.out;simp [intOf];omega
          | false=>
           have HK2:=h_ (show actn (body r.data.toList) p=[⟨true,bd.data.toList,p⟩] from by rw [<-HBD.out,actn,hcm];rfl);clear hcm HCM;obtain ⟨A3,c3,w5,hrun,hown,hgr⟩:=tok_appendv true bd p HO.out HO2.out.2 (by omega) HB3.out.size;obtain ⟨o3,ho3⟩:∃ o3,o3=o2++[⟨true,bd.data.toList,p⟩]:=⟨_,rfl⟩;rw [<-ho3] at hrun hown;have HO3e:=h_ ho3;clear ho3;have HO3:=h_ hown;have HG:=h_ hgr;clear hown hgr
           go_wp2_with (at_builtin;refine wpList_append_run rfl (.tmp 103) (.tmp 107) 71 rfl hrun rfl rfl ?_)
           go_round
           case rel=>exact ⟨o3,A3,c3,E+2,dr,rfl,rfl,by go_num,hE2,HN.out _ _ _ _ (by rw [HK2.out,HO3e.out,HO2.out.1]) HO3.out (HB3.out.trans HG.out)⟩
           case measure=>have:=HP.out;simp [intOf];omega
  ·go_wp2_with fail
   exact bodyPost_ret (v:=.tuple #[.slice A out.length c,.int .i64 0]) (by simp [results,Tryz.results27,go_sem]) rfl
    (.inl ⟨out,A,c,by rw [HI.out.eq,drop_end (by omega),splitM_nil];simp,rfl,HI.out.own.rep.weak (fun b hb _=>hb.elim (fun h=>h.elim) id),HI.out.own.len.1,HI.out.own.len.2,HI.out.bel⟩)
def MaxL (w:World):Prop:=∃ m,w.cell? ⟨0,0,none⟩=some (.int .i64 m)
theorem MaxL.keep {w w':World} (h:MaxL w) (hb:Below w.heap.size w w'):MaxL w':=by
 obtain ⟨m,hm⟩:=h
 exact ⟨m,(hb.cell (p:=⟨0,0,none⟩) (block_lt_of_cell hm)).trans hm⟩
def TokPost (w:World) (toks:List Tok) (e:Ending) (w':World):Prop:=
 ∃ A c,e=.returned (.tuple #[.slice A toks.length c,.int .i64 0])/\RepE eltK w' (fun b=>w.heap.size<=b) A toks/\toks.length<=c/\c<=maxLen/\Below w.heap.size w w'
theorem tsplit_ok {s:ByteArray} {toks:List Tok} (w:World) (hs:s.size<=65536) (hm:MaxL w) (h:splitM (s.size+1) s.data.toList 0 false=some toks):Calls Tryz.prog 27 #[.string s] w (TokPost w toks):=by
 obtain ⟨m,hm⟩:=hm
 refine (tsplit s hs w m hm).mono ?_
 rintro e w' (⟨t2,A,c,h1,h2,h3,h4,h5,h6⟩ | ⟨h1, -⟩)
 ·rw [h] at h1
  injection h1 with h1
  subst h1
  exact ⟨A,c,h2,h3,h4,h5,h6⟩
 ·rw [h] at h1;cases h1
theorem tsplit_none {s:ByteArray} (w:World) (hs:s.size<=65536) (hm:MaxL w) (h:splitM (s.size+1) s.data.toList 0 false=none):Calls Tryz.prog 27 #[.string s] w fun e w'=>e=.returned (.tuple #[.slice none 0 0,.int .i64 21])/\Below w.heap.size w w':=by
 obtain ⟨m,hm⟩:=hm
 refine (tsplit s hs w m hm).mono ?_
 rintro e w' (⟨t2,A,c,h1, -⟩ | ⟨-,h2,h3⟩)
 ·rw [h] at h1;cases h1
 ·exact ⟨h2,h3⟩
theorem rep_tok {w:World} {S:Nat->Prop} {A:OA_} {toks:List Tok} (h:RepE eltK w S A toks) (hn:toks≠[]):
  ∃ b o,A=some ⟨b,o,none⟩/\S b/\b < w.heap.size/\∀ i t,toks[i]? =some t->w.cell? ⟨b,o+i*3,none⟩=some (.bool t.act)/\w.cell? ⟨b,o+i*3+1,none⟩=some (.string ⟨t.s.toArray⟩)/\w.cell? ⟨b,o+i*3+2,none⟩=some (.int .i64 t.at_):=by
 obtain ⟨b,o,cs,e,hb,hc,hr⟩:=h 0 (List.length_pos_iff.2 hn);have hcs:=hr.1;subst hcs
 refine ⟨b,o,e,hb,hc.lt,fun i t ht=>?_⟩
 obtain ⟨hi,rfl⟩:=List.getElem?_eq_some_iff.1 ht;obtain ⟨b2,o2,cs2,e2,hb2,hc2,hr2⟩:=h i hi;rw [e] at e2
 injection e2 with e2
 injection e2 with e2 e3
 subst e2 e3;have hcs:=hr2.1;subst hcs
 exact ⟨hc2 0 _ rfl,hc2 1 _ rfl,hc2 2 _ rfl⟩
end Go.Proofs.YtnblmhfgmehnnaaGreatDoor
namespace Go.Proofs.YtnblmhfgmehnnaaGreatDoor
open Go.RowKit Go.Lib
theorem own_snocN {w:World} {B:Nat} {S:Nat->Prop} {A:OA_} {c:Nat} {l:List Nd} {x:Nd} {cs:List Value} (h:OwnE eltN w B S A c l) (hx:RepN w (fun b=>S b/\Value.ownBlock (.slice A l.length c)≠some b) cs x) (hB:B<=w.heap.size) (hl:l.length<=1000000):
  ∃ A' c' w',(Builtin.append_ #[30,30] 30 #[.slice A l.length c,.slice (some ⟨w.heap.size,0,none⟩) 1 1]).run Tryz.prog (w.alloc (.cells cs.toArray 64))=.ok (.slice A' (l++[x]).length c') w'/\OwnE eltN w' B S A' c' (l++[x])/\(w.alloc (.cells cs.toArray 64)).grownBy w' (Value.ownBlock (.slice A l.length c)):=by
 have ha:Below w.heap.size w (w.alloc (.cells cs.toArray 64)):=Below.new _ _
 exact own_append (E:=eltN) (l2:=[x]) (es:=cs) (ad:=⟨w.heap.size,0,none⟩) (cc:=1) (ty:=30) (t:=30) rfl (h.keep ha) (by show (l.length+1)*264<=_;omega) (by simp;unfold maxLen;omega) (by simp;omega) (by rw [hx.len];rfl)
  (fun j u hu=>by rw [show (⟨w.heap.size,0,none⟩:Addr).add j=⟨w.heap.size,0+j,none⟩ from by unfold Addr.add;split <;>simp_all,Nat.zero_add,(Blk.new w 64 cs.toArray).cell];simpa using hu)
  (fun i hi=>by
   obtain rfl:i=0:=by simpa using hi
   have h10:=hx.len;rw [show (eltN).sz=16 from rfl,Nat.zero_mul,List.drop_zero,List.take_of_length_le (by omega)]
   exact hx.keep ha)
theorem own_repNs {w:World} {B c:Nat} {A:OA_} {l:List Nd} (h:OwnE eltN w B (fun b=>B<=b) A c l):RepNs w (fun b=>B<=b) A l:=RepE.weak (E:=eltN) h.rep (fun _ hb _=>hb.elim id id)
theorem own_roomN {w:World} {B:Nat} {S:Nat->Prop} {A:OA_} {c:Nat} {l:List Nd} (h:OwnE eltN w B S A c l) (hl:l.length<=1000000):Room l.length c 264:=⟨h.len.1,h.len.2,by omega⟩
structure Mk.Big (m:Mk):Prop where
 low:0<=m.deep
 sum:m.deep+m.rest.length<=1000000
def NsPost (gm:Nat) (A:OA_) (c:Nat) (toks:List Tok) (st:Stop) (m':Mk) (w:World) (e:Ending) (w':World):Prop:=
 ∃ a k,e=.returned (.tuple #[.slice a st.out.length k,.string (bs st.stop),.string (bs st.rest)])/\OwnE eltN w' w.heap.size (fun b=>w.heap.size<=b) a k st.out/\MkAt w' gm A c toks m'/\Bar w w' gm
def Fit (toks:List Tok):Prop:=∀ t ∈ toks,t.s.length<=65536
def NoOk (gm:Nat) (A:OA_) (c:Nat) (toks:List Tok) (n:Nat):Prop:=∀ k,k<=n->∀ (m:Mk) (W:World),2*m.rest.length+1<=k->m.Big->MkAt W gm A c toks m->ScalV W->Calls Tryz.prog 28 #[.pointer (some ⟨gm,0,none⟩)] W (NsPost gm A c toks (nodesF k [] m).1 (nodesF k [] m).2 W)
def BlOk (gm:Nat) (A:OA_) (c:Nat) (toks:List Tok) (n:Nat):Prop:=∀ k,k<=n->∀ (wd s:ByteArray) (m:Mk) (W:World),(wd.data.toList=ifW\/wd.data.toList=withW\/wd.data.toList=rangeW\/wd.data.toList=defineW)->s.size<=1000000->2*m.rest.length+2<=k->0<=m.deep->m.deep+m.rest.length < 1000000->MkAt W gm A c toks m->ScalV W->Calls Tryz.prog 57 #[.pointer (some ⟨gm,0,none⟩),.string wd,.string s] W (NdPost gm A c toks (blockF k wd.data.toList s.data.toList m).1 (blockF k wd.data.toList s.data.toList m).2 W)
theorem MkAt.next {w:World} {gm:Nat} {A:OA_} {c:Nat} {toks:List Tok} {m:Mk} (h:MkAt w gm A c toks m) {t:Tok} {ts:List Tok} (hr:m.rest=t::ts):
  ∃ b o,A=some ⟨b,o,none⟩/\b < gm/\toks.length - m.rest.length < toks.length/\toks[toks.length - m.rest.length]? =some t/\ts=toks.drop (toks.length - ts.length)/\
   w.cell? ⟨b,o+(toks.length - m.rest.length)*3,none⟩=some (.bool t.act)/\w.cell? ⟨b,o+(toks.length - m.rest.length)*3+1,none⟩=some (.string ⟨t.s.toArray⟩)/\w.cell? ⟨b,o+(toks.length - m.rest.length)*3+2,none⟩=some (.int .i64 t.at_):=by
 have hle:=h.le;have hrest:=h.rest
 have hl:m.rest.length=ts.length+1:=by rw [hr];rfl
 have hn:toks≠[]:=fun e=>by rw [e,List.length_nil] at hle;omega
 obtain ⟨b,o,e,hb, -,hc⟩:=rep_tok h.toks hn;obtain ⟨k,hk⟩:∃ z,z=toks.length - m.rest.length:=⟨_,rfl⟩;rw [<-hk] at hrest ⊢;rw [hr] at hrest
 have hkl:k < toks.length:=by omega
 have ht:toks[k]? =some t:=by
  have h9:(toks.drop k)[0]? =some t:=by rw [<-hrest];rfl
  rw [List.getElem?_drop,Nat.add_zero] at h9
  exact h9
 have hts:ts=toks.drop (toks.length - ts.length):=by
  have h9:ts=(toks.drop k).drop 1:=by rw [<-hrest];rfl
  rw [List.drop_drop] at h9;rw [show toks.length - ts.length=k+1 from by omega]
  exact h9
 obtain ⟨c0,c1,c2⟩:=hc k t ht
 exact ⟨b,o,e,hb,hkl,ht,hts,c0,c1,c2⟩
end Go.Proofs.YtnblmhfgmehnnaaGreatDoor
