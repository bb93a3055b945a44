/- Several texts as one. -/
import Derived.Test.YtnblmhfgmehnnaaGreatDoorPeFo
import Derived.Test.YtnblmhfgmehnnaaGreatDoorPeMv
import Derived.Test.YtnblmhfgmehnnaaGreatDoorPeAM
set_option maxRecDepth 100000
set_option maxHeartbeats 8000000
namespace Go.Proofs.YtnblmhfgmehnnaaGreatDoor
open Go.RowKit Go.Lib
attribute [local go_sem ↓] Go.wp_at_zero Go.wp_at_succ
theorem PartsN.mono {w w':World} {S S':Nat->Prop} {n:Nd} {la:OA_} {lc:Nat} {ma:OA_} {mc:Nat} {sa:OA_} {sc:Nat} {aa:OA_} {ac:Nat} {ba:OA_} {bc:Nat} {ea:OA_} {ec:Nat} (h:PartsN w S la lc ma mc sa sc aa ac ba bc ea ec n) (hS:∀ b,S b->b < w.heap.size->S' b) (hw:∀ b o,S b->b < w.heap.size->w'.cell? ⟨b,o,none⟩=w.cell? ⟨b,o,none⟩):PartsN w' S' la lc ma mc sa sc aa ac ba bc ea ec n:=
 ⟨h.kind,h.text,h.x.mono hS hw,h.key,h.name,h.broom,h.eroom,h.body.mono hS hw,h.els.mono hS hw⟩
structure BkSt (w W:World) (gm:Nat) (A:OA_) (c:Nat) (toks:List Tok) (n6 n7:Nat) (m:Mk) (la:OA_) (lc:Nat) (ma:OA_) (mc:Nat) (sa:OA_) (sc:Nat) (aa:OA_) (ac:Nat) (ba:OA_) (bc:Nat) (ea:OA_) (ec:Nat) (nd:Nd):Prop where
 mkr:MkAt W gm A c toks m
 bar:Bar w W gm
 sv:ScalV W
 b6:Blk W n6 64 #[.int .i64 0,.string ⟨#[]⟩,.int .i64 0,.int .i64 0,.bool false,.int .i64 0,.string ⟨#[]⟩,.slice none 0 0,.slice none 0 0,.string ⟨#[]⟩,.slice none 0 0,.slice none 0 0,.string ⟨#[]⟩,.string ⟨#[]⟩,.slice none 0 0,.slice none 0 0]
 b7:Blk W n7 64 #[.int .i64 nd.kind,.string nd.text,.int .i64 nd.x.kind,.int .i64 nd.x.val.kind,.bool nd.x.val.bool,.int .i64 nd.x.val.int,.string nd.x.val.str,.slice la nd.x.val.list.length lc,.slice ma nd.x.val.map.length mc,.string nd.x.name,.slice sa nd.x.steps.length sc,.slice aa nd.x.args.length ac,.string nd.key,.string nd.name,.slice ba nd.body.length bc,.slice ea nd.els.length ec]
 parts:PartsN W (fun b=>w.heap.size<=b/\b≠n6/\b≠n7) la lc ma mc sa sc aa ac ba bc ea ec nd
section
variable {w W W':World} {gm:Nat} {A:OA_} {c:Nat} {toks:List Tok} {n6 n7:Nat} {m m':Mk} {la:OA_} {lc:Nat} {ma:OA_} {mc:Nat} {sa:OA_} {sc:Nat} {aa:OA_} {ac:Nat} {ba:OA_} {bc:Nat} {ea:OA_} {ec:Nat} {nd:Nd}
theorem BkSt.step (h:BkSt w W gm A c toks n6 n7 m la lc ma mc sa sc aa ac ba bc ea ec nd) (k:Bar W W' gm) (hm:MkAt W' gm A c toks m') (hg:Glob gm) (hgm:gm < w.heap.size) (h6:n6≠gm) (h7:n7≠gm):BkSt w W' gm A c toks n6 n7 m' la lc ma mc sa sc aa ac ba bc ea ec nd:=
 ⟨hm,h.bar.trans k,h.sv.bar k hg,k.blk h.b6 h6,k.blk h.b7 h7,h.parts.mono (fun _ hb _=>hb) (fun b o hb hlt=>k.cell hlt (by have:=hb.1;omega))⟩
theorem BkSt.below (h:BkSt w W gm A c toks n6 n7 m la lc ma mc sa sc aa ac ba bc ea ec nd) (k:Below W.heap.size W W') (hg:Glob gm) (hgm:gm < w.heap.size) (h6:n6≠gm) (h7:n7≠gm):BkSt w W' gm A c toks n6 n7 m la lc ma mc sa sc aa ac ba bc ea ec nd:=
 h.step (Bar.of k) (h.mkr.keep k) hg hgm h6 h7
theorem BkSt.deep (h:BkSt w W gm A c toks n6 n7 m la lc ma mc sa sc aa ac ba bc ea ec nd) (d:Int) (hg:Glob gm) (hgm:gm < w.heap.size) (h6:n6≠gm) (h7:n7≠gm):BkSt w (W.setCell ⟨gm,2,none⟩ (.int .i64 d)) gm A c toks n6 n7 ⟨m.rest,d,m.bad⟩ la lc ma mc sa sc aa ac ba bc ea ec nd:=
 h.step (Bar.set gm 2 _) ⟨h.mkr.blk.set_ 2 (.int .i64 d),h.mkr.rest,h.mkr.toks.barM (Bar.set gm 2 _)⟩ hg hgm h6 h7
theorem BkSt.setB (h:BkSt w W gm A c toks n6 n7 m la lc ma mc sa sc aa ac ba bc ea ec nd) {a:OA_} {k:Nat} {l:List Nd} (hl:RepNs W (fun b=>w.heap.size<=b/\b≠n6/\b≠n7) a l) (hr:Room l.length k 264) (hgm:gm < w.heap.size) (h6:n6≠n7) (hw7:w.heap.size<=n7) (hg7:Glob n7):BkSt w (W.setCell ⟨n7,14,none⟩ (.slice a l.length k)) gm A c toks n6 n7 m la lc ma mc sa sc aa ac a k ea ec (nd.setBody l):=by
 have hb:=Bar.set (w:=W) n7 14 (.slice a l.length k);have hp:=h.parts.mono (w':=W.setCell ⟨n7,14,none⟩ (.slice a l.length k)) (S':=fun b=>w.heap.size<=b/\b≠n6/\b≠n7) (fun _ hb _=>hb) (fun b o h9 hlt=>hb.cell hlt h9.2.2)
 exact ⟨h.mkr.bar hb (by omega),h.bar.join hb hw7,h.sv.bar hb hg7,hb.blk h.b6 h6,h.b7.set_ 14 (.slice a l.length k),⟨hp.kind,hp.text,hp.x,hp.key,hp.name,hr,hp.eroom,hl.mono (fun _ hb _=>hb) (fun b o h9 hlt=>hb.cell hlt h9.2.2),hp.els⟩⟩
theorem BkSt.setE (h:BkSt w W gm A c toks n6 n7 m la lc ma mc sa sc aa ac ba bc ea ec nd) {a:OA_} {k:Nat} {l:List Nd} (hl:RepNs W (fun b=>w.heap.size<=b/\b≠n6/\b≠n7) a l) (hr:Room l.length k 264) (hgm:gm < w.heap.size) (h6:n6≠n7) (hw7:w.heap.size<=n7) (hg7:Glob n7):BkSt w (W.setCell ⟨n7,15,none⟩ (.slice a l.length k)) gm A c toks n6 n7 m la lc ma mc sa sc aa ac ba bc a k (nd.setEls l):=by
 have hb:=Bar.set (w:=W) n7 15 (.slice a l.length k);have hp:=h.parts.mono (w':=W.setCell ⟨n7,15,none⟩ (.slice a l.length k)) (S':=fun b=>w.heap.size<=b/\b≠n6/\b≠n7) (fun _ hb _=>hb) (fun b o h9 hlt=>hb.cell hlt h9.2.2)
 exact ⟨h.mkr.bar hb (by omega),h.bar.join hb hw7,h.sv.bar hb hg7,hb.blk h.b6 h6,h.b7.set_ 15 (.slice a l.length k),⟨hp.kind,hp.text,hp.x,hp.key,hp.name,hp.broom,hr,hp.body,hl.mono (fun _ hb _=>hb) (fun b o h9 hlt=>hb.cell hlt h9.2.2)⟩⟩
theorem BkSt.post (hgm:gm < w.heap.size) (hw6:w.heap.size<=n6) (h:BkSt w W gm A c toks n6 n7 m la lc ma mc sa sc aa ac ba bc ea ec nd) (k:Bar W W' n6):NdPost gm A c toks nd m w (.returned (.agg #[.int .i64 nd.kind,.string nd.text,.int .i64 nd.x.kind,.int .i64 nd.x.val.kind,.bool nd.x.val.bool,.int .i64 nd.x.val.int,.string nd.x.val.str,.slice la nd.x.val.list.length lc,.slice ma nd.x.val.map.length mc,.string nd.x.name,.slice sa nd.x.steps.length sc,.slice aa nd.x.args.length ac,.string nd.key,.string nd.name,.slice ba nd.body.length bc,.slice ea nd.els.length ec])) W':=
 ⟨[.int .i64 nd.kind,.string nd.text,.int .i64 nd.x.kind,.int .i64 nd.x.val.kind,.bool nd.x.val.bool,.int .i64 nd.x.val.int,.string nd.x.val.str,.slice la nd.x.val.list.length lc,.slice ma nd.x.val.map.length mc,.string nd.x.name,.slice sa nd.x.steps.length sc,.slice aa nd.x.args.length ac,.string nd.key,.string nd.name,.slice ba nd.body.length bc,.slice ea nd.els.length ec],rfl,(RepN.of h.parts).mono (fun b hb _=>hb.1) (fun b o hb hlt=>k.cell hlt hb.2.1),h.mkr.bar k (by omega),h.bar.join k hw6⟩
theorem rep_behind {a:OA_} {k B:Nat} {l:List Nd} (h:OwnE eltN W B (fun b=>B<=b) a k l) (hw:w.heap.size<=B) (h6:n6 < B) (h7:n7 < B):RepNs W (fun b=>w.heap.size<=b/\b≠n6/\b≠n7) a l:=
 (own_repNs h).mono (fun b hb _=>⟨by omega,by omega,by omega⟩) (fun _ _ _ _=>rfl)
theorem nodes_lt (n:Nat):∀ (out:List Nd) (m:Mk),(nodesF n out m).1.stop≠[]->(nodesF n out m).2.deep+(nodesF n out m).2.rest.length+1<=m.deep+m.rest.length:=by
 induction n with
 | zero=>intro out m h;rw [nodesF] at h;exact absurd rfl h
 | succ n ih=>
  intro out m;obtain ⟨rest,d,b⟩:=m;rw [nodesF]
  simp only
  cases rest with
  | nil=>exact fun h=>absurd rfl h
  | cons t ts=>
   simp only
   have go:∀ (x:Nd) (m2:Mk),Mk.Le 1 ⟨ts,d,b⟩ m2->(nodesF n (out++[x]) m2).1.stop≠[]->(nodesF n (out++[x]) m2).2.deep+(nodesF n (out++[x]) m2).2.rest.length+1<=d+(t::ts).length:=fun x m2 h2 h=>by
    have h3:=ih (out++[x]) m2 h;have h4:=h2.sum
    simp only at h4
    rw [List.length_cons]
    omega
   have up:∀ m2,Mk.Le 0 ⟨ts,d,b⟩ m2->Mk.Le 1 ⟨ts,d,b⟩ m2:=fun m2 h2=>⟨h2.len,h2.low,by have:=h2.sum;omega⟩
   split
   ·exact go _ _ (up _ (Mk.Le.refl _))
   ·split
    ·intro _;simp only [List.length_cons];omega
    ·split
     ·exact go _ _ ((nodes_le n).2 _ _ _)
     ·split
      ·exact go _ _ (up _ (mpipe_le _ _))
      ·exact go _ _ (up _ (mpipe_le _ _))
theorem mpipe_suf (m:Mk) (s:LB_):(mpipe m s).2.rest <:+m.rest:=by
 unfold mpipe
 simp only
 split
 ·exact List.suffix_refl _
 ·exact List.nil_suffix
theorem headF_suf (w s:LB_) (m:Mk):(headF w s m).2.rest <:+m.rest:=by
 unfold headF
 split
 ·exact mpipe_suf m s
 ·split
  ·exact mpipe_suf m s
  ·split
   ·simp only
    split
    ·exact List.nil_suffix
    ·exact List.suffix_refl _
   ·simp only
    split
    ·split
     ·exact mpipe_suf m _
     ·exact mpipe_suf m s
    ·split
     ·exact mpipe_suf m _
     ·exact mpipe_suf m s
theorem nodes_suf (n:Nat):(∀ (out:List Nd) (m:Mk),(nodesF n out m).2.rest <:+m.rest/\∀ K,(∀ t ∈ m.rest,t.s.length<=K)->(nodesF n out m).1.rest.length<=K)/\(∀ (w s:LB_) (m:Mk),(blockF n w s m).2.rest <:+m.rest):=by
 induction n with
 | zero=>exact ⟨fun out m=>by rw [nodesF];exact ⟨List.suffix_refl _,fun K _=>Nat.zero_le _⟩,fun w s m=>by rw [blockF];exact List.suffix_refl _⟩
 | succ n ih=>
  obtain ⟨hn,hb⟩:=ih
  refine ⟨fun out m=>?_,fun w s m=>?_⟩
  ·obtain ⟨rest,d,b⟩:=m
   rw [nodesF]
   simp only
   cases rest with
   | nil=>exact ⟨List.suffix_refl _,fun K _=>Nat.zero_le _⟩
   | cons t ts=>
    simp only
    have go:∀ (out:List Nd) (m2:Mk),m2.rest <:+ts->(nodesF n out m2).2.rest <:+t::ts/\∀ K,(∀ x ∈ t::ts,x.s.length<=K)->(nodesF n out m2).1.rest.length<=K:=fun out m2 h2=>
     ⟨((hn out m2).1.trans h2).trans (List.suffix_cons t ts),fun K h=>(hn out m2).2 K (fun x hx=>h x (List.mem_cons_of_mem _ (h2.subset hx)))⟩
    split
    ·exact go _ _ (List.suffix_refl _)
    ·split
     ·exact ⟨List.suffix_cons t ts,fun K h=>Nat.le_trans (nameD_le t.s) (h t (List.mem_cons_self ..))⟩
     ·split
      ·exact go _ _ (hb _ _ _)
      ·split
       ·exact go _ _ (mpipe_suf _ _)
       ·exact go _ _ (mpipe_suf _ _)
  ·obtain ⟨rest,d,b⟩:=m
   rw [blockF]
   simp only
   split
   ·exact List.nil_suffix
   ·have h1:=headF_suf w s ⟨rest,d+1,b⟩
    have h2:=(hn [] (headF w s ⟨rest,d+1,b⟩).2).1;have h3:=h2.trans h1
    have up:∀ m4:Mk,m4.rest <:+(nodesF n [] (headF w s ⟨rest,d+1,b⟩).2).2.rest->m4.up.rest <:+rest:=fun m4 h4=>h4.trans h3
    split
    ·exact up _ (hb _ _ _)
    ·split
     ·refine up _ ?_
      split
      ·exact List.nil_suffix
      ·exact (hn [] _).1
     ·refine up _ ?_
      split
      ·exact List.nil_suffix
      ·exact List.suffix_refl _
theorem nodes_cnt (n:Nat):∀ (out:List Nd) (m:Mk),(nodesF n out m).1.out.length+(nodesF n out m).2.rest.length<=out.length+m.rest.length:=by
 induction n with
 | zero=>intro out m;rw [nodesF];exact Nat.le_refl _
 | succ n ih=>
  intro out m;obtain ⟨rest,d,b⟩:=m;rw [nodesF]
  simp only
  cases rest with
  | nil=>exact Nat.le_refl _
  | cons t ts=>
   simp only
   have go:∀ (x:Nd) (m2:Mk),m2.rest.length<=ts.length->(nodesF n (out++[x]) m2).1.out.length+(nodesF n (out++[x]) m2).2.rest.length<=out.length+(t::ts).length:=fun x m2 h2=>by
    have h3:=ih (out++[x]) m2;rw [List.length_append,List.length_singleton] at h3;rw [List.length_cons]
    omega
   split
   ·exact go _ _ (Nat.le_refl _)
   ·split
    ·show out.length+ts.length<=_;rw [List.length_cons];omega
    ·split
     ·exact go _ _ ((nodes_le n).2 _ _ _).len
     ·split
      ·exact go _ _ (mpipe_le _ _).len
      ·exact go _ _ (mpipe_le _ _).len
end
def ECase:Nat->LB_->LB_->Prop
 | 0,st,tr=>st=endW/\tr=[]
 | 1,st,tr=>st=endW/\tr≠[]
 | _,st,_=>st≠endW
def BCase:Nat->LB_->LB_->LB_->Prop
 | 0,st1,wd,tr=>st1=elseW/\wd=ifW/\wordL tr=ifW
 | 1,st1,wd,tr=>st1=elseW/\wd=ifW/\wordL tr≠ifW/\tr=[]
 | 2,st1,wd,tr=>st1=elseW/\wd=ifW/\wordL tr≠ifW/\tr≠[]
 | 3,st1,wd,_=>st1=elseW/\wd≠ifW/\wd=defineW
 | 4,st1,wd,tr=>st1=elseW/\wd≠ifW/\wd≠defineW/\tr=[]
 | 5,st1,wd,tr=>st1=elseW/\wd≠ifW/\wd≠defineW/\tr≠[]
 | _,st1,_,_=>st1≠elseW
theorem bl_deep (gm:Nat) (A:OA_) (c:Nat) (toks:List Tok) (m0:Mk) (wd s:ByteArray) (w:World) (hw4:wd.data.toList=ifW\/wd.data.toList=withW\/wd.data.toList=rangeW\/wd.data.toList=defineW) (h:MkAt w gm A c toks m0) (hv:ScalV w) (hs1:0<=m0.deep) (hs0:m0.deep+m0.rest.length < 1000000) (hgl:Glob gm) (THEAD:∀ (m:Mk) (W:World),MkAt W gm A c toks m->ScalV W->Calls Tryz.prog 80 #[.pointer (some ⟨gm,0,none⟩),.string wd,.string s] W (NdPost gm A c toks (headF wd.data.toList s.data.toList m).1 (headF wd.data.toList s.data.toList m).2 W)) {n:Nat} (hf:2*m0.rest.length+2<=n+1) (HN:NoOk gm A c toks n) (HB:BlOk gm A c toks n) (hdp:16 < m0.deep+1):Calls Tryz.prog 57 #[.pointer (some ⟨gm,0,none⟩),.string wd,.string s] w (NdPost gm A c toks (blockF (n+1) wd.data.toList s.data.toList m0).1 (blockF (n+1) wd.data.toList s.data.toList m0).2 w):=by
 obtain ⟨Y0,hY0⟩:∃ z,z=blockF (n+1) wd.data.toList s.data.toList m0:=⟨_,rfl⟩;rw [<-hY0];obtain ⟨rest,d,b⟩:=m0;rw [blockF] at hY0
 simp only at hY0 hf hdp
 simp only at hs0 hs1
 have hgm:=h.blk.lt
 have hglob:∀ g,w.heap.size<=g->Glob g:=fun g hg=>hv.glob hg
 have hb0:Below w.heap.size w (w.alloc (.cells #[.int .i64 0,.string ⟨#[]⟩,.int .i64 0,.int .i64 0,.bool false,.int .i64 0,.string ⟨#[]⟩,.slice none 0 0,.slice none 0 0,.string ⟨#[]⟩,.slice none 0 0,.slice none 0 0,.string ⟨#[]⟩,.string ⟨#[]⟩,.slice none 0 0,.slice none 0 0] 64)):=Below.new _ _;have H0:=h_ (h.keep hb0);have HX0:=h_ (show Blk (w.alloc (.cells #[.int .i64 0,.string ⟨#[]⟩,.int .i64 0,.int .i64 0,.bool false,.int .i64 0,.string ⟨#[]⟩,.slice none 0 0,.slice none 0 0,.string ⟨#[]⟩,.slice none 0 0,.slice none 0 0,.string ⟨#[]⟩,.string ⟨#[]⟩,.slice none 0 0,.slice none 0 0] 64)) w.heap.size 64 #[.int .i64 0,.string ⟨#[]⟩,.int .i64 0,.int .i64 0,.bool false,.int .i64 0,.string ⟨#[]⟩,.slice none 0 0,.slice none 0 0,.string ⟨#[]⟩,.slice none 0 0,.slice none 0 0,.string ⟨#[]⟩,.string ⟨#[]⟩,.slice none 0 0,.slice none 0 0] from Blk.new _ _ _);have HB0:=h_ (Bar.of (gc:=gm) hb0);have HV0:=h_ (hv.keep hb0);have HY0:=h_ hY0;have HVW:=h_ hv;have HBH:=h_ HB;have HNH:=h_ HN;have HTH:=h_ THEAD;have HGL:=h_ hglob;have HW4:=h_ hw4;clear h hv HB HN THEAD hglob hY0 hw4;obtain ⟨W0,e0⟩:∃ z,z=w.alloc (.cells #[.int .i64 0,.string ⟨#[]⟩,.int .i64 0,.int .i64 0,.bool false,.int .i64 0,.string ⟨#[]⟩,.slice none 0 0,.slice none 0 0,.string ⟨#[]⟩,.slice none 0 0,.slice none 0 0,.string ⟨#[]⟩,.string ⟨#[]⟩,.slice none 0 0,.slice none 0 0] 64):=⟨_,rfl⟩;obtain ⟨n6,e6⟩:∃ z,z=w.heap.size:=⟨_,rfl⟩;rw [<-e0] at H0 HX0 HB0 HV0;rw [<-e6] at HX0
 have hn6g:n6≠gm:=by omega
 have hwn6:w.heap.size<=n6:=by omega
 have E0:=h_ e0;have E6:=h_ e6;clear e0 e6 hb0;have hwk:IntKind.i64.wrap (d+1)=d+1:=wrap_fit (by omega) (by omega);have km:=H0.out.blk.cell;have fm:=H0.out.blk.frozen;have lm:=H0.out.blk.lt
 go_enter Tryz.func57,Tryz.ntmps57
 refine wp_seq_cut (fun K0 hK0=>?_)
 go_wp2_with fail
 refine hK0.out _ _ ?_
 rw [<-E0.out,<-E6.out];clear E0 hK0 K0;have HM1:=h_ (show MkAt (W0.setCell ⟨gm,2,none⟩ (.int .i64 (d+1))) gm A c toks ⟨rest,d+1,b⟩ from ⟨H0.out.blk.set_ 2 (.int .i64 (d+1)),H0.out.rest,H0.out.toks.barM (Bar.set gm 2 _)⟩);have HB1:=h_ (HB0.out.trans (Bar.set gm 2 (.int .i64 (d+1))));have HX1:=h_ (HX0.out.far (p:=⟨gm,2,none⟩) hn6g (.int .i64 (d+1)));have HV1:=h_ (HV0.out.bar (Bar.set gm 2 (.int .i64 (d+1))) hgl);go_upto_region 2 with fail;obtain ⟨W1,e1⟩:∃ z,z=W0.setCell ⟨gm,2,none⟩ (.int .i64 (d+1)):=⟨_,rfl⟩;rw [<-e1] at HM1 HB1 HX1 HV1;rw [<-e1];clear e1 km fm lm H0 HB0 HX0 HV0;have km:=HM1.out.blk.cell;have fm:=HM1.out.blk.frozen;have lm:=HM1.out.blk.lt;have gd:decide (d+1>16)=true:=decide_eq_true hdp;have hYY:=HY0.out;rw [if_pos hdp] at hYY;have HYY:=h_ hYY;clear hYY HY0 hwk;go_wp2_with fail
 refine (mfail gm A c toks _ 5 _ HM1.out).mono ?_
 rintro e w2 ⟨rfl,hm2,hbar2⟩;have HM2:=h_ hm2;have HB2:=h_ (HB1.out.trans hbar2);have HX2:=h_ (hbar2.blk HX1.out hn6g);clear hm2 hbar2 km fm lm;have k6:=HX2.out.cell;have f6:=HX2.out.frozen;have l6:=HX2.out.lt;go_wp2_with fail
 refine ret_cell (p:=6) (g:=n6) rfl rfl (blk_set16 (w:=w2) HX2.out) Tryz.underlying64 (by kernel_rfl) rfl ?_
 rw [HYY.out]
 exact ⟨_,rfl,repN_leaf (k:=0) (x:=Ex.zero) (la:=none) (lc:=0) (ma:=none) (mc:=0) (sa:=none) (sc:=0) (aa:=none) (ac:=0) (by unfold i64ok;omega) empty_small repX_zero empty_small empty_small,HM2.out.bar (bar_set16 _ _ _ _ _ _ _ _ _ _ _ _ _ _ _ _ _ _) (by omega),HB2.out.join (bar_set16 _ _ _ _ _ _ _ _ _ _ _ _ _ _ _ _ _ _) hwn6⟩
theorem bl_case0 (gm:Nat) (A:OA_) (c:Nat) (toks:List Tok) (m0:Mk) (wd s:ByteArray) (w:World) (hw4:wd.data.toList=ifW\/wd.data.toList=withW\/wd.data.toList=rangeW\/wd.data.toList=defineW) (h:MkAt w gm A c toks m0) (hv:ScalV w) (hs1:0<=m0.deep) (hs0:m0.deep+m0.rest.length < 1000000) (hgl:Glob gm) (hfit:Fit toks) (THEAD:∀ (m:Mk) (W:World),MkAt W gm A c toks m->ScalV W->Calls Tryz.prog 80 #[.pointer (some ⟨gm,0,none⟩),.string wd,.string s] W (NdPost gm A c toks (headF wd.data.toList s.data.toList m).1 (headF wd.data.toList s.data.toList m).2 W)) {n:Nat} (hf:2*m0.rest.length+2<=n+1) (HN:NoOk gm A c toks n) (HB:BlOk gm A c toks n) (hdp:¬ 16 < m0.deep+1) (hK:BCase 0 (nodesF n [] (headF wd.data.toList s.data.toList ⟨m0.rest,m0.deep+1,m0.bad⟩).2).1.stop wd.data.toList (skipB (nodesF n [] (headF wd.data.toList s.data.toList ⟨m0.rest,m0.deep+1,m0.bad⟩).2).1.rest)):Calls Tryz.prog 57 #[.pointer (some ⟨gm,0,none⟩),.string wd,.string s] w (NdPost gm A c toks (blockF (n+1) wd.data.toList s.data.toList m0).1 (blockF (n+1) wd.data.toList s.data.toList m0).2 w):=by
 obtain ⟨Y0,hY0⟩:∃ z,z=blockF (n+1) wd.data.toList s.data.toList m0:=⟨_,rfl⟩;rw [<-hY0];obtain ⟨rest,d,b⟩:=m0;rw [blockF] at hY0
 simp only at hY0 hf hK
 simp only at hs0 hs1
 have HDP:=h_ (show ¬ 16 < d+1 from hdp);clear hdp;have hgm:=h.blk.lt
 have hglob:∀ g,w.heap.size<=g->Glob g:=fun g hg=>hv.glob hg
 have hb0:Below w.heap.size w (w.alloc (.cells #[.int .i64 0,.string ⟨#[]⟩,.int .i64 0,.int .i64 0,.bool false,.int .i64 0,.string ⟨#[]⟩,.slice none 0 0,.slice none 0 0,.string ⟨#[]⟩,.slice none 0 0,.slice none 0 0,.string ⟨#[]⟩,.string ⟨#[]⟩,.slice none 0 0,.slice none 0 0] 64)):=Below.new _ _;have H0:=h_ (h.keep hb0);have HX0:=h_ (show Blk (w.alloc (.cells #[.int .i64 0,.string ⟨#[]⟩,.int .i64 0,.int .i64 0,.bool false,.int .i64 0,.string ⟨#[]⟩,.slice none 0 0,.slice none 0 0,.string ⟨#[]⟩,.slice none 0 0,.slice none 0 0,.string ⟨#[]⟩,.string ⟨#[]⟩,.slice none 0 0,.slice none 0 0] 64)) w.heap.size 64 #[.int .i64 0,.string ⟨#[]⟩,.int .i64 0,.int .i64 0,.bool false,.int .i64 0,.string ⟨#[]⟩,.slice none 0 0,.slice none 0 0,.string ⟨#[]⟩,.slice none 0 0,.slice none 0 0,.string ⟨#[]⟩,.string ⟨#[]⟩,.slice none 0 0,.slice none 0 0] from Blk.new _ _ _);have HB0:=h_ (Bar.of (gc:=gm) hb0);have HV0:=h_ (hv.keep hb0);have HY0:=h_ hY0;have HVW:=h_ hv;have HBH:=h_ HB;have HNH:=h_ HN;have HTH:=h_ THEAD;have HGL:=h_ hglob;have HW4:=h_ hw4;clear h hv HB HN THEAD hglob hY0 hw4;obtain ⟨W0,e0⟩:∃ z,z=w.alloc (.cells #[.int .i64 0,.string ⟨#[]⟩,.int .i64 0,.int .i64 0,.bool false,.int .i64 0,.string ⟨#[]⟩,.slice none 0 0,.slice none 0 0,.string ⟨#[]⟩,.slice none 0 0,.slice none 0 0,.string ⟨#[]⟩,.string ⟨#[]⟩,.slice none 0 0,.slice none 0 0] 64):=⟨_,rfl⟩;obtain ⟨n6,e6⟩:∃ z,z=w.heap.size:=⟨_,rfl⟩;rw [<-e0] at H0 HX0 HB0 HV0;rw [<-e6] at HX0
 have hn6g:n6≠gm:=by omega
 have hwn6:w.heap.size<=n6:=by omega
 have E0:=h_ e0;have E6:=h_ e6;clear e0 e6 hb0;have hwk:IntKind.i64.wrap (d+1)=d+1:=wrap_fit (by omega) (by omega);have km:=H0.out.blk.cell;have fm:=H0.out.blk.frozen;have lm:=H0.out.blk.lt
 go_enter Tryz.func57,Tryz.ntmps57
 refine wp_seq_cut (fun K0 hK0=>?_)
 go_wp2_with fail
 refine hK0.out _ _ ?_
 rw [<-E0.out,<-E6.out];clear E0 hK0 K0;have HM1:=h_ (show MkAt (W0.setCell ⟨gm,2,none⟩ (.int .i64 (d+1))) gm A c toks ⟨rest,d+1,b⟩ from ⟨H0.out.blk.set_ 2 (.int .i64 (d+1)),H0.out.rest,H0.out.toks.barM (Bar.set gm 2 _)⟩);have HB1:=h_ (HB0.out.trans (Bar.set gm 2 (.int .i64 (d+1))));have HX1:=h_ (HX0.out.far (p:=⟨gm,2,none⟩) hn6g (.int .i64 (d+1)));have HV1:=h_ (HV0.out.bar (Bar.set gm 2 (.int .i64 (d+1))) hgl);go_upto_region 2 with fail;obtain ⟨W1,e1⟩:∃ z,z=W0.setCell ⟨gm,2,none⟩ (.int .i64 (d+1)):=⟨_,rfl⟩;rw [<-e1] at HM1 HB1 HX1 HV1;rw [<-e1];clear e1 km fm lm H0 HB0 HX0 HV0;have km:=HM1.out.blk.cell;have fm:=HM1.out.blk.frozen;have lm:=HM1.out.blk.lt
 have hdp:¬ 16 < d+1:=by have:=HDP.out;omega
 clear HDP;have hYY:=HY0.out;rw [if_neg hdp] at hYY
 have hdp2:d+1<=16:=by omega
 have gd:decide (d+1>16)=false:=decide_eq_false hdp;have CH:=HTH.out _ _ HM1.out HV1.out;have hle1:=headF_le wd.data.toList s.data.toList ⟨rest,d+1,b⟩;obtain ⟨⟨nd1,m1⟩,hH1⟩:∃ z,z=headF wd.data.toList s.data.toList ⟨rest,d+1,b⟩:=⟨_,rfl⟩;rw [<-hH1] at CH hYY hle1 hK
 simp only at CH hYY hle1 hK
 have HK:=h_ hK;clear hK;have l1:=hle1.len;have l2:=hle1.low;have l3:=hle1.sum
 simp only at l1 l2 l3
 have CHH:=h_ CH;have HYY:=h_ hYY;clear CH hYY hH1 hle1 HY0 hwk HTH;go_wp2_with fail
 refine CHH.out.mono ?_
 rintro e w2 ⟨cs,rfl,hx2,hm2,hbar2⟩;obtain ⟨la,lc,ma,mc,sa,sc,aa,ac,ba,bc,ea,ec,rfl,hp2⟩:=hx2.inv;have hb7:=Below.new w2 (.cells (aN nd1 la lc ma mc sa sc aa ac ba bc ea ec) 64);have hl6:=HX1.out.lt;have hbs:=hbar2.size;have hws:=HB1.out.size;have HST:=h_ (show BkSt w (w2.alloc (.cells (aN nd1 la lc ma mc sa sc aa ac ba bc ea ec) 64)) gm A c toks n6 w2.heap.size m1 la lc ma mc sa sc aa ac ba bc ea ec nd1 from ⟨hm2.keep hb7,(HB1.out.trans hbar2).trans (Bar.of hb7),(HV1.out.bar hbar2 hgl).keep hb7,(hbar2.blk HX1.out hn6g).keep hb7,Blk.new _ _ _,hp2.mono (fun b hb hlt=>⟨by omega,by omega,by omega⟩) (fun b o hb hlt=>hb7.cell hlt)⟩)
 have hn7:n6 < w2.heap.size:=by omega
 clear hx2 hm2 hp2 hbar2 hb7 km fm lm;unfold aN at *;go_upto_region 6 with fail;obtain ⟨W3,e3⟩:∃ z,z=w2.alloc (.cells #[.int .i64 nd1.kind,.string nd1.text,.int .i64 nd1.x.kind,.int .i64 nd1.x.val.kind,.bool nd1.x.val.bool,.int .i64 nd1.x.val.int,.string nd1.x.val.str,.slice la nd1.x.val.list.length lc,.slice ma nd1.x.val.map.length mc,.string nd1.x.name,.slice sa nd1.x.steps.length sc,.slice aa nd1.x.args.length ac,.string nd1.key,.string nd1.name,.slice ba nd1.body.length bc,.slice ea nd1.els.length ec] 64):=⟨_,rfl⟩;obtain ⟨n7,e7⟩:∃ z,z=w2.heap.size:=⟨_,rfl⟩;rw [<-e3,<-e7] at HST;rw [<-e7] at hn7;rw [<-e3,<-e7]
 have hn7g:n7≠gm:=by omega
 have hwn7:w.heap.size<=n7:=by omega
 have HG7:=h_ (HGL.out n7 hwn7);clear e3 e7 hbs hws hl6;have CN:=HNH.out n (Nat.le_refl _) m1 W3 (by omega) ⟨by omega,by omega⟩ HST.out.mkr HST.out.sv;have HRS1:=h_ (show (nodesF n [] m1).1.rest.length<=65536 from ((nodes_suf n).1 [] m1).2 65536 (fun t ht=>hfit t (by have h9:=HST.out.mkr.rest;rw [h9] at ht;exact List.mem_of_mem_drop ht)));have hle2:=((nodes_le n).1 [] m1).1;have hst2:=((nodes_le n).1 [] m1).2;have hlt2:=nodes_lt n [] m1;have hct2:=nodes_cnt n [] m1;obtain ⟨⟨⟨out1,st1,rs1⟩,m2⟩,hN1⟩:∃ z,z=nodesF n [] m1:=⟨_,rfl⟩;have hYY:=HYY.out;have hK:=HK.out;clear HK;rw [<-hN1] at CN hYY hle2 hst2 hlt2 hct2 HRS1 hK
 simp only at CN hYY hle2 hst2 hlt2 hct2 hK
 have HK:=h_ hK;clear hK;rw [List.length_nil] at hct2;have l4:=hle2.len;have l5:=hle2.low;have l6:=hle2.sum;have HST2:=h_ hst2;have HLT2:=h_ hlt2;have CNN:=h_ CN;clear CN hN1 hle2 HYY hst2 hlt2;have HYY:=h_ hYY;clear hYY;go_wp2_with fail
 refine CNN.out.mono ?_
 rintro e w4 ⟨a1,k1,rfl,ho1,hm4,hbar4⟩
 have h67:n6≠n7:=by omega
 have hl7:=HST.out.b7.lt;have hST4:=HST.out.step hbar4 hm4 hgl hgm hn6g hn7g;have HST4:=h_ hST4;have HST5:=h_ (hST4.setB (rep_behind ho1 (by omega) (by omega) (by omega)) (own_roomN ho1 (show out1.length<=1000000 by omega)) hgm h67 hwn7 HG7.out);have k7:=hST4.b7.cell;have f7:=hST4.b7.frozen;have l7:=hST4.b7.lt;clear ho1 hm4 hbar4 hST4;go_upto_region 8 with fail;obtain ⟨W5,e5⟩:∃ z,z=w4.setCell ⟨n7,14,none⟩ (.slice a1 out1.length k1):=⟨_,rfl⟩;rw [<-e5] at HST5;rw [<-e5];clear e5 k7 f7 l7 HST4;have hrl:rs1.length<=65536:=HRS1.out;have CT:=h_ (fun (W:World)=>show Calls Tryz.prog 50 #[.string (bs rs1),.string ⟨#[32,9,10]⟩] W (fun e w'=>e=.returned (.string (bs (skipB rs1)))/\Below W.heap.size W w') from ttrimL (bs rs1) W);have hsk:=skip_len rs1;obtain ⟨tr,htr⟩:∃ z,z=skipB rs1:=⟨_,rfl⟩;have hYY:=HYY.out;have hK:=HK.out;clear HK;rw [<-htr] at CT hsk hYY hK;have CW:=h_ (fun (W:World)=>tword (bs tr) W (by rw [bs_size];omega))
 simp only at CW
 have hmo:(nameT tr).data.toList=wordL tr:=rfl;obtain ⟨mo,hmo2⟩:∃ z,z=nameT tr:=⟨_,rfl⟩;obtain ⟨tl,htl⟩:∃ z,z=nameD tr:=⟨_,rfl⟩
 have htl2:tl.length<=tr.length:=by rw [htl];exact nameD_le tr
 rw [<-hmo2,<-htl] at CW;rw [<-hmo2] at hmo;have HMO:=h_ hmo;have HK:=h_ hK;clear hK;rw [<-hmo,<-htl] at hYY;have HYY:=h_ hYY;have HTR:=h_ htr;clear hYY hmo hmo2 htl htr;go_wp2_with fail
 refine (CT.out _).mono ?_
 rintro e w5 ⟨rfl,hb5⟩;have HST6:=h_ (HST5.out.below hb5 hgl hgm hn6g hn7g);clear hb5 HST5;go_wp2_with fail
 refine (CW.out _).mono ?_
 rintro e w6 ⟨rfl,hb6⟩;have HST:=h_ (HST6.out.below hb6 hgl hgm hn6g hn7g);clear hb6 HST6;go_upto_region 9 with fail;have hl4:=HST.out.mkr.le;obtain ⟨sv,hsv⟩:∃ z,z=bs st1:=⟨_,rfl⟩;rw [<-hsv];obtain ⟨rv,hrv⟩:∃ z,z=bs rs1:=⟨_,rfl⟩;rw [<-hrv] at CT ⊢;obtain ⟨tv,htv⟩:∃ z,z=bs tr:=⟨_,rfl⟩;rw [<-htv] at CT ⊢
 have hsl:∀ l:LB_,(sv.toList==l)=decide (st1=l):=fun l=>by rw [word_eq,hsv]
 have htl3:tv.toList.isEmpty=decide (tr=[]):=by rw [empty_eq,htv]
 have HSL:=h_ hsl;have HTL:=h_ htl3;have HRV:=h_ hrv;have HTV:=h_ htv;clear hsv hrv htv hsl htl3
 have hdd:0<=m2.deep/\m2.deep<=2000000:=by omega
 obtain ⟨c1,c2,c3⟩:st1=elseW/\wd.data.toList=ifW/\wordL tr=ifW:=HK.out;rw [<-HMO.out] at c3;clear HK HMO
 have g1:(sv.toList==[101,108,115,101])=true:=by rw [HSL.out];exact decide_eq_true c1
 have g2:(wd.toList==[105,102])=true:=by rw [word_eq];exact decide_eq_true c2
 have g3:(mo.toList==[105,102])=true:=by rw [word_eq];exact decide_eq_true c3
 have hYY:=HYY.out;rw [if_pos ⟨c1,c2,c3⟩] at hYY;have HC1:=h_ c1;clear c1 c2 c3;have hlt3:=HLT2.out (by rw [HC1.out];decide);have hst3:=HST2.out (by rw [HC1.out];decide);have CB:Calls Tryz.prog 57 #[.pointer (some ⟨gm,0,none⟩),.string ⟨#[105,102]⟩,.string (bs tl)] w6 (NdPost gm A c toks (blockF n ifW tl m2).1 (blockF n ifW tl m2).2 w6):=HBH.out n (Nat.le_refl _) ⟨#[105,102]⟩ (bs tl) m2 w6 (.inl rfl) (by rw [bs_size];omega) (by omega) (by omega) (by omega) HST.out.mkr HST.out.sv;have hle5:=(nodes_le n).2 ifW tl m2;obtain ⟨⟨nd3,m3⟩,hB⟩:∃ z,z=blockF n ifW tl m2:=⟨_,rfl⟩;rw [<-hB] at CB hYY hle5
 simp only at CB hYY hle5
 have l8:=hle5.low;have l9:=hle5.sum;have l10:=hle5.len;have CBH:=h_ CB;have HYY3:=h_ hYY;clear CB hB hYY hle5 HYY;go_wp2_with fail
 refine CBH.out.mono ?_
 rintro e w7 ⟨cs,rfl,hx7,hm7,hbar7⟩;obtain ⟨la2,lc2,ma2,mc2,sa2,sc2,aa2,ac2,ba2,bc2,ea2,ec2,rfl, -⟩:=hx7.inv;have hl7:=HST.out.b7.lt;have hs7:=hbar7.size;have hST7:=HST.out.step hbar7 hm7 hgl hgm hn6g hn7g;have hb8:=Below.new w7 (.cells (aN nd3 la2 lc2 ma2 mc2 sa2 sc2 aa2 ac2 ba2 bc2 ea2 ec2) 64);have hST8:=hST7.below hb8 hgl hgm hn6g hn7g
 have hrow:RepNs (w7.alloc (.cells (aN nd3 la2 lc2 ma2 mc2 sa2 sc2 aa2 ac2 ba2 bc2 ea2 ec2) 64)) (fun b=>w.heap.size<=b/\b≠n6/\b≠n7) (some ⟨w7.heap.size,0,none⟩) [nd3]:=fun i hi=>by
  obtain rfl:i=0:=by simpa using hi
  exact ⟨w7.heap.size,0,[.int .i64 nd3.kind,.string nd3.text,.int .i64 nd3.x.kind,.int .i64 nd3.x.val.kind,.bool nd3.x.val.bool,.int .i64 nd3.x.val.int,.string nd3.x.val.str,.slice la2 nd3.x.val.list.length lc2,.slice ma2 nd3.x.val.map.length mc2,.string nd3.x.name,.slice sa2 nd3.x.steps.length sc2,.slice aa2 nd3.x.args.length ac2,.string nd3.key,.string nd3.name,.slice ba2 nd3.body.length bc2,.slice ea2 nd3.els.length ec2],rfl,⟨by omega,by omega,by omega⟩,fun j v hj=>by rw [Nat.zero_mul,Nat.add_zero,Nat.zero_add,(Blk.new w7 64 (aN nd3 la2 lc2 ma2 mc2 sa2 sc2 aa2 ac2 ba2 bc2 ea2 ec2)).cell];simpa [aN] using hj,(hx7.keep hb8).weak (fun b hb _=>⟨by omega,by omega,by omega⟩)⟩
 have hST9:=hST8.setE hrow (show Room 1 1 264 from ⟨Nat.le_refl 1,(by unfold maxLen;decide),by decide⟩) hgm h67 hwn7 HG7.out;have k7:=hST8.b7.cell;have f7:=hST8.b7.frozen;have l7:=hST8.b7.lt;have HSTX:=h_ hST9;clear hx7 hm7 hbar7 hST7 hST8 hST9 hrow hb8;unfold aN at *;go_upto_region 11 with fail;obtain ⟨WX,eX⟩:∃ z,z=(w7.alloc (.cells #[.int .i64 nd3.kind,.string nd3.text,.int .i64 nd3.x.kind,.int .i64 nd3.x.val.kind,.bool nd3.x.val.bool,.int .i64 nd3.x.val.int,.string nd3.x.val.str,.slice la2 nd3.x.val.list.length lc2,.slice ma2 nd3.x.val.map.length mc2,.string nd3.x.name,.slice sa2 nd3.x.steps.length sc2,.slice aa2 nd3.x.args.length ac2,.string nd3.key,.string nd3.name,.slice ba2 nd3.body.length bc2,.slice ea2 nd3.els.length ec2] 64)).setCell ⟨n7,15,none⟩ (.slice (some ⟨w7.heap.size,0,none⟩) 1 1):=⟨_,rfl⟩;have hST9:=HSTX.out;rw [show ([nd3]:List Nd).length=1 from rfl,<-eX] at hST9;rw [<-eX];clear HSTX eX k7 f7 l7;have HSTX:=h_ hST9;clear hST9
 have hmY:0<=m3.deep/\m3.deep<=2000000:=by omega
 obtain ⟨mY,emY⟩:∃ z,z=m3:=⟨_,rfl⟩;rw [<-emY] at HSTX hmY;have HZ:=h_ (show Y0=((nd1.setBody out1).setEls [nd3],mY.up) from by rw [emY];exact HYY3.out);clear HYY3 emY;have hwk:IntKind.i64.wrap (mY.deep - 1)=mY.deep - 1:=wrap_fit (by omega) (by omega);have HSTY:=h_ (HSTX.out.deep (mY.deep - 1) hgl hgm hn6g hn7g);have km:=HSTX.out.mkr.blk.cell;have fm:=HSTX.out.mkr.blk.frozen;have lm:=HSTX.out.mkr.blk.lt;go_upto_region 12 with fail;obtain ⟨WY,eY⟩:∃ z,z=World.setCell WX ⟨gm,2,none⟩ (.int .i64 (mY.deep - 1)):=⟨_,rfl⟩;rw [<-eY] at HSTY;rw [<-eY];clear eY km fm lm HSTX hwk;have k7:=HSTY.out.b7.cell;have f7:=HSTY.out.b7.frozen;have l7:=HSTY.out.b7.lt;have k6:=HSTY.out.b6.cell;have f6:=HSTY.out.b6.frozen;have l6:=HSTY.out.b6.lt;go_wp2_with fail
 refine ret_cell (p:=6) (g:=n6) rfl rfl (blk_set16 (w:=WY) HSTY.out.b6) Tryz.underlying64 (by kernel_rfl) rfl ?_
 rw [HZ.out]
 exact BkSt.post hgm hwn6 HSTY.out (bar_set16 _ _ _ _ _ _ _ _ _ _ _ _ _ _ _ _ _ _)
end Go.Proofs.YtnblmhfgmehnnaaGreatDoor
