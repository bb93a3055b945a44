/- Several texts as one. -/
import Derived.Test.YtnblmhfgmehnnaaGreatDoorPeMv
import Derived.Test.YtnblmhfgmehnnaaGreatDoorPeAJ
set_option maxRecDepth 100000
set_option maxHeartbeats 8000000
namespace Go.Proofs.YtnblmhfgmehnnaaGreatDoor
open Go.RowKit Go.Lib
attribute [local go_sem ↓] Go.wp_at_zero Go.wp_at_succ
theorem range_b1 (gm:Nat) (A:OA_) (c:Nat) (toks:List Tok) (m:Mk) (s:ByteArray) (w:World) (h:MkAt w gm A c toks m) (hs:s.size<=1000000) (hv:ScalV w) (hno:¬ ((varL s.data.toList).2.2=true/\∃ l,(varL s.data.toList).2.1=44::l)) (hz:(setL s.data.toList).2.2=true):Calls Tryz.prog 80 #[.pointer (some ⟨gm,0,none⟩),.string ⟨#[114,97,110,103,101]⟩,.string s] w (NdPost gm A c toks (.mk 4 ⟨#[]⟩ (mpipe m (setL s.data.toList).2.1).1 ⟨#[]⟩ (setL s.data.toList).1 [] []) (mpipe m (setL s.data.toList).2.1).2 w):=by
 have hglob:∀ g,w.heap.size<=g->Glob g:=fun g hg=>hv.glob hg
 have hvl:=varL_len s.data.toList;rw [<-size_list] at hvl;have CV:=h_ (fun (W:World)=>tvariable s W hs);obtain ⟨v1,hv1⟩:∃ z,z=(varL s.data.toList).1:=⟨_,rfl⟩;obtain ⟨v2,hv2⟩:∃ z,z=bs (varL s.data.toList).2.1:=⟨_,rfl⟩
 have hv2l:v2.data.toList=(varL s.data.toList).2.1:=by rw [hv2]
 have CS:=h_ (fun (W:World)=>tset s W hs);have hsl:=setL_len s.data.toList;rw [<-size_list] at hsl;obtain ⟨z1,hz1e⟩:∃ z,z=(setL s.data.toList).1:=⟨_,rfl⟩;obtain ⟨z2,hz2e⟩:∃ z,z=bs (setL s.data.toList).2.1:=⟨_,rfl⟩;rw [hz] at CS;rw [<-hv1,<-hv2] at CV;rw [<-hz1e,<-hz2e] at CS
 have hz2s:z2.size<=1000000:=by rw [hz2e,bs_size];omega
 have hz1s:z1.size<=140737488351232:=by rw [hz1e];omega
 have hv1s:v1.size<=140737488351232:=by rw [hv1];omega
 have hzl:(setL s.data.toList).2.1=z2.data.toList:=by rw [hz2e]
 rw [hzl]
 try rw [<-hz1e]
 try rw [<-hv1]
 clear hzl;have CP:=h_ (fun (W:World) (hW:MkAt W gm A c toks m) (hvW:ScalV W)=>tmpipe gm A c toks m z2 W hW hz2s hvW);obtain ⟨x,hx⟩:∃ z,z=(mpipe m z2.data.toList).1:=⟨_,rfl⟩;obtain ⟨m2,hm2⟩:∃ z,z=(mpipe m z2.data.toList).2:=⟨_,rfl⟩;rw [<-hx,<-hm2] at CP ⊢;have HZS:=h_ (And.intro hz1s hv1s);clear hx hm2 hz1e hz2e hv1 hvl hsl hz2s hz1s hv1s hz
 have hcase:(varL s.data.toList).2.2=false\/((varL s.data.toList).2.2=true/\Lib.hasPrefix v2.data.toList [44]=false):=by
  cases h9:(varL s.data.toList).2.2 with
  | false=>exact .inl rfl
  | true=>
   refine .inr ⟨rfl,?_⟩
   rw [hv2l,prefix_one]
   cases h8:(varL s.data.toList).2.1 with
   | nil=>rfl
   | cons a q=>exact decide_eq_false (fun e=>hno ⟨h9,q,by rw [h8,e]⟩)
 obtain ⟨v3,hv3⟩:∃ z,z=(varL s.data.toList).2.2:=⟨_,rfl⟩;rw [<-hv3] at CV hcase;clear hv3 hv2 hv2l hno;have hgm:=h.blk.lt;have hb0:Below w.heap.size w (w.alloc (.cells #[.int .i64 0,.string ⟨#[]⟩,.int .i64 0,.int .i64 0,.bool false,.int .i64 0,.string ⟨#[]⟩,.slice none 0 0,.slice none 0 0,.string ⟨#[]⟩,.slice none 0 0,.slice none 0 0,.string ⟨#[]⟩,.string ⟨#[]⟩,.slice none 0 0,.slice none 0 0] 64)):=Below.new _ _;have H0:=h_ (h.keep hb0);have HX0:=h_ (show Blk (w.alloc (.cells #[.int .i64 0,.string ⟨#[]⟩,.int .i64 0,.int .i64 0,.bool false,.int .i64 0,.string ⟨#[]⟩,.slice none 0 0,.slice none 0 0,.string ⟨#[]⟩,.slice none 0 0,.slice none 0 0,.string ⟨#[]⟩,.string ⟨#[]⟩,.slice none 0 0,.slice none 0 0] 64)) w.heap.size 64 #[.int .i64 0,.string ⟨#[]⟩,.int .i64 0,.int .i64 0,.bool false,.int .i64 0,.string ⟨#[]⟩,.slice none 0 0,.slice none 0 0,.string ⟨#[]⟩,.slice none 0 0,.slice none 0 0,.string ⟨#[]⟩,.string ⟨#[]⟩,.slice none 0 0,.slice none 0 0] from Blk.new _ _ _);have HB0:=h_ (Bar.of (gc:=gm) hb0);have HV0:=h_ (hv.keep hb0);clear h;obtain ⟨W0,e0⟩:∃ z,z=w.alloc (.cells #[.int .i64 0,.string ⟨#[]⟩,.int .i64 0,.int .i64 0,.bool false,.int .i64 0,.string ⟨#[]⟩,.slice none 0 0,.slice none 0 0,.string ⟨#[]⟩,.slice none 0 0,.slice none 0 0,.string ⟨#[]⟩,.string ⟨#[]⟩,.slice none 0 0,.slice none 0 0] 64):=⟨_,rfl⟩;obtain ⟨n6,e6⟩:∃ z,z=w.heap.size:=⟨_,rfl⟩;rw [<-e0] at H0 HX0 HB0 HV0;rw [<-e6] at HX0
 have hn6g:gm < n6:=by omega
 have E0:=h_ e0;have E6:=h_ e6;clear e0 e6 hb0
 go_enter Tryz.func80,Tryz.ntmps80
 refine wp_seq_cut (fun K0 hK0=>?_)
 go_wp2_with fail
 refine hK0.out _ _ ?_
 rw [<-E0.out,<-E6.out];clear E0 hK0 K0;have hbb:Below W0.heap.size W0 (W0.alloc (.cells #[.int .i64 4,.string ⟨#[]⟩,.int .i64 0,.int .i64 0,.bool false,.int .i64 0,.string ⟨#[]⟩,.slice none 0 0,.slice none 0 0,.string ⟨#[]⟩,.slice none 0 0,.slice none 0 0,.string ⟨#[]⟩,.string ⟨#[]⟩,.slice none 0 0,.slice none 0 0] 64)):=Below.new _ _;have HM1:=h_ (H0.out.keep hbb);have HX1:=h_ (HX0.out.keep hbb);have HB1:=h_ (HB0.out.trans (Bar.of hbb));have HV1:=h_ (HV0.out.keep hbb);have HY1:=h_ (show Blk (W0.alloc (.cells #[.int .i64 4,.string ⟨#[]⟩,.int .i64 0,.int .i64 0,.bool false,.int .i64 0,.string ⟨#[]⟩,.slice none 0 0,.slice none 0 0,.string ⟨#[]⟩,.slice none 0 0,.slice none 0 0,.string ⟨#[]⟩,.string ⟨#[]⟩,.slice none 0 0,.slice none 0 0] 64)) W0.heap.size 64 #[.int .i64 4,.string ⟨#[]⟩,.int .i64 0,.int .i64 0,.bool false,.int .i64 0,.string ⟨#[]⟩,.slice none 0 0,.slice none 0 0,.string ⟨#[]⟩,.slice none 0 0,.slice none 0 0,.string ⟨#[]⟩,.string ⟨#[]⟩,.slice none 0 0,.slice none 0 0] from Blk.new _ _ _);have hl96:n6 < W0.heap.size:=HX0.out.lt;clear hbb;go_upto_region 12 with fail;obtain ⟨WB,eB⟩:∃ z,z=W0.alloc (.cells #[.int .i64 4,.string ⟨#[]⟩,.int .i64 0,.int .i64 0,.bool false,.int .i64 0,.string ⟨#[]⟩,.slice none 0 0,.slice none 0 0,.string ⟨#[]⟩,.slice none 0 0,.slice none 0 0,.string ⟨#[]⟩,.string ⟨#[]⟩,.slice none 0 0,.slice none 0 0] 64):=⟨_,rfl⟩;obtain ⟨n9,e9⟩:∃ z,z=W0.heap.size:=⟨_,rfl⟩;rw [<-eB] at HM1 HX1 HB1 HV1 HY1;rw [<-e9] at HY1 hl96;rw [<-eB,<-e9]
 have hn9w:w.heap.size<=n9:=by have:=HB0.out.size;omega
 clear eB e9;go_wp2_with fail
 refine (CV.out _).mono ?_
 rintro e w2 ⟨rfl,hb2⟩;have HM2:=h_ (HM1.out.keep hb2);have HX2:=h_ (HX1.out.keep hb2);have HB2:=h_ (HB1.out.trans (Bar.of hb2));have HV2:=h_ (HV1.out.keep hb2);have HY2:=h_ (HY1.out.keep hb2);clear hb2
 rcases hcase with rfl | ⟨rfl,hp⟩
 ·go_wp2_with fail
  refine (CS.out _).mono ?_
  rintro e w3 ⟨rfl,hb3⟩;have HM3:=h_ (HM2.out.keep hb3);have HX3:=h_ (HX2.out.keep hb3);have HB3:=h_ (HB2.out.trans (Bar.of hb3));have HV3:=h_ (HV2.out.keep hb3);have HY3:=h_ (HY2.out.keep hb3);clear hb3;have k9:=HY3.out.cell;have f9:=HY3.out.frozen;have l9:=HY3.out.lt;have hbS:Bar w3 (w3.setCell ⟨n9,13,none⟩ (.string z1)) n9:=(Bar.refl w3 n9).trans (Bar.set n9 13 (.string z1));have hS0:Blk (w3.setCell ⟨n9,13,none⟩ (.string z1)) n9 64 #[.int .i64 4,.string ⟨#[]⟩,.int .i64 0,.int .i64 0,.bool false,.int .i64 0,.string ⟨#[]⟩,.slice none 0 0,.slice none 0 0,.string ⟨#[]⟩,.slice none 0 0,.slice none 0 0,.string ⟨#[]⟩,.string z1,.slice none 0 0,.slice none 0 0]:=HY3.out.set_ 13 (.string z1);have HY4:=h_ (show Blk (w3.setCell ⟨n9,13,none⟩ (.string z1)) n9 64 #[.int .i64 4,.string ⟨#[]⟩,.int .i64 0,.int .i64 0,.bool false,.int .i64 0,.string ⟨#[]⟩,.slice none 0 0,.slice none 0 0,.string ⟨#[]⟩,.slice none 0 0,.slice none 0 0,.string ⟨#[]⟩,.string z1,.slice none 0 0,.slice none 0 0] from hS0);have HM4:=h_ (HM3.out.bar hbS (by omega));have HX4:=h_ (hbS.blk HX3.out (by omega));have HB4:=h_ (HB3.out.join hbS hn9w);have HV4:=h_ (HV3.out.bar hbS (hglob _ hn9w));clear hbS hS0;go_upto_region 20 with fail;obtain ⟨W4,e4⟩:∃ z,z=(w3.setCell ⟨n9,13,none⟩ (.string z1)):=⟨_,rfl⟩;rw [<-e4] at HY4 HM4 HX4 HB4 HV4;rw [<-e4];clear e4 k9 f9 l9;go_wp2_with fail
  refine (CP.out _ HM4.out HV4.out).mono ?_
  rintro e w5 ⟨cs,rfl,hx5,hm5,hbar5⟩;obtain ⟨la,lc,ma,mc,sa,sc,aa,ac,rfl, -⟩:=hx5.1.inv;have HL4:=h_ (And.intro HY4.out.lt HX4.out.lt);have HX5:=h_ (hbar5.blk HX4.out (by omega));have HY5:=h_ (hbar5.blk HY4.out (by omega));have HM5:=h_ hm5;have HB5:=h_ (HB4.out.trans hbar5);have HXX:=h_ hx5.1;clear hx5 hm5 hbar5;have k9:=HY5.out.cell;have f9:=HY5.out.frozen;have l9:=HY5.out.lt;have k6:=HX5.out.cell;have f6:=HX5.out.frozen;have l6:=HX5.out.lt;go_wp2_with fail
  refine ret_cell (p:=6) (g:=n6) rfl rfl (blk_set16 (w:=setX2 w5 n9 (.int .i64 x.kind) (.int .i64 x.val.kind) (.bool x.val.bool) (.int .i64 x.val.int) (.string x.val.str) (.slice la x.val.list.length lc) (.slice ma x.val.map.length mc) (.string x.name) (.slice sa x.steps.length sc) (.slice aa x.args.length ac)) ((bar_setX2 w5 n9 _ _ _ _ _ _ _ _ _ _).blk HX5.out (by omega))) Tryz.underlying64 (by kernel_rfl) rfl ?_
  have hsz1:=HZS.out.1;have hsz2:=HZS.out.2
  refine ⟨_,rfl,(repN_leaf (k:=4) (by unfold i64ok;omega) empty_small HXX.out empty_small hsz1).move (fun b hb _=>by have h1:=HB4.out.size;show w.heap.size<=b;omega) (fun b hb hlt=>(Bar.block (bar_set16 _ _ _ _ _ _ _ _ _ _ _ _ _ _ _ _ _ _) b (Nat.lt_of_lt_of_le hlt (bar_setX2 w5 n9 _ _ _ _ _ _ _ _ _ _).size) (by have h1:=HL4.out.2;omega)).trans (Bar.block (bar_setX2 w5 n9 _ _ _ _ _ _ _ _ _ _) b hlt (by have h1:=HL4.out.1;omega))),(HM5.out.bar (bar_setX2 w5 n9 _ _ _ _ _ _ _ _ _ _) (by omega)).bar (bar_set16 _ _ _ _ _ _ _ _ _ _ _ _ _ _ _ _ _ _) hn6g,Bar.join (Bar.join HB5.out (bar_setX2 w5 n9 _ _ _ _ _ _ _ _ _ _) hn9w) (bar_set16 _ _ _ _ _ _ _ _ _ _ _ _ _ _ _ _ _ _) (by have:=E6.out;omega)⟩
 ·have CX:=h_ (fun (W:World)=>show Calls Tryz.prog 40 #[.string v2,.string ⟨#[44]⟩] W (fun e w'=>e=.returned (.bool false)/\W=w') from by have h9:=tprefix v2 ⟨#[44]⟩ W;rw [show (⟨#[44]⟩:ByteArray).data.toList=[44] from rfl,hp] at h9;exact h9)
  clear hp
  go_wp2_with (go_at_call 40;refine (CX.out _).mono ?_;rintro e w9 ⟨rfl,rfl⟩)
  refine (CS.out _).mono ?_
  rintro e w3 ⟨rfl,hb3⟩;have HM3:=h_ (HM2.out.keep hb3);have HX3:=h_ (HX2.out.keep hb3);have HB3:=h_ (HB2.out.trans (Bar.of hb3));have HV3:=h_ (HV2.out.keep hb3);have HY3:=h_ (HY2.out.keep hb3);clear hb3;have k9:=HY3.out.cell;have f9:=HY3.out.frozen;have l9:=HY3.out.lt;have hbS:Bar w3 (w3.setCell ⟨n9,13,none⟩ (.string z1)) n9:=(Bar.refl w3 n9).trans (Bar.set n9 13 (.string z1));have hS0:Blk (w3.setCell ⟨n9,13,none⟩ (.string z1)) n9 64 #[.int .i64 4,.string ⟨#[]⟩,.int .i64 0,.int .i64 0,.bool false,.int .i64 0,.string ⟨#[]⟩,.slice none 0 0,.slice none 0 0,.string ⟨#[]⟩,.slice none 0 0,.slice none 0 0,.string ⟨#[]⟩,.string z1,.slice none 0 0,.slice none 0 0]:=HY3.out.set_ 13 (.string z1);have HY4:=h_ (show Blk (w3.setCell ⟨n9,13,none⟩ (.string z1)) n9 64 #[.int .i64 4,.string ⟨#[]⟩,.int .i64 0,.int .i64 0,.bool false,.int .i64 0,.string ⟨#[]⟩,.slice none 0 0,.slice none 0 0,.string ⟨#[]⟩,.slice none 0 0,.slice none 0 0,.string ⟨#[]⟩,.string z1,.slice none 0 0,.slice none 0 0] from hS0);have HM4:=h_ (HM3.out.bar hbS (by omega));have HX4:=h_ (hbS.blk HX3.out (by omega));have HB4:=h_ (HB3.out.join hbS hn9w);have HV4:=h_ (HV3.out.bar hbS (hglob _ hn9w));clear hbS hS0;go_upto_region 20 with fail;obtain ⟨W4,e4⟩:∃ z,z=(w3.setCell ⟨n9,13,none⟩ (.string z1)):=⟨_,rfl⟩;rw [<-e4] at HY4 HM4 HX4 HB4 HV4;rw [<-e4];clear e4 k9 f9 l9;go_wp2_with fail
  refine (CP.out _ HM4.out HV4.out).mono ?_
  rintro e w5 ⟨cs,rfl,hx5,hm5,hbar5⟩;obtain ⟨la,lc,ma,mc,sa,sc,aa,ac,rfl, -⟩:=hx5.1.inv;have HL4:=h_ (And.intro HY4.out.lt HX4.out.lt);have HX5:=h_ (hbar5.blk HX4.out (by omega));have HY5:=h_ (hbar5.blk HY4.out (by omega));have HM5:=h_ hm5;have HB5:=h_ (HB4.out.trans hbar5);have HXX:=h_ hx5.1;clear hx5 hm5 hbar5;have k9:=HY5.out.cell;have f9:=HY5.out.frozen;have l9:=HY5.out.lt;have k6:=HX5.out.cell;have f6:=HX5.out.frozen;have l6:=HX5.out.lt;go_wp2_with fail
  refine ret_cell (p:=6) (g:=n6) rfl rfl (blk_set16 (w:=setX2 w5 n9 (.int .i64 x.kind) (.int .i64 x.val.kind) (.bool x.val.bool) (.int .i64 x.val.int) (.string x.val.str) (.slice la x.val.list.length lc) (.slice ma x.val.map.length mc) (.string x.name) (.slice sa x.steps.length sc) (.slice aa x.args.length ac)) ((bar_setX2 w5 n9 _ _ _ _ _ _ _ _ _ _).blk HX5.out (by omega))) Tryz.underlying64 (by kernel_rfl) rfl ?_
  have hsz1:=HZS.out.1;have hsz2:=HZS.out.2
  refine ⟨_,rfl,(repN_leaf (k:=4) (by unfold i64ok;omega) empty_small HXX.out empty_small hsz1).move (fun b hb _=>by have h1:=HB4.out.size;show w.heap.size<=b;omega) (fun b hb hlt=>(Bar.block (bar_set16 _ _ _ _ _ _ _ _ _ _ _ _ _ _ _ _ _ _) b (Nat.lt_of_lt_of_le hlt (bar_setX2 w5 n9 _ _ _ _ _ _ _ _ _ _).size) (by have h1:=HL4.out.2;omega)).trans (Bar.block (bar_setX2 w5 n9 _ _ _ _ _ _ _ _ _ _) b hlt (by have h1:=HL4.out.1;omega))),(HM5.out.bar (bar_setX2 w5 n9 _ _ _ _ _ _ _ _ _ _) (by omega)).bar (bar_set16 _ _ _ _ _ _ _ _ _ _ _ _ _ _ _ _ _ _) hn6g,Bar.join (Bar.join HB5.out (bar_setX2 w5 n9 _ _ _ _ _ _ _ _ _ _) hn9w) (bar_set16 _ _ _ _ _ _ _ _ _ _ _ _ _ _ _ _ _ _) (by have:=E6.out;omega)⟩
end Go.Proofs.YtnblmhfgmehnnaaGreatDoor
