/- Several texts as one. -/
import Derived.Test.YtnblmhfgmehnnaaGreatDoorPeFo
import Derived.Test.YtnblmhfgmehnnaaGreatDoorPeMv
import Derived.Test.YtnblmhfgmehnnaaGreatDoorPeAU
import Derived.Test.YtnblmhfgmehnnaaGreatDoorPeAV
set_option maxRecDepth 100000
set_option maxHeartbeats 16000000
namespace Go.Proofs.YtnblmhfgmehnnaaGreatDoor
open Go.RowKit Go.Lib
attribute [local go_sem ↓] Go.wp_at_zero Go.wp_at_succ
noncomputable def rgnS (n:Nat):Code:=(Tryz.f25.body.bind (rgnOf n)).getD .skip
def SoundI (l:List Nd) (d:Nat) (top:Prop) (W:World) (e:Ending) (w':World):Prop:=∃ r:Bool,e=.returned (.bool r)/\Below W.heap.size W w'/\(r=true->(∀ x ∈ l,SoundN d top x)/\apartN l)
theorem partsX_of {w:World} {S:Nat->Prop} {x:Ex} {la:OA_} {lc:Nat} {ma:OA_} {mc:Nat} {sa:OA_} {sc:Nat} {aa:OA_} {ac:Nat} (h:RepX w S [.int .i64 x.kind,.int .i64 x.val.kind,.bool x.val.bool,.int .i64 x.val.int,.string x.val.str,.slice la x.val.list.length lc,.slice ma x.val.map.length mc,.string x.name,.slice sa x.steps.length sc,.slice aa x.args.length ac] x):PartsX w S la lc ma mc sa sc aa ac x:=by
 obtain ⟨la2,lc2,ma2,mc2,sa2,sc2,aa2,ac2,e,hp⟩:=h.inv
 simp only [List.cons.injEq,Value.slice.injEq,and_true,true_and] at e
 obtain ⟨⟨rfl,rfl⟩,⟨rfl,rfl⟩,⟨rfl,rfl⟩,rfl,rfl⟩:=e
 exact hp
theorem zero_ex {x:Ex} (h0:x.kind=0) (hv:x.val=T.zero) (hn:x.name.toList=[]) (hs:x.steps=[]) (ha:x.args=[]):x=Ex.zero:=by
 have hn2:=emptyB hn;obtain ⟨k,v,nm,st,ar⟩:=x
 simp only [Ex.kind,Ex.val,Ex.name,Ex.steps,Ex.args] at h0 hv hn2 hs ha
 subst h0 hv hn2 hs ha
 rfl
theorem rbare7 {w:World} {S:Nat->Prop} {x:Ex} {la:OA_} {lc:Nat} {ma:OA_} {mc:Nat} {sa:OA_} {sc:Nat} {aa:OA_} {ac:Nat} (hp:PartsX w S la lc ma mc sa sc aa ac x):Calls Tryz.prog 45 #[.agg #[.int .i64 x.kind,.int .i64 x.val.kind,.bool x.val.bool,.int .i64 x.val.int,.string x.val.str,.slice la x.val.list.length lc,.slice ma x.val.map.length mc,.string x.name,.slice sa x.steps.length sc,.slice aa x.args.length ac]] w fun e w'=>∃ r:Bool,e=.returned (.bool r)/\Below w.heap.size w w'/\(r=true->x=Ex.zero):=by
 have h1:=hp.sroom.2.2;have h2:=hp.aroom.2.2;obtain ⟨_,_,_,_,_,_,_,_,h4,h5,_⟩:=hp.val.inv;have H0:=h_ (Blk.new w 45 (aX x la lc ma mc sa sc aa ac));have HB:=h_ (Below.new w (.cells (aX x la lc ma mc sa sc aa ac) 45));obtain ⟨W0,e0⟩:∃ z,z=w.alloc (.cells (aX x la lc ma mc sa sc aa ac) 45):=⟨_,rfl⟩;obtain ⟨n0,en⟩:∃ z,z=w.heap.size:=⟨_,rfl⟩;rw [<-e0] at H0 HB;rw [<-en] at H0;have E0:=h_ e0;have EN:=h_ en;clear e0 en hp;unfold aX at *
 go_enter Tryz.func45,Tryz.ntmps45
 go_upto_region 1 with fail;rw [<-E0.out,<-EN.out];clear E0
 generalize Value.agg #[.int .i64 x.kind,.int .i64 x.val.kind,.bool x.val.bool,.int .i64 x.val.int,.string x.val.str,.slice la x.val.list.length lc,.slice ma x.val.map.length mc,.string x.name,.slice sa x.steps.length sc,.slice aa x.args.length ac]=V0
 have k1:=H0.out.cell;have l1:=H0.out.lt;go_wp2_with fail
 all_goals go_ret
 all_goals first | exact ⟨false,rfl,HB.out,fun h=>by cases h⟩ | skip
 all_goals refine ⟨_,rfl,HB.out,fun h=>?_⟩
 rename_i g0 g1 g2 g3 g4 g5 g6
 exact zero_ex g0 (T.zero_of g1 g4 g5 g6 h) g2 (List.length_eq_zero_iff.1 (by omega)) (List.length_eq_zero_iff.1 (by omega))
section
variable {w wr:World} {S:Nat->Prop} {n8:Nat} {x:Nd} {l:List Nd} {a:OA_} {c:Nat} {di qi:Int} {tp:Bool} {la:OA_} {lc:Nat} {ma:OA_} {mc:Nat} {sa:OA_} {sc:Nat} {aa:OA_} {ac:Nat} {ba:OA_} {bc:Nat} {ea:OA_} {ec:Nat} {K9:Act->World->Prop} {Q:Exit->Act->World->Prop} {u3 u4 u5 u6 u9 q0 qb qn qy qJ qU j4 jf jq jB jM jX z2 z3 z4 z5 z6 z7 z8 z9 za zb zc zd ze zf zg zh zi zj zk zl zm zn zo zp zq zr zs zt zu zv zw zx zy zz zA zB zC zD zE zF zG zH zI zJ zK zL zM zN zO zP zQ zR zS zT zU zV zW zX zY zZ z_ g7 g8 g9 ga gb gc gd ge gf gg gh gi gj gk gl gm gn q1 q2 q3 q4 q5 q6 q7 q8 q9 qa qc qd qe qf qg qh qj qk ql qm qo qp qq qr qs qt qu qv qw qx qz qA qB qC qD qE qF qG qH qI qK qL qM qN qO qP qQ qR qS qT qV qW qX qY qZ q_ j0 j1 j2 j3 j5 j6 j7 j8 j9 ja jb jc jd je jg jh ji jj jk jl jm jn jo jp jr js jt ju jv jw jx jy jz jA jC jD jE jF jG jH jI jJ jK jL jN jO jP jQ jR jS jT jU jV jW jY jZ j_ z0 z1:Value}
theorem sd_5 (hp:PartsN w S la lc ma mc sa sc aa ac ba bc ea ec x) (HB:Hid (Blk wr n8 70 #[.int .i64 x.kind,.string x.text,.int .i64 x.x.kind,.int .i64 x.x.val.kind,.bool x.x.val.bool,.int .i64 x.x.val.int,.string x.x.val.str,.slice la x.x.val.list.length lc,.slice ma x.x.val.map.length mc,.string x.x.name,.slice sa x.x.steps.length sc,.slice aa x.x.args.length ac,.string x.key,.string x.name,.slice ba x.body.length bc,.slice ea x.els.length ec]))
  (hQ:∀ (r:Bool) (kD kO kT kU kV kW kX kY kZ k_ Q0 Q1 Q2 Q3 Q4 Q5 Q6 Q7 Q8 Q9 Qa Qb Qc Qd Qe Qf Qg Qh Qi Qj Qk Ql Qm Qn Qo Qp Qq Qr Qs Qt Qu Qv Qw Qx Qy Qz QA QB QC:Value) (wx:World),Hid (Below wr.heap.size wr wx)->(r=false->((x.kind≠0->x.text=⟨#[]⟩)/\(x.kind≠4->x.key=⟨#[]⟩)/\(x.kind < 2\/x.kind=5->x.body=[])/\(x.kind < 2\/4 < x.kind->x.els=[])))->K9 ⟨#[.slice a l.length c,.int .i64 di,.bool tp,u3,u4,u5,u6,.int .i64 qi,.pointer (some ⟨n8,0,none⟩),u9,q0,qb,qn,qy,qJ,qU,j4,jf,jq,jB,kD,kO,kT,kU,kV,kW,kX,kY,kZ,k_,Q0,Q1,Q2,Q3,Q4,Q5,Q6,Q7,Q8,Q9,Qa,Qb,Qc,Qd,Qe,Qf,Qg,Qh,Qi,Qj,Qk,Ql,Qm,Qn,Qo,Qp,Qq,Qr,Qs,Qt,Qu,Qv,Qw,Qx,Qy,Qz,QA,QB,QC,.bool r,zO,zP,zQ,zR,zS,zT,zU,zV,zW,zX,zY,zZ,z_,g7,g8,g9,ga,gb,gc,gd,ge,gf,gg,gh,gi,gj,gk,gl,gm,gn,q1,q2,q3,q4,q5,q6,q7,q8,q9,qa,qc,qd,qe,qf,qg,qh,qj,qk,ql,qm,qo,qp,qq,qr,qs,qt,qu,qv,qw,qx,qz,qA,qB,qC,qD,qE,qF,qG,qH,qI,qK,qL,qM,qN,qO,qP,qQ,qR,qS,qT,qV,qW,qX,qY,qZ,q_,j0,j1,j2,j3,j5,j6,j7,j8,j9,ja,jb,jc,jd,je,jg,jh,ji,jj,jk,jl,jm,jn,jo,jp,jr,js,jt,ju,jv,jw,jx,jy,jz,jA,jC,jD,jE,jF,jG,jH,jI,jJ,jK,jL,jN,jO,jP,jQ,jR,jS,jT,jU,jV,jW,jY,jZ,j_,z0,z1],[]⟩ wx):
  Code.wp Tryz.prog (rgnS 5) (Exit.then K9 Q) ⟨#[.slice a l.length c,.int .i64 di,.bool tp,u3,u4,u5,u6,.int .i64 qi,.pointer (some ⟨n8,0,none⟩),u9,q0,qb,qn,qy,qJ,qU,j4,jf,jq,jB,jM,jX,z2,z3,z4,z5,z6,z7,z8,z9,za,zb,zc,zd,ze,zf,zg,zh,zi,zj,zk,zl,zm,zn,zo,zp,zq,zr,zs,zt,zu,zv,zw,zx,zy,zz,zA,zB,zC,zD,zE,zF,zG,zH,zI,zJ,zK,zL,zM,zN,zO,zP,zQ,zR,zS,zT,zU,zV,zW,zX,zY,zZ,z_,g7,g8,g9,ga,gb,gc,gd,ge,gf,gg,gh,gi,gj,gk,gl,gm,gn,q1,q2,q3,q4,q5,q6,q7,q8,q9,qa,qc,qd,qe,qf,qg,qh,qj,qk,ql,qm,qo,qp,qq,qr,qs,qt,qu,qv,qw,qx,qz,qA,qB,qC,qD,qE,qF,qG,qH,qI,qK,qL,qM,qN,qO,qP,qQ,qR,qS,qT,qV,qW,qX,qY,qZ,q_,j0,j1,j2,j3,j5,j6,j7,j8,j9,ja,jb,jc,jd,je,jg,jh,ji,jj,jk,jl,jm,jn,jo,jp,jr,js,jt,ju,jv,jw,jx,jy,jz,jA,jC,jD,jE,jF,jG,jH,jI,jJ,jK,jL,jN,jO,jP,jQ,jR,jS,jT,jU,jV,jW,jY,jZ,j_,z0,z1],[]⟩ wr:=by
 have HQ:=h_ hQ;have hb1:=hp.broom.2.2;have hb2:=hp.eroom.2.2;clear hQ hp
 conv=>arg 2;whnf
 have k1:=HB.out.cell;have l1:=HB.out.lt
 have hcls:x.kind=0\/x.kind=1\/x.kind=2\/x.kind=3\/x.kind=4\/x.kind=5\/x.kind < 0\/5 < x.kind:=by omega
 rcases hcls with hk | hk | hk | hk | hk | hk | hk | hk
 ·have g0:(x.kind !=0)=false:=by rw [hk];rfl
  have g4:(x.kind !=4)=true:=by exact bne_iff_ne.2 (by omega)
  have g2:decide (x.kind < 2)=true:=by exact decide_eq_true (by omega)
  have g5:(x.kind==5)=false:=by exact bf_ (by omega)
  have g6:decide (x.kind>4)=false:=by exact decide_eq_false (by omega)
  have HK:=h_ hk;clear hk
  by_cases hy:x.key.toList=[]
  case neg=>(go_wp2_with fail;(apply HQ.out true;exact (h_ (Below.refl _ _));exact fun h=>by cases h))
  have HY:=h_ hy
  by_cases hb:0 < x.body.length
  case pos=>(have hbd:decide (0 < x.body.length)=true:=decide_eq_true hb;go_wp2_with fail;(apply HQ.out true;exact (h_ (Below.refl _ _));exact fun h=>by cases h))
  have hbd:decide (0 < x.body.length)=false:=decide_eq_false hb;have HBO:=h_ hb;clear hb
  by_cases he:0 < x.els.length
  case pos=>(have hed:decide (0 < x.els.length)=true:=decide_eq_true he;go_wp2_with fail;(apply HQ.out true;exact (h_ (Below.refl _ _));exact fun h=>by cases h))
  have hed:decide (0 < x.els.length)=false:=decide_eq_false he;have HEL:=h_ he;clear he;go_wp2_with fail
  (apply HQ.out;exact (h_ (Below.refl _ _));exact fun h=>⟨fun h9=>absurd HK.out h9,fun _=>emptyB HY.out,fun _=>List.length_eq_zero_iff.1 (Nat.eq_zero_of_not_pos HBO.out),fun _=>List.length_eq_zero_iff.1 (Nat.eq_zero_of_not_pos HEL.out)⟩)
 ·have g0:(x.kind !=0)=true:=by exact bne_iff_ne.2 (by omega)
  have g4:(x.kind !=4)=true:=by exact bne_iff_ne.2 (by omega)
  have g2:decide (x.kind < 2)=true:=by exact decide_eq_true (by omega)
  have g5:(x.kind==5)=false:=by exact bf_ (by omega)
  have g6:decide (x.kind>4)=false:=by exact decide_eq_false (by omega)
  have HK:=h_ hk;clear hk
  by_cases ht:x.text.toList=[]
  case neg=>(go_wp2_with fail;(apply HQ.out true;exact (h_ (Below.refl _ _));exact fun h=>by cases h))
  have HT:=h_ ht
  by_cases hy:x.key.toList=[]
  case neg=>(go_wp2_with fail;(apply HQ.out true;exact (h_ (Below.refl _ _));exact fun h=>by cases h))
  have HY:=h_ hy
  by_cases hb:0 < x.body.length
  case pos=>(have hbd:decide (0 < x.body.length)=true:=decide_eq_true hb;go_wp2_with fail;(apply HQ.out true;exact (h_ (Below.refl _ _));exact fun h=>by cases h))
  have hbd:decide (0 < x.body.length)=false:=decide_eq_false hb;have HBO:=h_ hb;clear hb
  by_cases he:0 < x.els.length
  case pos=>(have hed:decide (0 < x.els.length)=true:=decide_eq_true he;go_wp2_with fail;(apply HQ.out true;exact (h_ (Below.refl _ _));exact fun h=>by cases h))
  have hed:decide (0 < x.els.length)=false:=decide_eq_false he;have HEL:=h_ he;clear he;go_wp2_with fail
  (apply HQ.out;exact (h_ (Below.refl _ _));exact fun h=>⟨fun _=>emptyB HT.out,fun _=>emptyB HY.out,fun _=>List.length_eq_zero_iff.1 (Nat.eq_zero_of_not_pos HBO.out),fun _=>List.length_eq_zero_iff.1 (Nat.eq_zero_of_not_pos HEL.out)⟩)
 ·have g0:(x.kind !=0)=true:=by exact bne_iff_ne.2 (by omega)
  have g4:(x.kind !=4)=true:=by exact bne_iff_ne.2 (by omega)
  have g2:decide (x.kind < 2)=false:=by exact decide_eq_false (by omega)
  have g5:(x.kind==5)=false:=by exact bf_ (by omega)
  have g6:decide (x.kind>4)=false:=by exact decide_eq_false (by omega)
  have HK:=h_ hk;clear hk
  by_cases ht:x.text.toList=[]
  case neg=>(go_wp2_with fail;(apply HQ.out true;exact (h_ (Below.refl _ _));exact fun h=>by cases h))
  have HT:=h_ ht
  by_cases hy:x.key.toList=[]
  case neg=>(go_wp2_with fail;(apply HQ.out true;exact (h_ (Below.refl _ _));exact fun h=>by cases h))
  have HY:=h_ hy;go_wp2_with fail
  (apply HQ.out;exact (h_ (Below.refl _ _));exact fun h=>⟨fun _=>emptyB HT.out,fun _=>emptyB HY.out,fun h9=>absurd HK.out (by omega),fun h9=>absurd HK.out (by omega)⟩)
 ·have g0:(x.kind !=0)=true:=by exact bne_iff_ne.2 (by omega)
  have g4:(x.kind !=4)=true:=by exact bne_iff_ne.2 (by omega)
  have g2:decide (x.kind < 2)=false:=by exact decide_eq_false (by omega)
  have g5:(x.kind==5)=false:=by exact bf_ (by omega)
  have g6:decide (x.kind>4)=false:=by exact decide_eq_false (by omega)
  have HK:=h_ hk;clear hk
  by_cases ht:x.text.toList=[]
  case neg=>(go_wp2_with fail;(apply HQ.out true;exact (h_ (Below.refl _ _));exact fun h=>by cases h))
  have HT:=h_ ht
  by_cases hy:x.key.toList=[]
  case neg=>(go_wp2_with fail;(apply HQ.out true;exact (h_ (Below.refl _ _));exact fun h=>by cases h))
  have HY:=h_ hy;go_wp2_with fail
  (apply HQ.out;exact (h_ (Below.refl _ _));exact fun h=>⟨fun _=>emptyB HT.out,fun _=>emptyB HY.out,fun h9=>absurd HK.out (by omega),fun h9=>absurd HK.out (by omega)⟩)
 ·have g0:(x.kind !=0)=true:=by exact bne_iff_ne.2 (by omega)
  have g4:(x.kind !=4)=false:=by rw [hk];rfl
  have g2:decide (x.kind < 2)=false:=by exact decide_eq_false (by omega)
  have g5:(x.kind==5)=false:=by exact bf_ (by omega)
  have g6:decide (x.kind>4)=false:=by exact decide_eq_false (by omega)
  have HK:=h_ hk;clear hk
  by_cases ht:x.text.toList=[]
  case neg=>(go_wp2_with fail;(apply HQ.out true;exact (h_ (Below.refl _ _));exact fun h=>by cases h))
  have HT:=h_ ht;go_wp2_with fail
  (apply HQ.out;exact (h_ (Below.refl _ _));exact fun h=>⟨fun _=>emptyB HT.out,fun h9=>absurd HK.out h9,fun h9=>absurd HK.out (by omega),fun h9=>absurd HK.out (by omega)⟩)
 ·have g0:(x.kind !=0)=true:=by exact bne_iff_ne.2 (by omega)
  have g4:(x.kind !=4)=true:=by exact bne_iff_ne.2 (by omega)
  have g2:decide (x.kind < 2)=false:=by exact decide_eq_false (by omega)
  have g5:(x.kind==5)=true:=by rw [hk];rfl
  have g6:decide (x.kind>4)=true:=by exact decide_eq_true (by omega)
  have HK:=h_ hk;clear hk
  by_cases ht:x.text.toList=[]
  case neg=>(go_wp2_with fail;(apply HQ.out true;exact (h_ (Below.refl _ _));exact fun h=>by cases h))
  have HT:=h_ ht
  by_cases hy:x.key.toList=[]
  case neg=>(go_wp2_with fail;(apply HQ.out true;exact (h_ (Below.refl _ _));exact fun h=>by cases h))
  have HY:=h_ hy
  by_cases hb:0 < x.body.length
  case pos=>(have hbd:decide (0 < x.body.length)=true:=decide_eq_true hb;go_wp2_with fail;(apply HQ.out true;exact (h_ (Below.refl _ _));exact fun h=>by cases h))
  have hbd:decide (0 < x.body.length)=false:=decide_eq_false hb;have HBO:=h_ hb;clear hb
  by_cases he:0 < x.els.length
  case pos=>(have hed:decide (0 < x.els.length)=true:=decide_eq_true he;go_wp2_with fail;(apply HQ.out true;exact (h_ (Below.refl _ _));exact fun h=>by cases h))
  have hed:decide (0 < x.els.length)=false:=decide_eq_false he;have HEL:=h_ he;clear he;go_wp2_with fail
  (apply HQ.out;exact (h_ (Below.refl _ _));exact fun h=>⟨fun _=>emptyB HT.out,fun _=>emptyB HY.out,fun _=>List.length_eq_zero_iff.1 (Nat.eq_zero_of_not_pos HBO.out),fun _=>List.length_eq_zero_iff.1 (Nat.eq_zero_of_not_pos HEL.out)⟩)
 ·have g0:(x.kind !=0)=true:=by exact bne_iff_ne.2 (by omega)
  have g4:(x.kind !=4)=true:=by exact bne_iff_ne.2 (by omega)
  have g2:decide (x.kind < 2)=true:=by exact decide_eq_true (by omega)
  have g5:(x.kind==5)=false:=by exact bf_ (by omega)
  have g6:decide (x.kind>4)=false:=by exact decide_eq_false (by omega)
  have HK:=h_ hk;clear hk
  by_cases ht:x.text.toList=[]
  case neg=>(go_wp2_with fail;(apply HQ.out true;exact (h_ (Below.refl _ _));exact fun h=>by cases h))
  have HT:=h_ ht
  by_cases hy:x.key.toList=[]
  case neg=>(go_wp2_with fail;(apply HQ.out true;exact (h_ (Below.refl _ _));exact fun h=>by cases h))
  have HY:=h_ hy
  by_cases hb:0 < x.body.length
  case pos=>(have hbd:decide (0 < x.body.length)=true:=decide_eq_true hb;go_wp2_with fail;(apply HQ.out true;exact (h_ (Below.refl _ _));exact fun h=>by cases h))
  have hbd:decide (0 < x.body.length)=false:=decide_eq_false hb;have HBO:=h_ hb;clear hb
  by_cases he:0 < x.els.length
  case pos=>(have hed:decide (0 < x.els.length)=true:=decide_eq_true he;go_wp2_with fail;(apply HQ.out true;exact (h_ (Below.refl _ _));exact fun h=>by cases h))
  have hed:decide (0 < x.els.length)=false:=decide_eq_false he;have HEL:=h_ he;clear he;go_wp2_with fail
  (apply HQ.out;exact (h_ (Below.refl _ _));exact fun h=>⟨fun _=>emptyB HT.out,fun _=>emptyB HY.out,fun _=>List.length_eq_zero_iff.1 (Nat.eq_zero_of_not_pos HBO.out),fun _=>List.length_eq_zero_iff.1 (Nat.eq_zero_of_not_pos HEL.out)⟩)
 ·have g0:(x.kind !=0)=true:=by exact bne_iff_ne.2 (by omega)
  have g4:(x.kind !=4)=true:=by exact bne_iff_ne.2 (by omega)
  have g2:decide (x.kind < 2)=false:=by exact decide_eq_false (by omega)
  have g5:(x.kind==5)=false:=by exact bf_ (by omega)
  have g6:decide (x.kind>4)=true:=by exact decide_eq_true (by omega)
  have HK:=h_ hk;clear hk
  by_cases ht:x.text.toList=[]
  case neg=>(go_wp2_with fail;(apply HQ.out true;exact (h_ (Below.refl _ _));exact fun h=>by cases h))
  have HT:=h_ ht
  by_cases hy:x.key.toList=[]
  case neg=>(go_wp2_with fail;(apply HQ.out true;exact (h_ (Below.refl _ _));exact fun h=>by cases h))
  have HY:=h_ hy
  by_cases he:0 < x.els.length
  case pos=>(have hed:decide (0 < x.els.length)=true:=decide_eq_true he;go_wp2_with fail;(apply HQ.out true;exact (h_ (Below.refl _ _));exact fun h=>by cases h))
  have hed:decide (0 < x.els.length)=false:=decide_eq_false he;have HEL:=h_ he;clear he;go_wp2_with fail
  (apply HQ.out;exact (h_ (Below.refl _ _));exact fun h=>⟨fun _=>emptyB HT.out,fun _=>emptyB HY.out,fun h9=>absurd HK.out (by omega),fun _=>List.length_eq_zero_iff.1 (Nat.eq_zero_of_not_pos HEL.out)⟩)
theorem sd_15a (hp:PartsN w S la lc ma mc sa sc aa ac ba bc ea ec x) (hW:Hid (Below w.heap.size w wr)) (HB:Hid (Blk wr n8 70 #[.int .i64 x.kind,.string x.text,.int .i64 x.x.kind,.int .i64 x.x.val.kind,.bool x.x.val.bool,.int .i64 x.x.val.int,.string x.x.val.str,.slice la x.x.val.list.length lc,.slice ma x.x.val.map.length mc,.string x.x.name,.slice sa x.x.steps.length sc,.slice aa x.x.args.length ac,.string x.key,.string x.name,.slice ba x.body.length bc,.slice ea x.els.length ec])) (hq:Hid (qi=0))
  (hQ:∀ (r:Bool) (QD QE QF QG QH QI QJ QK QL QM QN QO QP QQ go gp gr gs gt gu gv gw gx gy gz gA:Value) (wx:World),Hid (Below wr.heap.size wr wx)->(r=false->(x.text≠⟨#[]⟩/\True/\x.x=Ex.zero/\x.name=⟨#[]⟩))->K9 ⟨#[.slice a l.length c,.int .i64 di,.bool tp,u3,u4,u5,u6,.int .i64 qi,.pointer (some ⟨n8,0,none⟩),u9,q0,qb,qn,qy,qJ,qU,j4,jf,jq,jB,jM,jX,z2,z3,z4,z5,z6,z7,z8,z9,za,zb,zc,zd,ze,zf,zg,zh,zi,zj,zk,zl,zm,zn,zo,zp,zq,zr,zs,zt,zu,zv,zw,zx,zy,zz,zA,zB,zC,zD,zE,zF,zG,zH,zI,zJ,zK,zL,zM,zN,zO,zP,zQ,zR,zS,zT,zU,zV,zW,zX,zY,zZ,z_,g7,g8,g9,QD,QE,QF,QG,QH,QI,QJ,QK,QL,QM,QN,QO,QP,QQ,go,gp,gr,gs,gt,gu,gv,gw,gx,gy,gz,gA,.bool r,qf,qg,qh,qj,qk,ql,qm,qo,qp,qq,qr,qs,qt,qu,qv,qw,qx,qz,qA,qB,qC,qD,qE,qF,qG,qH,qI,qK,qL,qM,qN,qO,qP,qQ,qR,qS,qT,qV,qW,qX,qY,qZ,q_,j0,j1,j2,j3,j5,j6,j7,j8,j9,ja,jb,jc,jd,je,jg,jh,ji,jj,jk,jl,jm,jn,jo,jp,jr,js,jt,ju,jv,jw,jx,jy,jz,jA,jC,jD,jE,jF,jG,jH,jI,jJ,jK,jL,jN,jO,jP,jQ,jR,jS,jT,jU,jV,jW,jY,jZ,j_,z0,z1],[]⟩ wx):
  Code.wp Tryz.prog (rgnS 15) (Exit.then K9 Q) ⟨#[.slice a l.length c,.int .i64 di,.bool tp,u3,u4,u5,u6,.int .i64 qi,.pointer (some ⟨n8,0,none⟩),u9,q0,qb,qn,qy,qJ,qU,j4,jf,jq,jB,jM,jX,z2,z3,z4,z5,z6,z7,z8,z9,za,zb,zc,zd,ze,zf,zg,zh,zi,zj,zk,zl,zm,zn,zo,zp,zq,zr,zs,zt,zu,zv,zw,zx,zy,zz,zA,zB,zC,zD,zE,zF,zG,zH,zI,zJ,zK,zL,zM,zN,zO,zP,zQ,zR,zS,zT,zU,zV,zW,zX,zY,zZ,z_,g7,g8,g9,ga,gb,gc,gd,ge,gf,gg,gh,gi,gj,gk,gl,gm,gn,q1,q2,q3,q4,q5,q6,q7,q8,q9,qa,qc,qd,qe,qf,qg,qh,qj,qk,ql,qm,qo,qp,qq,qr,qs,qt,qu,qv,qw,qx,qz,qA,qB,qC,qD,qE,qF,qG,qH,qI,qK,qL,qM,qN,qO,qP,qQ,qR,qS,qT,qV,qW,qX,qY,qZ,q_,j0,j1,j2,j3,j5,j6,j7,j8,j9,ja,jb,jc,jd,je,jg,jh,ji,jj,jk,jl,jm,jn,jo,jp,jr,js,jt,ju,jv,jw,jx,jy,jz,jA,jC,jD,jE,jF,jG,jH,jI,jJ,jK,jL,jN,jO,jP,jQ,jR,jS,jT,jU,jV,jW,jY,jZ,j_,z0,z1],[]⟩ wr:=by
 have HQ:=h_ hQ;have HXP:=h_ (partsX_of (hp.x.keep hW.out));clear hQ hp
 conv=>arg 2;whnf
 have k1:=HB.out.cell;have l1:=HB.out.lt
 by_cases ht:x.text.toList=[]
 ·go_wp2_with fail
  first | (apply HQ.out true;exact (h_ (Below.refl _ _));exact fun h=>by cases h) | (apply HQ.out;exact (h_ (Below.refl _ _));exact fun h=>absurd h (by simp [ht])) | (apply HQ.out;exact (h_ (Below.refl _ _));exact fun h=>absurd h (by simp))
 ·have gq:decide (qi>0)=false:=decide_eq_false (by have:=hq.out;omega)
  clear hq;go_wp2_with fail
  refine (rbare7 HXP.out).mono ?_
  rintro e wx ⟨r,rfl,hbx,hr⟩;have HBX:=h_ hbx;have k2:=(HB.out.keep hbx).cell;have l2:=(HB.out.keep hbx).lt;clear hbx
  cases r with
  | false=>
   go_wp2_with fail
   first | (apply HQ.out true;exact HBX;exact fun h=>by cases h) | (apply HQ.out;exact HBX;exact fun h=>absurd h (by simp)) | (apply HQ.out;exact HBX;exact fun h=>absurd h (by simp [ht]))
  | true=>
   have HZ:=h_ (hr rfl);clear hr;go_wp2_with fail
   all_goals first | (apply HQ.out true;exact HBX;exact fun h=>by cases h) | skip
   all_goals (apply HQ.out;exact HBX;exact fun h=>⟨fun e=>ht (by rw [e,ByteArray.toList_eq]),trivial,HZ.out,by first | exact emptyB (by assumption) | (simp at h;first | exact emptyB h | exact h | exact emptyB h.2 | exact emptyB h.1 | exact h.2)⟩)
theorem sd_15b {b bo m:Nat} {pk:Int} (hp:PartsN w S la lc ma mc sa sc aa ac ba bc ea ec x) (hW:Hid (Below w.heap.size w wr)) (HB:Hid (Blk wr n8 70 #[.int .i64 x.kind,.string x.text,.int .i64 x.x.kind,.int .i64 x.x.val.kind,.bool x.x.val.bool,.int .i64 x.x.val.int,.string x.x.val.str,.slice la x.x.val.list.length lc,.slice ma x.x.val.map.length mc,.string x.x.name,.slice sa x.x.steps.length sc,.slice aa x.x.args.length ac,.string x.key,.string x.name,.slice ba x.body.length bc,.slice ea x.els.length ec])) (hq:Hid (qi=(m:Int)+1)) (hml:m < l.length) (hll:l.length<=1000000000000) (ha:Hid (a=some ⟨b,bo,none⟩)) (hpk:wr.cell? ⟨b,bo+m*16,none⟩=some (.int .i64 pk))
  (hQ:∀ (r:Bool) (QD QE QF QG QH QI QJ QK QL QM QN QO QP QQ go gp gr gs gt gu gv gw gx gy gz gA:Value) (wx:World),Hid (Below wr.heap.size wr wx)->(r=false->(x.text≠⟨#[]⟩/\pk≠0/\x.x=Ex.zero/\x.name=⟨#[]⟩))->K9 ⟨#[.slice a l.length c,.int .i64 di,.bool tp,u3,u4,u5,u6,.int .i64 qi,.pointer (some ⟨n8,0,none⟩),u9,q0,qb,qn,qy,qJ,qU,j4,jf,jq,jB,jM,jX,z2,z3,z4,z5,z6,z7,z8,z9,za,zb,zc,zd,ze,zf,zg,zh,zi,zj,zk,zl,zm,zn,zo,zp,zq,zr,zs,zt,zu,zv,zw,zx,zy,zz,zA,zB,zC,zD,zE,zF,zG,zH,zI,zJ,zK,zL,zM,zN,zO,zP,zQ,zR,zS,zT,zU,zV,zW,zX,zY,zZ,z_,g7,g8,g9,QD,QE,QF,QG,QH,QI,QJ,QK,QL,QM,QN,QO,QP,QQ,go,gp,gr,gs,gt,gu,gv,gw,gx,gy,gz,gA,.bool r,qf,qg,qh,qj,qk,ql,qm,qo,qp,qq,qr,qs,qt,qu,qv,qw,qx,qz,qA,qB,qC,qD,qE,qF,qG,qH,qI,qK,qL,qM,qN,qO,qP,qQ,qR,qS,qT,qV,qW,qX,qY,qZ,q_,j0,j1,j2,j3,j5,j6,j7,j8,j9,ja,jb,jc,jd,je,jg,jh,ji,jj,jk,jl,jm,jn,jo,jp,jr,js,jt,ju,jv,jw,jx,jy,jz,jA,jC,jD,jE,jF,jG,jH,jI,jJ,jK,jL,jN,jO,jP,jQ,jR,jS,jT,jU,jV,jW,jY,jZ,j_,z0,z1],[]⟩ wx):
  Code.wp Tryz.prog (rgnS 15) (Exit.then K9 Q) ⟨#[.slice a l.length c,.int .i64 di,.bool tp,u3,u4,u5,u6,.int .i64 qi,.pointer (some ⟨n8,0,none⟩),u9,q0,qb,qn,qy,qJ,qU,j4,jf,jq,jB,jM,jX,z2,z3,z4,z5,z6,z7,z8,z9,za,zb,zc,zd,ze,zf,zg,zh,zi,zj,zk,zl,zm,zn,zo,zp,zq,zr,zs,zt,zu,zv,zw,zx,zy,zz,zA,zB,zC,zD,zE,zF,zG,zH,zI,zJ,zK,zL,zM,zN,zO,zP,zQ,zR,zS,zT,zU,zV,zW,zX,zY,zZ,z_,g7,g8,g9,ga,gb,gc,gd,ge,gf,gg,gh,gi,gj,gk,gl,gm,gn,q1,q2,q3,q4,q5,q6,q7,q8,q9,qa,qc,qd,qe,qf,qg,qh,qj,qk,ql,qm,qo,qp,qq,qr,qs,qt,qu,qv,qw,qx,qz,qA,qB,qC,qD,qE,qF,qG,qH,qI,qK,qL,qM,qN,qO,qP,qQ,qR,qS,qT,qV,qW,qX,qY,qZ,q_,j0,j1,j2,j3,j5,j6,j7,j8,j9,ja,jb,jc,jd,je,jg,jh,ji,jj,jk,jl,jm,jn,jo,jp,jr,js,jt,ju,jv,jw,jx,jy,jz,jA,jC,jD,jE,jF,jG,jH,jI,jJ,jK,jL,jN,jO,jP,jQ,jR,jS,jT,jU,jV,jW,jY,jZ,j_,z0,z1],[]⟩ wr:=by
 have HQ:=h_ hQ;have HXP:=h_ (partsX_of (hp.x.keep hW.out));clear hQ hp
 conv=>arg 2;whnf
 have k1:=HB.out.cell;have l1:=HB.out.lt
 by_cases ht:x.text.toList=[]
 ·go_wp2_with fail
  first | (apply HQ.out true;exact (h_ (Below.refl _ _));exact fun h=>by cases h) | (apply HQ.out;exact (h_ (Below.refl _ _));exact fun h=>absurd h (by simp [ht])) | (apply HQ.out;exact (h_ (Below.refl _ _));exact fun h=>absurd h (by simp))
 ·have gq:decide (qi>0)=true:=decide_eq_true (by have:=hq.out;omega)
  have hwq:IntKind.i64.wrap (qi - 1)=(m:Int):=by have h9:=hq.out;rw [wrap_fit (by omega) (by omega)];omega
  have hg0:(0:Int)<=(m:Int):=by omega
  have hg1:(m:Int) < (l.length:Int):=by omega
  clear hq;have ha:=ha.out;subst ha
  by_cases hpk0:pk=0
  ·have gpk:(pk==0)=true:=by rw [hpk0];rfl
   go_wp2_with fail
   first | (apply HQ.out true;exact (h_ (Below.refl _ _));exact fun h=>by cases h) | (apply HQ.out;exact (h_ (Below.refl _ _));exact fun h=>absurd h (by simp [ht])) | (apply HQ.out;exact (h_ (Below.refl _ _));exact fun h=>absurd h (by simp))
  have gpk:(pk==0)=false:=bf_ hpk0;go_wp2_with fail
  refine (rbare7 HXP.out).mono ?_
  rintro e wx ⟨r,rfl,hbx,hr⟩;have HBX:=h_ hbx;have k2:=(HB.out.keep hbx).cell;have l2:=(HB.out.keep hbx).lt;clear hbx
  cases r with
  | false=>
   go_wp2_with fail
   first | (apply HQ.out true;exact HBX;exact fun h=>by cases h) | (apply HQ.out;exact HBX;exact fun h=>absurd h (by simp)) | (apply HQ.out;exact HBX;exact fun h=>absurd h (by simp [ht]))
  | true=>
   have HZ:=h_ (hr rfl);clear hr;go_wp2_with fail
   all_goals first | (apply HQ.out true;exact HBX;exact fun h=>by cases h) | skip
   all_goals (apply HQ.out;exact HBX;exact fun h=>⟨fun e=>ht (by rw [e,ByteArray.toList_eq]),hpk0,HZ.out,by first | exact emptyB (by assumption) | (simp at h;first | exact emptyB h | exact h | exact emptyB h.2 | exact emptyB h.1 | exact h.2)⟩)
theorem sd_25 (hp:PartsN w S la lc ma mc sa sc aa ac ba bc ea ec x) (HB:Hid (Blk wr n8 70 #[.int .i64 x.kind,.string x.text,.int .i64 x.x.kind,.int .i64 x.x.val.kind,.bool x.x.val.bool,.int .i64 x.x.val.int,.string x.x.val.str,.slice la x.x.val.list.length lc,.slice ma x.x.val.map.length mc,.string x.x.name,.slice sa x.x.steps.length sc,.slice aa x.x.args.length ac,.string x.key,.string x.name,.slice ba x.body.length bc,.slice ea x.els.length ec]))
  (hQ:∀ (r:Bool) (gB gC gD gE gF gG gH gI gJ gK gL gM gN gO gP gQ gR gS gT gU gV gW gX gY gZ g_ k0 k3 k4:Value) (wx:World),Hid (Below wr.heap.size wr wx)->(r=false->((x.key≠⟨#[]⟩->nameL x.key.data.toList=true/\x.name≠⟨#[]⟩)/\(x.name≠⟨#[]⟩->nameL x.name.data.toList=true)))->K9 ⟨#[.slice a l.length c,.int .i64 di,.bool tp,u3,u4,u5,u6,.int .i64 qi,.pointer (some ⟨n8,0,none⟩),u9,q0,qb,qn,qy,qJ,qU,j4,jf,jq,jB,jM,jX,z2,z3,z4,z5,z6,z7,z8,z9,za,zb,zc,zd,ze,zf,zg,zh,zi,zj,zk,zl,zm,zn,zo,zp,zq,zr,zs,zt,zu,zv,zw,zx,zy,zz,zA,zB,zC,zD,zE,zF,zG,zH,zI,zJ,zK,zL,zM,zN,zO,zP,zQ,zR,zS,zT,zU,zV,zW,zX,zY,zZ,z_,g7,g8,g9,ga,gb,gc,gd,ge,gf,gg,gh,gi,gj,gk,gl,gm,gn,q1,q2,q3,q4,q5,q6,q7,q8,q9,qa,qc,qd,qe,qf,qg,qh,qj,qk,ql,qm,qo,qp,qq,qr,qs,qt,gB,gC,gD,gE,gF,gG,gH,gI,gJ,gK,gL,gM,gN,gO,gP,gQ,gR,gS,gT,gU,gV,gW,gX,gY,gZ,g_,k0,k3,k4,.bool r,j0,j1,j2,j3,j5,j6,j7,j8,j9,ja,jb,jc,jd,je,jg,jh,ji,jj,jk,jl,jm,jn,jo,jp,jr,js,jt,ju,jv,jw,jx,jy,jz,jA,jC,jD,jE,jF,jG,jH,jI,jJ,jK,jL,jN,jO,jP,jQ,jR,jS,jT,jU,jV,jW,jY,jZ,j_,z0,z1],[]⟩ wx):
  Code.wp Tryz.prog (rgnS 25) (Exit.then K9 Q) ⟨#[.slice a l.length c,.int .i64 di,.bool tp,u3,u4,u5,u6,.int .i64 qi,.pointer (some ⟨n8,0,none⟩),u9,q0,qb,qn,qy,qJ,qU,j4,jf,jq,jB,jM,jX,z2,z3,z4,z5,z6,z7,z8,z9,za,zb,zc,zd,ze,zf,zg,zh,zi,zj,zk,zl,zm,zn,zo,zp,zq,zr,zs,zt,zu,zv,zw,zx,zy,zz,zA,zB,zC,zD,zE,zF,zG,zH,zI,zJ,zK,zL,zM,zN,zO,zP,zQ,zR,zS,zT,zU,zV,zW,zX,zY,zZ,z_,g7,g8,g9,ga,gb,gc,gd,ge,gf,gg,gh,gi,gj,gk,gl,gm,gn,q1,q2,q3,q4,q5,q6,q7,q8,q9,qa,qc,qd,qe,qf,qg,qh,qj,qk,ql,qm,qo,qp,qq,qr,qs,qt,qu,qv,qw,qx,qz,qA,qB,qC,qD,qE,qF,qG,qH,qI,qK,qL,qM,qN,qO,qP,qQ,qR,qS,qT,qV,qW,qX,qY,qZ,q_,j0,j1,j2,j3,j5,j6,j7,j8,j9,ja,jb,jc,jd,je,jg,jh,ji,jj,jk,jl,jm,jn,jo,jp,jr,js,jt,ju,jv,jw,jx,jy,jz,jA,jC,jD,jE,jF,jG,jH,jI,jJ,jK,jL,jN,jO,jP,jQ,jR,jS,jT,jU,jV,jW,jY,jZ,j_,z0,z1],[]⟩ wr:=by
 have HQ:=h_ hQ;have hnm:=hp.name;have hky:=hp.key;clear hQ hp
 conv=>arg 2;whnf
 have k1:=HB.out.cell;have l1:=HB.out.lt
 by_cases hy:x.key.toList=[]
 ·have HY:=h_ hy
  by_cases hn:x.name.toList=[]
  ·have HN:=h_ hn
   go_wp2_with fail
   (apply HQ.out;exact (h_ (Below.refl _ _));exact fun h=>⟨fun h9=>absurd (emptyB HY.out) h9,fun h9=>absurd (emptyB HN.out) h9⟩)
  ·have HN:=h_ hn
   go_wp2_with fail
   refine (trname x.name _ hnm).mono ?_
   rintro e wz ⟨rfl,rfl⟩
   by_cases hnb:nameL x.name.data.toList=true
   ·rw [hnb]
    have HB9:=h_ hnb;clear hnb;go_wp2_with fail
    (apply HQ.out;exact (h_ (Below.refl _ _));exact fun h=>⟨fun h9=>absurd (emptyB HY.out) h9,fun _=>HB9.out⟩)
   ·have hnb:nameL x.name.data.toList=false:=by simpa using hnb
    rw [hnb];clear hnb;go_wp2_with fail
    (apply HQ.out true;exact (h_ (Below.refl _ _));exact fun h=>by cases h)
 ·have HY:=h_ hy
  go_wp2_with fail
  refine (trname x.key _ hky).mono ?_
  rintro e wz ⟨rfl,rfl⟩
  by_cases hnk:nameL x.key.data.toList=true
  ·rw [hnk]
   have HB8:=h_ hnk;clear hnk
   by_cases hn:x.name.toList=[]
   ·go_wp2_with fail
    (apply HQ.out;exact (h_ (Below.refl _ _));exact fun h=>absurd h (by simp [hy]))
   ·have HN:=h_ hn
    go_wp2_with fail
    refine (trname x.name _ hnm).mono ?_
    rintro e wz ⟨rfl,rfl⟩
    by_cases hnb:nameL x.name.data.toList=true
    ·rw [hnb]
     have HB9:=h_ hnb;clear hnb;go_wp2_with fail
     (apply HQ.out;exact (h_ (Below.refl _ _));exact fun h=>⟨fun _=>⟨HB8.out,fun h9=>HN.out (by rw [h9,ByteArray.toList_eq])⟩,fun _=>HB9.out⟩)
    ·have hnb:nameL x.name.data.toList=false:=by simpa using hnb
     rw [hnb];clear hnb;go_wp2_with fail
     (apply HQ.out true;exact (h_ (Below.refl _ _));exact fun h=>by cases h)
  ·have hnk:nameL x.key.data.toList=false:=by simpa using hnk
   rw [hnk];clear hnk;go_wp2_with fail
   (apply HQ.out true;exact (h_ (Below.refl _ _));exact fun h=>by cases h)
theorem sd_31 (hp:PartsN w S la lc ma mc sa sc aa ac ba bc ea ec x) (hW:Hid (Below w.heap.size w wr)) (HB:Hid (Blk wr n8 70 #[.int .i64 x.kind,.string x.text,.int .i64 x.x.kind,.int .i64 x.x.val.kind,.bool x.x.val.bool,.int .i64 x.x.val.int,.string x.x.val.str,.slice la x.x.val.list.length lc,.slice ma x.x.val.map.length mc,.string x.x.name,.slice sa x.x.steps.length sc,.slice aa x.x.args.length ac,.string x.key,.string x.name,.slice ba x.body.length bc,.slice ea x.els.length ec]))
  (hQ:∀ (r:Bool) (k5 k6 k7 k8 k9 ka kb kc kd ke kf kg kh:Value) (wx:World),Hid (Below wr.heap.size wr wx)->(r=false->(nameL x.name.data.toList=true/\tp=true/\x.x=Ex.zero))->K9 ⟨#[.slice a l.length c,.int .i64 di,.bool tp,u3,u4,u5,u6,.int .i64 qi,.pointer (some ⟨n8,0,none⟩),u9,q0,qb,qn,qy,qJ,qU,j4,jf,jq,jB,jM,jX,z2,z3,z4,z5,z6,z7,z8,z9,za,zb,zc,zd,ze,zf,zg,zh,zi,zj,zk,zl,zm,zn,zo,zp,zq,zr,zs,zt,zu,zv,zw,zx,zy,zz,zA,zB,zC,zD,zE,zF,zG,zH,zI,zJ,zK,zL,zM,zN,zO,zP,zQ,zR,zS,zT,zU,zV,zW,zX,zY,zZ,z_,g7,g8,g9,ga,gb,gc,gd,ge,gf,gg,gh,gi,gj,gk,gl,gm,gn,q1,q2,q3,q4,q5,q6,q7,q8,q9,qa,qc,qd,qe,qf,qg,qh,qj,qk,ql,qm,qo,qp,qq,qr,qs,qt,qu,qv,qw,qx,qz,qA,qB,qC,qD,qE,qF,qG,qH,qI,qK,qL,qM,qN,qO,qP,qQ,qR,qS,qT,qV,qW,qX,qY,qZ,q_,j0,j1,j2,j3,j5,j6,j7,j8,k5,k6,k7,k8,k9,ka,kb,kc,kd,ke,kf,kg,kh,.bool r,jo,jp,jr,js,jt,ju,jv,jw,jx,jy,jz,jA,jC,jD,jE,jF,jG,jH,jI,jJ,jK,jL,jN,jO,jP,jQ,jR,jS,jT,jU,jV,jW,jY,jZ,j_,z0,z1],[]⟩ wx):
  Code.wp Tryz.prog (rgnS 31) (Exit.then K9 Q) ⟨#[.slice a l.length c,.int .i64 di,.bool tp,u3,u4,u5,u6,.int .i64 qi,.pointer (some ⟨n8,0,none⟩),u9,q0,qb,qn,qy,qJ,qU,j4,jf,jq,jB,jM,jX,z2,z3,z4,z5,z6,z7,z8,z9,za,zb,zc,zd,ze,zf,zg,zh,zi,zj,zk,zl,zm,zn,zo,zp,zq,zr,zs,zt,zu,zv,zw,zx,zy,zz,zA,zB,zC,zD,zE,zF,zG,zH,zI,zJ,zK,zL,zM,zN,zO,zP,zQ,zR,zS,zT,zU,zV,zW,zX,zY,zZ,z_,g7,g8,g9,ga,gb,gc,gd,ge,gf,gg,gh,gi,gj,gk,gl,gm,gn,q1,q2,q3,q4,q5,q6,q7,q8,q9,qa,qc,qd,qe,qf,qg,qh,qj,qk,ql,qm,qo,qp,qq,qr,qs,qt,qu,qv,qw,qx,qz,qA,qB,qC,qD,qE,qF,qG,qH,qI,qK,qL,qM,qN,qO,qP,qQ,qR,qS,qT,qV,qW,qX,qY,qZ,q_,j0,j1,j2,j3,j5,j6,j7,j8,j9,ja,jb,jc,jd,je,jg,jh,ji,jj,jk,jl,jm,jn,jo,jp,jr,js,jt,ju,jv,jw,jx,jy,jz,jA,jC,jD,jE,jF,jG,jH,jI,jJ,jK,jL,jN,jO,jP,jQ,jR,jS,jT,jU,jV,jW,jY,jZ,j_,z0,z1],[]⟩ wr:=by
 have HQ:=h_ hQ;have hnm:=hp.name;have HXP:=h_ (partsX_of (hp.x.keep hW.out));clear hQ hp
 conv=>arg 2;whnf
 have k1:=HB.out.cell;have l1:=HB.out.lt;go_wp2_with fail
 refine (trname x.name _ hnm).mono ?_
 rintro e wz ⟨rfl,rfl⟩
 by_cases hnb:nameL x.name.data.toList=true
 ·rw [hnb]
  have HB9:=h_ hnb;clear hnb
  cases tp with
  | false=>
   go_wp2_with fail
   (apply HQ.out true;exact (h_ (Below.refl _ _));exact fun h=>by cases h)
  | true=>
   go_wp2_with fail
   refine (rbare7 HXP.out).mono ?_
   rintro e wx ⟨r,rfl,hbx,hr⟩;have HBX:=h_ hbx;clear hbx
   cases r with
   | false=>
    go_wp2_with fail
    (apply HQ.out true;exact HBX;exact fun h=>by cases h)
   | true=>
    have HZ:=h_ (hr rfl);clear hr;go_wp2_with fail
    (apply HQ.out;exact HBX;exact fun h=>⟨HB9.out,by first | rfl | trivial,HZ.out⟩)
 ·have hnb:nameL x.name.data.toList=false:=by simpa using hnb
  rw [hnb];clear hnb;go_wp2_with fail
  (apply HQ.out true;exact (h_ (Below.refl _ _));exact fun h=>by cases h)
theorem sd_33 (hp:PartsN w S la lc ma mc sa sc aa ac ba bc ea ec x) (hW:Hid (Below w.heap.size w wr)) (HB:Hid (Blk wr n8 70 #[.int .i64 x.kind,.string x.text,.int .i64 x.x.kind,.int .i64 x.x.val.kind,.bool x.x.val.bool,.int .i64 x.x.val.int,.string x.x.val.str,.slice la x.x.val.list.length lc,.slice ma x.x.val.map.length mc,.string x.x.name,.slice sa x.x.steps.length sc,.slice aa x.x.args.length ac,.string x.key,.string x.name,.slice ba x.body.length bc,.slice ea x.els.length ec]))
  (hQ:∀ (r:Bool) (ki kj kk kl km kn ko kp:Value) (wx:World),Hid (Below wr.heap.size wr wx)->(r=false->(x.kind≠6->RightX 6 x.x/\FreeX x.x))->K9 ⟨#[.slice a l.length c,.int .i64 di,.bool tp,u3,u4,u5,u6,.int .i64 qi,.pointer (some ⟨n8,0,none⟩),u9,q0,qb,qn,qy,qJ,qU,j4,jf,jq,jB,jM,jX,z2,z3,z4,z5,z6,z7,z8,z9,za,zb,zc,zd,ze,zf,zg,zh,zi,zj,zk,zl,zm,zn,zo,zp,zq,zr,zs,zt,zu,zv,zw,zx,zy,zz,zA,zB,zC,zD,zE,zF,zG,zH,zI,zJ,zK,zL,zM,zN,zO,zP,zQ,zR,zS,zT,zU,zV,zW,zX,zY,zZ,z_,g7,g8,g9,ga,gb,gc,gd,ge,gf,gg,gh,gi,gj,gk,gl,gm,gn,q1,q2,q3,q4,q5,q6,q7,q8,q9,qa,qc,qd,qe,qf,qg,qh,qj,qk,ql,qm,qo,qp,qq,qr,qs,qt,qu,qv,qw,qx,qz,qA,qB,qC,qD,qE,qF,qG,qH,qI,qK,qL,qM,qN,qO,qP,qQ,qR,qS,qT,qV,qW,qX,qY,qZ,q_,j0,j1,j2,j3,j5,j6,j7,j8,j9,ja,jb,jc,jd,je,jg,jh,ji,jj,jk,jl,jm,jn,ki,kj,kk,kl,km,kn,ko,kp,.bool r,jy,jz,jA,jC,jD,jE,jF,jG,jH,jI,jJ,jK,jL,jN,jO,jP,jQ,jR,jS,jT,jU,jV,jW,jY,jZ,j_,z0,z1],[]⟩ wx):
  Code.wp Tryz.prog (rgnS 33) (Exit.then K9 Q) ⟨#[.slice a l.length c,.int .i64 di,.bool tp,u3,u4,u5,u6,.int .i64 qi,.pointer (some ⟨n8,0,none⟩),u9,q0,qb,qn,qy,qJ,qU,j4,jf,jq,jB,jM,jX,z2,z3,z4,z5,z6,z7,z8,z9,za,zb,zc,zd,ze,zf,zg,zh,zi,zj,zk,zl,zm,zn,zo,zp,zq,zr,zs,zt,zu,zv,zw,zx,zy,zz,zA,zB,zC,zD,zE,zF,zG,zH,zI,zJ,zK,zL,zM,zN,zO,zP,zQ,zR,zS,zT,zU,zV,zW,zX,zY,zZ,z_,g7,g8,g9,ga,gb,gc,gd,ge,gf,gg,gh,gi,gj,gk,gl,gm,gn,q1,q2,q3,q4,q5,q6,q7,q8,q9,qa,qc,qd,qe,qf,qg,qh,qj,qk,ql,qm,qo,qp,qq,qr,qs,qt,qu,qv,qw,qx,qz,qA,qB,qC,qD,qE,qF,qG,qH,qI,qK,qL,qM,qN,qO,qP,qQ,qR,qS,qT,qV,qW,qX,qY,qZ,q_,j0,j1,j2,j3,j5,j6,j7,j8,j9,ja,jb,jc,jd,je,jg,jh,ji,jj,jk,jl,jm,jn,jo,jp,jr,js,jt,ju,jv,jw,jx,jy,jz,jA,jC,jD,jE,jF,jG,jH,jI,jJ,jK,jL,jN,jO,jP,jQ,jR,jS,jT,jU,jV,jW,jY,jZ,j_,z0,z1],[]⟩ wr:=by
 have HQ:=h_ hQ;have HX:=h_ hp.x;clear hQ hp
 conv=>arg 2;whnf
 have k1:=HB.out.cell;have l1:=HB.out.lt
 by_cases hk:x.kind=6
 ·have g6:(x.kind !=6)=false:=by rw [hk];rfl
  have HK:=h_ hk;clear hk;go_wp2_with fail
  (apply HQ.out;exact (h_ (Below.refl _ _));exact fun h=>fun h9=>absurd HK.out h9)
 ·have g6:(x.kind !=6)=true:=bne_iff_ne.2 hk
  clear hk;go_wp2_with fail
  refine (rright7 HX.out wr 6 hW.out (by omega)).mono ?_
  rintro e wx ⟨r,rfl,hbx,hr⟩;have HBX:=h_ hbx;clear hbx
  cases r with
  | false=>
   go_wp2_with fail
   (apply HQ.out true;exact HBX;exact fun h=>by cases h)
  | true=>
   have HZ:=h_ (hr rfl);clear hr;go_wp2_with fail
   (apply HQ.out;exact HBX;exact fun h=>fun _=>HZ.out)
theorem sd_35a {d:Nat} (hp:PartsN w S la lc ma mc sa sc aa ac ba bc ea ec x) (hW:Hid (Below w.heap.size w wr)) (HB:Hid (Blk wr n8 70 #[.int .i64 x.kind,.string x.text,.int .i64 x.x.kind,.int .i64 x.x.val.kind,.bool x.x.val.bool,.int .i64 x.x.val.int,.string x.x.val.str,.slice la x.x.val.list.length lc,.slice ma x.x.val.map.length mc,.string x.x.name,.slice sa x.x.steps.length sc,.slice aa x.x.args.length ac,.string x.key,.string x.name,.slice ba x.body.length bc,.slice ea x.els.length ec])) (hdi:di=(d:Int)) (hd5:d<=5) (hE:0 < d) (CB:(0 < d\/x.body=[])->∀ w2,Below w.heap.size w w2->Calls Tryz.prog 25 #[.slice ba x.body.length bc,.int .i64 (di - 1),.bool false] w2 (SoundI x.body (d - 1) False w2)) (CE:(0 < d\/x.els=[])->∀ w2,Below w.heap.size w w2->Calls Tryz.prog 25 #[.slice ea x.els.length ec,.int .i64 (di - 1),.bool false] w2 (SoundI x.els (d - 1) False w2))
  (hQ:∀ (r:Bool) (kq kr ks kt ku kv kw kx ky kz kA kB kC kE kF kG kH kI kJ kK kL kM kN kP kQ kR kS:Value) (wx:World),Hid (Below wr.heap.size wr wx)->(r=false->(((x.body=[]/\x.els=[])\/0 < d)/\((∀ y ∈ x.body,SoundN (d - 1) False y)/\apartN x.body)/\(∀ y ∈ x.els,SoundN (d - 1) False y)/\apartN x.els))->K9 ⟨#[.slice a l.length c,.int .i64 di,.bool tp,u3,u4,u5,u6,.int .i64 qi,.pointer (some ⟨n8,0,none⟩),u9,q0,qb,qn,qy,qJ,qU,j4,jf,jq,jB,jM,jX,z2,z3,z4,z5,z6,z7,z8,z9,za,zb,zc,zd,ze,zf,zg,zh,zi,zj,zk,zl,zm,zn,zo,zp,zq,zr,zs,zt,zu,zv,zw,zx,zy,zz,zA,zB,zC,zD,zE,zF,zG,zH,zI,zJ,zK,zL,zM,zN,zO,zP,zQ,zR,zS,zT,zU,zV,zW,zX,zY,zZ,z_,g7,g8,g9,ga,gb,gc,gd,ge,gf,gg,gh,gi,gj,gk,gl,gm,gn,q1,q2,q3,q4,q5,q6,q7,q8,q9,qa,qc,qd,qe,qf,qg,qh,qj,qk,ql,qm,qo,qp,qq,qr,qs,qt,qu,qv,qw,qx,qz,qA,qB,qC,qD,qE,qF,qG,qH,qI,qK,qL,qM,qN,qO,qP,qQ,qR,qS,qT,qV,qW,qX,qY,qZ,q_,j0,j1,j2,j3,j5,j6,j7,j8,j9,ja,jb,jc,jd,je,jg,jh,ji,jj,jk,jl,jm,jn,jo,jp,jr,js,jt,ju,jv,jw,jx,kq,kr,ks,kt,ku,kv,kw,kx,ky,kz,kA,kB,kC,kE,kF,kG,kH,kI,kJ,kK,kL,kM,kN,kP,kQ,kR,kS,.bool r],[]⟩ wx):
  Code.wp Tryz.prog (rgnS 35) (Exit.then K9 Q) ⟨#[.slice a l.length c,.int .i64 di,.bool tp,u3,u4,u5,u6,.int .i64 qi,.pointer (some ⟨n8,0,none⟩),u9,q0,qb,qn,qy,qJ,qU,j4,jf,jq,jB,jM,jX,z2,z3,z4,z5,z6,z7,z8,z9,za,zb,zc,zd,ze,zf,zg,zh,zi,zj,zk,zl,zm,zn,zo,zp,zq,zr,zs,zt,zu,zv,zw,zx,zy,zz,zA,zB,zC,zD,zE,zF,zG,zH,zI,zJ,zK,zL,zM,zN,zO,zP,zQ,zR,zS,zT,zU,zV,zW,zX,zY,zZ,z_,g7,g8,g9,ga,gb,gc,gd,ge,gf,gg,gh,gi,gj,gk,gl,gm,gn,q1,q2,q3,q4,q5,q6,q7,q8,q9,qa,qc,qd,qe,qf,qg,qh,qj,qk,ql,qm,qo,qp,qq,qr,qs,qt,qu,qv,qw,qx,qz,qA,qB,qC,qD,qE,qF,qG,qH,qI,qK,qL,qM,qN,qO,qP,qQ,qR,qS,qT,qV,qW,qX,qY,qZ,q_,j0,j1,j2,j3,j5,j6,j7,j8,j9,ja,jb,jc,jd,je,jg,jh,ji,jj,jk,jl,jm,jn,jo,jp,jr,js,jt,ju,jv,jw,jx,jy,jz,jA,jC,jD,jE,jF,jG,jH,jI,jJ,jK,jL,jN,jO,jP,jQ,jR,jS,jT,jU,jV,jW,jY,jZ,j_,z0,z1],[]⟩ wr:=by
 have HQ:=h_ hQ;have hb1:=hp.broom.2.2;clear hQ hp
 conv=>arg 2;whnf
 have k1:=HB.out.cell;have l1:=HB.out.lt;have hwd:IntKind.i64.wrap (di - 1)=di - 1:=wrap_fit (by omega) (by omega);have CB1:=h_ (CB (.inl hE));have CE1:=h_ (CE (.inl hE));clear CB CE;have HD:=h_ (show (x.body=[]/\x.els=[])\/0 < d from .inr hE);have t1:decide (di<=0)=false:=decide_eq_false (by omega);clear hE hdi hd5;go_wp2_with fail
 refine (CB1.out wr hW.out).mono ?_
 rintro e wy ⟨r1,rfl,hby,hr1⟩;have HBY:=h_ hby;have HWY:=h_ (Below.next hW.out hby);have k2:=(HB.out.keep hby).cell;have l2:=(HB.out.keep hby).lt;clear hby
 cases r1 with
 | false=>
  go_wp2_with fail
  (apply HQ.out true;exact HBY;exact fun h=>by cases h)
 | true=>
  have HZ1:=h_ (hr1 rfl);clear hr1;go_wp2_with fail
  refine (CE1.out wy HWY.out).mono ?_
  rintro e wx ⟨r2,rfl,hbx,hr2⟩;have HBX:=h_ (Below.next HBY.out hbx);clear hbx
  cases r2 with
  | false=>
   go_wp2_with fail
   (apply HQ.out true;exact HBX;exact fun h=>by cases h)
  | true=>
   have HZ2:=h_ (hr2 rfl);clear hr2;go_wp2_with fail
   (apply HQ.out;exact HBX;exact fun h=>⟨HD.out,HZ1.out,HZ2.out⟩)
theorem sd_35b {d:Nat} (hp:PartsN w S la lc ma mc sa sc aa ac ba bc ea ec x) (hW:Hid (Below w.heap.size w wr)) (HB:Hid (Blk wr n8 70 #[.int .i64 x.kind,.string x.text,.int .i64 x.x.kind,.int .i64 x.x.val.kind,.bool x.x.val.bool,.int .i64 x.x.val.int,.string x.x.val.str,.slice la x.x.val.list.length lc,.slice ma x.x.val.map.length mc,.string x.x.name,.slice sa x.x.steps.length sc,.slice aa x.x.args.length ac,.string x.key,.string x.name,.slice ba x.body.length bc,.slice ea x.els.length ec])) (hdi:di=(d:Int)) (hE:x.body=[]/\x.els=[]) (hd0:d=0) (CB:(0 < d\/x.body=[])->∀ w2,Below w.heap.size w w2->Calls Tryz.prog 25 #[.slice ba x.body.length bc,.int .i64 (di - 1),.bool false] w2 (SoundI x.body (d - 1) False w2)) (CE:(0 < d\/x.els=[])->∀ w2,Below w.heap.size w w2->Calls Tryz.prog 25 #[.slice ea x.els.length ec,.int .i64 (di - 1),.bool false] w2 (SoundI x.els (d - 1) False w2))
  (hQ:∀ (r:Bool) (kq kr ks kt ku kv kw kx ky kz kA kB kC kE kF kG kH kI kJ kK kL kM kN kP kQ kR kS:Value) (wx:World),Hid (Below wr.heap.size wr wx)->(r=false->(((x.body=[]/\x.els=[])\/0 < d)/\((∀ y ∈ x.body,SoundN (d - 1) False y)/\apartN x.body)/\(∀ y ∈ x.els,SoundN (d - 1) False y)/\apartN x.els))->K9 ⟨#[.slice a l.length c,.int .i64 di,.bool tp,u3,u4,u5,u6,.int .i64 qi,.pointer (some ⟨n8,0,none⟩),u9,q0,qb,qn,qy,qJ,qU,j4,jf,jq,jB,jM,jX,z2,z3,z4,z5,z6,z7,z8,z9,za,zb,zc,zd,ze,zf,zg,zh,zi,zj,zk,zl,zm,zn,zo,zp,zq,zr,zs,zt,zu,zv,zw,zx,zy,zz,zA,zB,zC,zD,zE,zF,zG,zH,zI,zJ,zK,zL,zM,zN,zO,zP,zQ,zR,zS,zT,zU,zV,zW,zX,zY,zZ,z_,g7,g8,g9,ga,gb,gc,gd,ge,gf,gg,gh,gi,gj,gk,gl,gm,gn,q1,q2,q3,q4,q5,q6,q7,q8,q9,qa,qc,qd,qe,qf,qg,qh,qj,qk,ql,qm,qo,qp,qq,qr,qs,qt,qu,qv,qw,qx,qz,qA,qB,qC,qD,qE,qF,qG,qH,qI,qK,qL,qM,qN,qO,qP,qQ,qR,qS,qT,qV,qW,qX,qY,qZ,q_,j0,j1,j2,j3,j5,j6,j7,j8,j9,ja,jb,jc,jd,je,jg,jh,ji,jj,jk,jl,jm,jn,jo,jp,jr,js,jt,ju,jv,jw,jx,kq,kr,ks,kt,ku,kv,kw,kx,ky,kz,kA,kB,kC,kE,kF,kG,kH,kI,kJ,kK,kL,kM,kN,kP,kQ,kR,kS,.bool r],[]⟩ wx):
  Code.wp Tryz.prog (rgnS 35) (Exit.then K9 Q) ⟨#[.slice a l.length c,.int .i64 di,.bool tp,u3,u4,u5,u6,.int .i64 qi,.pointer (some ⟨n8,0,none⟩),u9,q0,qb,qn,qy,qJ,qU,j4,jf,jq,jB,jM,jX,z2,z3,z4,z5,z6,z7,z8,z9,za,zb,zc,zd,ze,zf,zg,zh,zi,zj,zk,zl,zm,zn,zo,zp,zq,zr,zs,zt,zu,zv,zw,zx,zy,zz,zA,zB,zC,zD,zE,zF,zG,zH,zI,zJ,zK,zL,zM,zN,zO,zP,zQ,zR,zS,zT,zU,zV,zW,zX,zY,zZ,z_,g7,g8,g9,ga,gb,gc,gd,ge,gf,gg,gh,gi,gj,gk,gl,gm,gn,q1,q2,q3,q4,q5,q6,q7,q8,q9,qa,qc,qd,qe,qf,qg,qh,qj,qk,ql,qm,qo,qp,qq,qr,qs,qt,qu,qv,qw,qx,qz,qA,qB,qC,qD,qE,qF,qG,qH,qI,qK,qL,qM,qN,qO,qP,qQ,qR,qS,qT,qV,qW,qX,qY,qZ,q_,j0,j1,j2,j3,j5,j6,j7,j8,j9,ja,jb,jc,jd,je,jg,jh,ji,jj,jk,jl,jm,jn,jo,jp,jr,js,jt,ju,jv,jw,jx,jy,jz,jA,jC,jD,jE,jF,jG,jH,jI,jJ,jK,jL,jN,jO,jP,jQ,jR,jS,jT,jU,jV,jW,jY,jZ,j_,z0,z1],[]⟩ wr:=by
 have HQ:=h_ hQ;have hb1:=hp.broom.2.2;have hb2:=hp.eroom.2.2;clear hQ hp
 conv=>arg 2;whnf
 have k1:=HB.out.cell;have l1:=HB.out.lt;have hwd:IntKind.i64.wrap (di - 1)=di - 1:=wrap_fit (by omega) (by omega);have CB1:=h_ (CB (.inr hE.1));have CE1:=h_ (CE (.inr hE.2));clear CB CE;have HD:=h_ (show (x.body=[]/\x.els=[])\/0 < d from .inl hE);have t1:decide (di<=0)=true:=decide_eq_true (by omega)
 have t3:¬ 0 < (x.body.length:Int)+(x.els.length:Int):=by rw [hE.1,hE.2];simp
 have t2:decide (0 < (x.body.length:Int)+(x.els.length:Int))=false:=decide_eq_false t3;have t4:decide (0 < x.body.length+x.els.length)=false:=decide_eq_false (by omega);clear hE hd0 hdi;go_wp2_with fail
 refine (CB1.out wr hW.out).mono ?_
 rintro e wy ⟨r1,rfl,hby,hr1⟩;have HBY:=h_ hby;have HWY:=h_ (Below.next hW.out hby);have k2:=(HB.out.keep hby).cell;have l2:=(HB.out.keep hby).lt;clear hby
 cases r1 with
 | false=>
  go_wp2_with fail
  (apply HQ.out true;exact HBY;exact fun h=>by cases h)
 | true=>
  have HZ1:=h_ (hr1 rfl);clear hr1;go_wp2_with fail
  refine (CE1.out wy HWY.out).mono ?_
  rintro e wx ⟨r2,rfl,hbx,hr2⟩;have HBX:=h_ (Below.next HBY.out hbx);clear hbx
  cases r2 with
  | false=>
   go_wp2_with fail
   (apply HQ.out true;exact HBX;exact fun h=>by cases h)
  | true=>
   have HZ2:=h_ (hr2 rfl);clear hr2;go_wp2_with fail
   (apply HQ.out;exact HBX;exact fun h=>⟨HD.out,HZ1.out,HZ2.out⟩)
theorem sd_35c {d:Nat} (hp:PartsN w S la lc ma mc sa sc aa ac ba bc ea ec x) (HB:Hid (Blk wr n8 70 #[.int .i64 x.kind,.string x.text,.int .i64 x.x.kind,.int .i64 x.x.val.kind,.bool x.x.val.bool,.int .i64 x.x.val.int,.string x.x.val.str,.slice la x.x.val.list.length lc,.slice ma x.x.val.map.length mc,.string x.x.name,.slice sa x.x.steps.length sc,.slice aa x.x.args.length ac,.string x.key,.string x.name,.slice ba x.body.length bc,.slice ea x.els.length ec])) (hdi:di=(d:Int)) (hE:¬ (x.body=[]/\x.els=[])) (hd0:d=0)
  (hQ:∀ (r:Bool) (kq kr ks kt ku kv kw kx ky kz kA kB kC kE kF kG kH kI kJ kK kL kM kN kP kQ kR kS:Value) (wx:World),Hid (Below wr.heap.size wr wx)->(r=false->(((x.body=[]/\x.els=[])\/0 < d)/\((∀ y ∈ x.body,SoundN (d - 1) False y)/\apartN x.body)/\(∀ y ∈ x.els,SoundN (d - 1) False y)/\apartN x.els))->K9 ⟨#[.slice a l.length c,.int .i64 di,.bool tp,u3,u4,u5,u6,.int .i64 qi,.pointer (some ⟨n8,0,none⟩),u9,q0,qb,qn,qy,qJ,qU,j4,jf,jq,jB,jM,jX,z2,z3,z4,z5,z6,z7,z8,z9,za,zb,zc,zd,ze,zf,zg,zh,zi,zj,zk,zl,zm,zn,zo,zp,zq,zr,zs,zt,zu,zv,zw,zx,zy,zz,zA,zB,zC,zD,zE,zF,zG,zH,zI,zJ,zK,zL,zM,zN,zO,zP,zQ,zR,zS,zT,zU,zV,zW,zX,zY,zZ,z_,g7,g8,g9,ga,gb,gc,gd,ge,gf,gg,gh,gi,gj,gk,gl,gm,gn,q1,q2,q3,q4,q5,q6,q7,q8,q9,qa,qc,qd,qe,qf,qg,qh,qj,qk,ql,qm,qo,qp,qq,qr,qs,qt,qu,qv,qw,qx,qz,qA,qB,qC,qD,qE,qF,qG,qH,qI,qK,qL,qM,qN,qO,qP,qQ,qR,qS,qT,qV,qW,qX,qY,qZ,q_,j0,j1,j2,j3,j5,j6,j7,j8,j9,ja,jb,jc,jd,je,jg,jh,ji,jj,jk,jl,jm,jn,jo,jp,jr,js,jt,ju,jv,jw,jx,kq,kr,ks,kt,ku,kv,kw,kx,ky,kz,kA,kB,kC,kE,kF,kG,kH,kI,kJ,kK,kL,kM,kN,kP,kQ,kR,kS,.bool r],[]⟩ wx):
  Code.wp Tryz.prog (rgnS 35) (Exit.then K9 Q) ⟨#[.slice a l.length c,.int .i64 di,.bool tp,u3,u4,u5,u6,.int .i64 qi,.pointer (some ⟨n8,0,none⟩),u9,q0,qb,qn,qy,qJ,qU,j4,jf,jq,jB,jM,jX,z2,z3,z4,z5,z6,z7,z8,z9,za,zb,zc,zd,ze,zf,zg,zh,zi,zj,zk,zl,zm,zn,zo,zp,zq,zr,zs,zt,zu,zv,zw,zx,zy,zz,zA,zB,zC,zD,zE,zF,zG,zH,zI,zJ,zK,zL,zM,zN,zO,zP,zQ,zR,zS,zT,zU,zV,zW,zX,zY,zZ,z_,g7,g8,g9,ga,gb,gc,gd,ge,gf,gg,gh,gi,gj,gk,gl,gm,gn,q1,q2,q3,q4,q5,q6,q7,q8,q9,qa,qc,qd,qe,qf,qg,qh,qj,qk,ql,qm,qo,qp,qq,qr,qs,qt,qu,qv,qw,qx,qz,qA,qB,qC,qD,qE,qF,qG,qH,qI,qK,qL,qM,qN,qO,qP,qQ,qR,qS,qT,qV,qW,qX,qY,qZ,q_,j0,j1,j2,j3,j5,j6,j7,j8,j9,ja,jb,jc,jd,je,jg,jh,ji,jj,jk,jl,jm,jn,jo,jp,jr,js,jt,ju,jv,jw,jx,jy,jz,jA,jC,jD,jE,jF,jG,jH,jI,jJ,jK,jL,jN,jO,jP,jQ,jR,jS,jT,jU,jV,jW,jY,jZ,j_,z0,z1],[]⟩ wr:=by
 have HQ:=h_ hQ;have hb1:=hp.broom.2.2;have hb2:=hp.eroom.2.2;clear hQ hp
 conv=>arg 2;whnf
 have k1:=HB.out.cell;have l1:=HB.out.lt;have t1:decide (di<=0)=true:=decide_eq_true (by omega)
 have t3:0 < (x.body.length:Int)+(x.els.length:Int):=by
  rcases Nat.eq_zero_or_pos (x.body.length+x.els.length) with h | h
  ·exact absurd ⟨List.length_eq_zero_iff.1 (by omega),List.length_eq_zero_iff.1 (by omega)⟩ hE
  ·omega
 have t2:decide (0 < (x.body.length:Int)+(x.els.length:Int))=true:=decide_eq_true t3;have t4:decide (0 < x.body.length+x.els.length)=true:=decide_eq_true (by omega);clear hE hd0 hdi;go_wp2_with fail
 (apply HQ.out true;exact (h_ (Below.refl _ _));exact fun h=>by cases h)
end
end Go.Proofs.YtnblmhfgmehnnaaGreatDoor
