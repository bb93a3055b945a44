/- Several texts as one. -/
import Derived.Test.YtnblmhfgmehnnaaGreatDoorPeMv
import Derived.Test.YtnblmhfgmehnnaaGreatDoorPeAY
import Derived.Test.YtnblmhfgmehnnaaGreatDoorPeAC
set_option maxRecDepth 100000
set_option maxHeartbeats 16000000
namespace Go.Proofs.YtnblmhfgmehnnaaGreatDoor
open Go.RowKit Go.Lib
attribute [local go_sem ↓] Go.wp_at_zero Go.wp_at_succ
def startsB (n:Nat):Code->Bool
 | .region id _ _=>id==n
 | .seq a _=>startsB n a
 | _=>false
def tailOf (n:Nat):Code->Option Code
 | .seq a b=>if startsB n a then some (.seq a b) else match tailOf n a with | some c=>some c | none=>tailOf n b
 | .cond _ a b=>match tailOf n a with | some c=>some c | none=>tailOf n b
 | .block _ b=>tailOf n b
 | .loop b=>tailOf n b
 | .rangeFunc _ _ a b=>match tailOf n a with | some c=>some c | none=>tailOf n b
 | .scope b=>tailOf n b
 | _=>none
noncomputable def tailS (n:Nat):Code:=(Tryz.f25.body.bind (tailOf n)).getD .skip
section
variable {w wr:World} {S:Nat->Prop} {n8:Nat} {x:Nd} {l:List Nd} {a:OA_} {c:Nat} {di qi:Int} {tp:Bool} {la:OA_} {lc:Nat} {ma:OA_} {mc:Nat} {sa:OA_} {sc:Nat} {aa:OA_} {ac:Nat} {ba:OA_} {bc:Nat} {ea:OA_} {ec:Nat} {d:Nat} {Q:Exit->Act->World->Prop} {u3 u4 u5 u6 u9 q0 qb qn qy qJ qU j4 jf jq jB jM jX z2 z3 z4 z5 z6 z7 z8 z9 za zb zc zd ze zf zg zh zi zj zk zl zm zn zo zp zq zr zs zt zu zv zw zx zy zz zA zB zC zD zE zF zG zH zI zJ zK zL zM zN zO zP zQ zR zS zT zU zV zW zX zY zZ z_ g0 g1 g2 g3 g4 g5 g6 g7 g8 g9 ga gb gc gd ge gf gg q1 q2 q3 q4 q5 q6 q7 q8 q9 qa qc qd qe qf qg qh qj qk ql qm qo qp qq qr qs qt qu qv qw qx qz qA qB qC qD qE qF qG qH qI qK qL qM qN qO qP qQ qR qS qT qV qW qX qY qZ q_ j0 j1 j2 j3 j5 j6 j7 j8 j9 ja jb jc jd je jg jh ji jj jk jl jm jn jo jp jr js jt ju jv jw jx jy jz jA jC jD jE jF jG jH jI jJ jK jL jN jO jP jQ jR jS jT jU jV jW jY jZ j_ z0 z1:Value}
theorem sd_tail (hp:PartsN w S la lc ma mc sa sc aa ac ba bc ea ec x) (hW:Hid (Below w.heap.size w wr)) (HB:Hid (Blk wr n8 70 #[.int .i64 x.kind,.string x.text,.int .i64 x.x.kind,.int .i64 x.x.val.kind,.bool x.x.val.bool,.int .i64 x.x.val.int,.string x.x.val.str,.slice la x.x.val.list.length lc,.slice ma x.x.val.map.length mc,.string x.x.name,.slice sa x.x.steps.length sc,.slice aa x.x.args.length ac,.string x.key,.string x.name,.slice ba x.body.length bc,.slice ea x.els.length ec])) (hdi:Hid (di=(d:Int))) (hd5:d<=5) (CB:(0 < d\/x.body=[])->∀ w2,Below w.heap.size w w2->Calls Tryz.prog 25 #[.slice ba x.body.length bc,.int .i64 (di - 1),.bool false] w2 (SoundI x.body (d - 1) False w2)) (CE:(0 < d\/x.els=[])->∀ w2,Below w.heap.size w w2->Calls Tryz.prog 25 #[.slice ea x.els.length ec,.int .i64 (di - 1),.bool false] w2 (SoundI x.els (d - 1) False w2))
  (hN:∀ (v9 gh gs gD gO gZ ka kl kw kH kS Q2 Qd Qj Qk Ql Qm Qn Qo Qp Qq Qr Qs Qt Qu Qv Qw Qx Qy Qz QA QB QC QD QE QF QG QH QI QJ QK QL QM QN QO QP QQ QR QS QT QU QV QW QX QY QZ Q_ J0 J1 J2 J3 J4 J5 J6 J7 J8 J9 Ja Jb Jc Jd Je Jf Jg Jh Ji Jj Jk Jl Jm Jn Jo Jp Jq Jr Js Jt Ju Jv Jw Jx gi gj gk gl gm gn go gp gq gr gt gu gv gw gx gy gz gA gB gC gE gF gG gH gI gJ gK gL gM gN gP gQ gR gS gT gU gV gW gX gY g_ k0 k1 k2 k3 k4 k5 k6 k7 k9 kb kc kd ke kf kg kh ki kj kk km kn ko kp kq kr ks kt ku kv kx ky kz kA kB kC kD kE kF kG kI kJ kK kL kM kN kO kP kQ kR kT kU kV kW kX kY kZ k_ Q0 Q1 Q3 Q4 Q5 Q6 Q7 Q8 Q9 Qa Qb Qc Qe Qf Qg Qh Qi:Value) (wx:World),Hid (Below wr.heap.size wr wx)->Q .ret ⟨#[.slice a l.length c,.int .i64 di,.bool tp,u3,u4,u5,.bool false,.int .i64 qi,.pointer (some ⟨n8,0,none⟩),v9,gh,gs,gD,gO,gZ,ka,kl,kw,kH,kS,Q2,Qd,Qj,Qk,Ql,Qm,Qn,Qo,Qp,Qq,Qr,Qs,Qt,Qu,Qv,Qw,Qx,Qy,Qz,QA,QB,QC,QD,QE,QF,QG,QH,QI,QJ,QK,QL,QM,QN,QO,QP,QQ,QR,QS,QT,QU,QV,QW,QX,QY,QZ,Q_,J0,J1,J2,J3,J4,J5,J6,J7,J8,J9,Ja,Jb,Jc,Jd,Je,Jf,Jg,Jh,Ji,Jj,Jk,Jl,Jm,Jn,Jo,Jp,Jq,Jr,Js,Jt,Ju,Jv,Jw,Jx,gi,gj,gk,gl,gm,gn,go,gp,gq,gr,gt,gu,gv,gw,gx,gy,gz,gA,gB,gC,gE,gF,gG,gH,gI,gJ,gK,gL,gM,gN,gP,gQ,gR,gS,gT,gU,gV,gW,gX,gY,g_,k0,k1,k2,k3,k4,k5,k6,k7,k9,kb,kc,kd,ke,kf,kg,kh,ki,kj,kk,km,kn,ko,kp,kq,kr,ks,kt,ku,kv,kx,ky,kz,kA,kB,kC,kD,kE,kF,kG,kI,kJ,kK,kL,kM,kN,kO,kP,kQ,kR,kT,kU,kV,kW,kX,kY,kZ,k_,Q0,Q1,Q3,Q4,Q5,Q6,Q7,Q8,Q9,Qa,Qb,Qc,Qe,Qf,Qg,Qh,Qi],[]⟩ wx)
  (hQ:∀ (v6 v9 gh gs gD gO gZ ka kl kw kH kS Q2 Qd Qj Qk Ql Qm Qn Qo Qp Qq Qr Qs Qt Qu Qv Qw Qx Qy Qz QA QB QC QD QE QF QG QH QI QJ QK QL QM QN QO QP QQ QR QS QT QU QV QW QX QY QZ Q_ J0 J1 J2 J3 J4 J5 J6 J7 J8 J9 Ja Jb Jc Jd Je Jf Jg Jh Ji Jj Jk Jl Jm Jn Jo Jp Jq Jr Js Jt Ju Jv Jw Jx gi gj gk gl gm gn go gp gq gr gt gu gv gw gx gy gz gA gB gC gE gF gG gH gI gJ gK gL gM gN gP gQ gR gS gT gU gV gW gX gY g_ k0 k1 k2 k3 k4 k5 k6 k7 k9 kb kc kd ke kf kg kh ki kj kk km kn ko kp kq kr ks kt ku kv kx ky kz kA kB kC kD kE kF kG kI kJ kK kL kM kN kO kP kQ kR kT kU kV kW kX kY kZ k_ Q0 Q1 Q3 Q4 Q5 Q6 Q7 Q8 Q9 Qa Qb Qc Qe Qf Qg Qh Qi:Value) (wx:World),Hid (Below wr.heap.size wr wx)->Hid (x.kind≠6->RightX 6 x.x/\FreeX x.x)->Hid (((x.body=[]/\x.els=[])\/0 < d)/\((∀ y ∈ x.body,SoundN (d - 1) False y)/\apartN x.body)/\(∀ y ∈ x.els,SoundN (d - 1) False y)/\apartN x.els)->Q .normal ⟨#[.slice a l.length c,.int .i64 di,.bool tp,u3,u4,u5,v6,.int .i64 qi,.pointer (some ⟨n8,0,none⟩),v9,gh,gs,gD,gO,gZ,ka,kl,kw,kH,kS,Q2,Qd,Qj,Qk,Ql,Qm,Qn,Qo,Qp,Qq,Qr,Qs,Qt,Qu,Qv,Qw,Qx,Qy,Qz,QA,QB,QC,QD,QE,QF,QG,QH,QI,QJ,QK,QL,QM,QN,QO,QP,QQ,QR,QS,QT,QU,QV,QW,QX,QY,QZ,Q_,J0,J1,J2,J3,J4,J5,J6,J7,J8,J9,Ja,Jb,Jc,Jd,Je,Jf,Jg,Jh,Ji,Jj,Jk,Jl,Jm,Jn,Jo,Jp,Jq,Jr,Js,Jt,Ju,Jv,Jw,Jx,gi,gj,gk,gl,gm,gn,go,gp,gq,gr,gt,gu,gv,gw,gx,gy,gz,gA,gB,gC,gE,gF,gG,gH,gI,gJ,gK,gL,gM,gN,gP,gQ,gR,gS,gT,gU,gV,gW,gX,gY,g_,k0,k1,k2,k3,k4,k5,k6,k7,k9,kb,kc,kd,ke,kf,kg,kh,ki,kj,kk,km,kn,ko,kp,kq,kr,ks,kt,ku,kv,kx,ky,kz,kA,kB,kC,kD,kE,kF,kG,kI,kJ,kK,kL,kM,kN,kO,kP,kQ,kR,kT,kU,kV,kW,kX,kY,kZ,k_,Q0,Q1,Q3,Q4,Q5,Q6,Q7,Q8,Q9,Qa,Qb,Qc,Qe,Qf,Qg,Qh,Qi],[]⟩ wx):
  Code.wp Tryz.prog (tailS 33) Q ⟨#[.slice a l.length c,.int .i64 di,.bool tp,u3,u4,u5,u6,.int .i64 qi,.pointer (some ⟨n8,0,none⟩),u9,q0,qb,qn,qy,qJ,qU,j4,jf,jq,jB,jM,jX,z2,z3,z4,z5,z6,z7,z8,z9,za,zb,zc,zd,ze,zf,zg,zh,zi,zj,zk,zl,zm,zn,zo,zp,zq,zr,zs,zt,zu,zv,zw,zx,zy,zz,zA,zB,zC,zD,zE,zF,zG,zH,zI,zJ,zK,zL,zM,zN,zO,zP,zQ,zR,zS,zT,zU,zV,zW,zX,zY,zZ,z_,g0,g1,g2,g3,g4,g5,g6,g7,g8,g9,ga,gb,gc,gd,ge,gf,gg,q1,q2,q3,q4,q5,q6,q7,q8,q9,qa,qc,qd,qe,qf,qg,qh,qj,qk,ql,qm,qo,qp,qq,qr,qs,qt,qu,qv,qw,qx,qz,qA,qB,qC,qD,qE,qF,qG,qH,qI,qK,qL,qM,qN,qO,qP,qQ,qR,qS,qT,qV,qW,qX,qY,qZ,q_,j0,j1,j2,j3,j5,j6,j7,j8,j9,ja,jb,jc,jd,je,jg,jh,ji,jj,jk,jl,jm,jn,jo,jp,jr,js,jt,ju,jv,jw,jx,jy,jz,jA,jC,jD,jE,jF,jG,jH,jI,jJ,jK,jL,jN,jO,jP,jQ,jR,jS,jT,jU,jV,jW,jY,jZ,j_,z0,z1],[]⟩ wr:=by
 have HNO:=h_ hN;have HYE:=h_ hQ;have HP:=h_ hp;have HCB:=h_ CB;have HCE:=h_ CE;clear hN hQ hp CB CE
 conv=>arg 2;whnf
 go_upto_region 33 with fail;have HB0:=h_ (Below.refl wr.heap.size wr)
 refine sd_33 HP.out hW HB (fun r1 _ _ _ _ _ _ _ _ wx1 hb1 hr1=>?_)
 have HB1:=h_ (Below.next HB0.out hb1.out);have HW1:=h_ (hW.out.trans (hb1.out.mono hW.out.size));have HA1:=h_ (HB.out.keep hb1.out)
 cases r1 with
 | true=>
  clear hr1;go_wp2_with fail
  apply HNO.out;exact HB1
 | false=>
  have F1:=h_ (hr1 rfl);clear hr1 hb1;go_upto_region 35 with fail
  by_cases hdp:0 < d
  ·refine sd_35a HP.out HW1 HA1 hdi.out hd5 hdp HCB.out HCE.out (fun r2 _ _ _ _ _ _ _ _ _ _ _ _ _ _ _ _ _ _ _ _ _ _ _ _ _ _ _ wx2 hb2 hr2=>?_)
   have HB2:=h_ (Below.next HB1.out hb2.out);have HW2:=h_ (HW1.out.trans (hb2.out.mono HW1.out.size));have HA2:=h_ (HA1.out.keep hb2.out)
   cases r2 with
   | true=>
    clear hr2;go_wp2_with fail
    apply HNO.out;exact HB2
   | false=>
    have F2:=h_ (hr2 rfl);clear hr2 hb2;go_wp2_with fail
    apply HYE.out;exact HB2;exact F1;exact F2
  ·have hd00:d=0:=by omega
   by_cases hE:x.body=[]/\x.els=[]
   ·refine sd_35b HP.out HW1 HA1 hdi.out hE hd00 HCB.out HCE.out (fun r3 _ _ _ _ _ _ _ _ _ _ _ _ _ _ _ _ _ _ _ _ _ _ _ _ _ _ _ wx3 hb3 hr3=>?_)
    have HB3:=h_ (Below.next HB1.out hb3.out);have HW3:=h_ (HW1.out.trans (hb3.out.mono HW1.out.size));have HA3:=h_ (HA1.out.keep hb3.out)
    cases r3 with
    | true=>
     clear hr3;go_wp2_with fail
     apply HNO.out;exact HB3
    | false=>
     have F3:=h_ (hr3 rfl);clear hr3 hb3;go_wp2_with fail
     apply HYE.out;exact HB3;exact F1;exact F3
   ·refine sd_35c HP.out HA1 hdi.out hE hd00 (fun r4 _ _ _ _ _ _ _ _ _ _ _ _ _ _ _ _ _ _ _ _ _ _ _ _ _ _ _ wx4 hb4 hr4=>?_)
    have HB4:=h_ (Below.next HB1.out hb4.out);have HW4:=h_ (HW1.out.trans (hb4.out.mono HW1.out.size));have HA4:=h_ (HA1.out.keep hb4.out)
    cases r4 with
    | true=>
     clear hr4;go_wp2_with fail
     apply HNO.out;exact HB4
    | false=>
     have F4:=h_ (hr4 rfl);clear hr4 hb4;go_wp2_with fail
     apply HYE.out;exact HB4;exact F1;exact F4
end
section
variable {w wr:World} {S:Nat->Prop} {n8:Nat} {x:Nd} {l:List Nd} {a:OA_} {c:Nat} {di qi:Int} {tp:Bool} {la:OA_} {lc:Nat} {ma:OA_} {mc:Nat} {sa:OA_} {sc:Nat} {aa:OA_} {ac:Nat} {ba:OA_} {bc:Nat} {ea:OA_} {ec:Nat} {d:Nat} {Q:Exit->Act->World->Prop} {u3 u4 u5 u6 u9 q0 qb qn qy qJ qU j4 jf jq jB jM jX z2 z3 z4 z5 z6 z7 z8 z9 za zb zc zd ze zf zg zh zi zj zk zl zm zn zo zp zq zr zs zt zu zv zw zx zy zz zA zB zC zD zE zF zG zH zI zJ zK zL zM zN zO zP zQ zR zS zT zU zV zW zX zY zZ z_ g0 g1 g2 g3 g4 g5 g6 g7 g8 g9 ga gb gc gd ge gf gg q1 q2 q3 q4 q5 q6 q7 q8 q9 qa qc qd qe qf qg qh qj qk ql qm qo qp qq qr qs qt qu qv qw qx qz qA qB qC qD qE qF qG qH qI qK qL qM qN qO qP qQ qR qS qT qV qW qX qY qZ q_ j0 j1 j2 j3 j5 j6 j7 j8 j9 ja jb jc jd je jg jh ji jj jk jl jm jn jo jp jr js jt ju jv jw jx jy jz jA jC jD jE jF jG jH jI jJ jK jL jN jO jP jQ jR jS jT jU jV jW jY jZ j_ z0 z1:Value}
theorem sd_k123 (hp:PartsN w S la lc ma mc sa sc aa ac ba bc ea ec x) (hW:Hid (Below w.heap.size w wr)) (HB:Hid (Blk wr n8 70 #[.int .i64 x.kind,.string x.text,.int .i64 x.x.kind,.int .i64 x.x.val.kind,.bool x.x.val.bool,.int .i64 x.x.val.int,.string x.x.val.str,.slice la x.x.val.list.length lc,.slice ma x.x.val.map.length mc,.string x.x.name,.slice sa x.x.steps.length sc,.slice aa x.x.args.length ac,.string x.key,.string x.name,.slice ba x.body.length bc,.slice ea x.els.length ec])) (hdi:Hid (di=(d:Int))) (hd5:d<=5) (CB:(0 < d\/x.body=[])->∀ w2,Below w.heap.size w w2->Calls Tryz.prog 25 #[.slice ba x.body.length bc,.int .i64 (di - 1),.bool false] w2 (SoundI x.body (d - 1) False w2)) (CE:(0 < d\/x.els=[])->∀ w2,Below w.heap.size w w2->Calls Tryz.prog 25 #[.slice ea x.els.length ec,.int .i64 (di - 1),.bool false] w2 (SoundI x.els (d - 1) False w2)) (h5:Hid ((x.kind≠0->x.text=⟨#[]⟩)/\(x.kind≠4->x.key=⟨#[]⟩)/\(x.kind < 2\/x.kind=5->x.body=[])/\(x.kind < 2\/4 < x.kind->x.els=[]))) (hk:x.kind=1\/x.kind=2\/x.kind=3)
  (hN:∀ (v9 gh gs gD gO gZ ka kl kw kH kS Q2 Qd Qj Qk Ql Qm Qn Qo Qp Qq Qr Qs Qt Qu Qv Qw Qx Qy Qz QA QB QC QD QE QF QG QH QI QJ QK QL QM QN QO QP QQ QR QS QT QU QV QW QX QY QZ Q_ J0 J1 J2 J3 J4 J5 J6 J7 J8 J9 Ja Jb Jc Jd Je Jf Jg Jh Ji Jj Jk Jl Jm Jn Jo Jp Jq Jr Js Jt Ju Jv Jw Jx gi gj gk gl gm gn go gp gq gr gt gu gv gw gx gy gz gA gB gC gE gF gG gH gI gJ gK gL gM gN gP gQ gR gS gT gU gV gW gX gY g_ k0 k1 k2 k3 k4 k5 k6 k7 k9 kb kc kd ke kf kg kh ki kj kk km kn ko kp kq kr ks kt ku kv kx ky kz kA kB kC kD kE kF kG kI kJ kK kL kM kN kO kP kQ kR kT kU kV kW kX kY kZ k_ Q0 Q1 Q3 Q4 Q5 Q6 Q7 Q8 Q9 Qa Qb Qc Qe Qf Qg Qh Qi:Value) (wx:World),Hid (Below wr.heap.size wr wx)->Q .ret ⟨#[.slice a l.length c,.int .i64 di,.bool tp,u3,u4,u5,.bool false,.int .i64 qi,.pointer (some ⟨n8,0,none⟩),v9,gh,gs,gD,gO,gZ,ka,kl,kw,kH,kS,Q2,Qd,Qj,Qk,Ql,Qm,Qn,Qo,Qp,Qq,Qr,Qs,Qt,Qu,Qv,Qw,Qx,Qy,Qz,QA,QB,QC,QD,QE,QF,QG,QH,QI,QJ,QK,QL,QM,QN,QO,QP,QQ,QR,QS,QT,QU,QV,QW,QX,QY,QZ,Q_,J0,J1,J2,J3,J4,J5,J6,J7,J8,J9,Ja,Jb,Jc,Jd,Je,Jf,Jg,Jh,Ji,Jj,Jk,Jl,Jm,Jn,Jo,Jp,Jq,Jr,Js,Jt,Ju,Jv,Jw,Jx,gi,gj,gk,gl,gm,gn,go,gp,gq,gr,gt,gu,gv,gw,gx,gy,gz,gA,gB,gC,gE,gF,gG,gH,gI,gJ,gK,gL,gM,gN,gP,gQ,gR,gS,gT,gU,gV,gW,gX,gY,g_,k0,k1,k2,k3,k4,k5,k6,k7,k9,kb,kc,kd,ke,kf,kg,kh,ki,kj,kk,km,kn,ko,kp,kq,kr,ks,kt,ku,kv,kx,ky,kz,kA,kB,kC,kD,kE,kF,kG,kI,kJ,kK,kL,kM,kN,kO,kP,kQ,kR,kT,kU,kV,kW,kX,kY,kZ,k_,Q0,Q1,Q3,Q4,Q5,Q6,Q7,Q8,Q9,Qa,Qb,Qc,Qe,Qf,Qg,Qh,Qi],[]⟩ wx)
  (hQ:∀ (v6 v9 gh gs gD gO gZ ka kl kw kH kS Q2 Qd Qj Qk Ql Qm Qn Qo Qp Qq Qr Qs Qt Qu Qv Qw Qx Qy Qz QA QB QC QD QE QF QG QH QI QJ QK QL QM QN QO QP QQ QR QS QT QU QV QW QX QY QZ Q_ J0 J1 J2 J3 J4 J5 J6 J7 J8 J9 Ja Jb Jc Jd Je Jf Jg Jh Ji Jj Jk Jl Jm Jn Jo Jp Jq Jr Js Jt Ju Jv Jw Jx gi gj gk gl gm gn go gp gq gr gt gu gv gw gx gy gz gA gB gC gE gF gG gH gI gJ gK gL gM gN gP gQ gR gS gT gU gV gW gX gY g_ k0 k1 k2 k3 k4 k5 k6 k7 k9 kb kc kd ke kf kg kh ki kj kk km kn ko kp kq kr ks kt ku kv kx ky kz kA kB kC kD kE kF kG kI kJ kK kL kM kN kO kP kQ kR kT kU kV kW kX kY kZ k_ Q0 Q1 Q3 Q4 Q5 Q6 Q7 Q8 Q9 Qa Qb Qc Qe Qf Qg Qh Qi:Value) (wx:World),Hid (Below wr.heap.size wr wx)->Hid (SoundN d (tp=true) x)->Q .normal ⟨#[.slice a l.length c,.int .i64 di,.bool tp,u3,u4,u5,v6,.int .i64 qi,.pointer (some ⟨n8,0,none⟩),v9,gh,gs,gD,gO,gZ,ka,kl,kw,kH,kS,Q2,Qd,Qj,Qk,Ql,Qm,Qn,Qo,Qp,Qq,Qr,Qs,Qt,Qu,Qv,Qw,Qx,Qy,Qz,QA,QB,QC,QD,QE,QF,QG,QH,QI,QJ,QK,QL,QM,QN,QO,QP,QQ,QR,QS,QT,QU,QV,QW,QX,QY,QZ,Q_,J0,J1,J2,J3,J4,J5,J6,J7,J8,J9,Ja,Jb,Jc,Jd,Je,Jf,Jg,Jh,Ji,Jj,Jk,Jl,Jm,Jn,Jo,Jp,Jq,Jr,Js,Jt,Ju,Jv,Jw,Jx,gi,gj,gk,gl,gm,gn,go,gp,gq,gr,gt,gu,gv,gw,gx,gy,gz,gA,gB,gC,gE,gF,gG,gH,gI,gJ,gK,gL,gM,gN,gP,gQ,gR,gS,gT,gU,gV,gW,gX,gY,g_,k0,k1,k2,k3,k4,k5,k6,k7,k9,kb,kc,kd,ke,kf,kg,kh,ki,kj,kk,km,kn,ko,kp,kq,kr,ks,kt,ku,kv,kx,ky,kz,kA,kB,kC,kD,kE,kF,kG,kI,kJ,kK,kL,kM,kN,kO,kP,kQ,kR,kT,kU,kV,kW,kX,kY,kZ,k_,Q0,Q1,Q3,Q4,Q5,Q6,Q7,Q8,Q9,Qa,Qb,Qc,Qe,Qf,Qg,Qh,Qi],[]⟩ wx):
  Code.wp Tryz.prog (tailS 7) Q ⟨#[.slice a l.length c,.int .i64 di,.bool tp,u3,u4,u5,u6,.int .i64 qi,.pointer (some ⟨n8,0,none⟩),u9,q0,qb,qn,qy,qJ,qU,j4,jf,jq,jB,jM,jX,z2,z3,z4,z5,z6,z7,z8,z9,za,zb,zc,zd,ze,zf,zg,zh,zi,zj,zk,zl,zm,zn,zo,zp,zq,zr,zs,zt,zu,zv,zw,zx,zy,zz,zA,zB,zC,zD,zE,zF,zG,zH,zI,zJ,zK,zL,zM,zN,zO,zP,zQ,zR,zS,zT,zU,zV,zW,zX,zY,zZ,z_,g0,g1,g2,g3,g4,g5,g6,g7,g8,g9,ga,gb,gc,gd,ge,gf,gg,q1,q2,q3,q4,q5,q6,q7,q8,q9,qa,qc,qd,qe,qf,qg,qh,qj,qk,ql,qm,qo,qp,qq,qr,qs,qt,qu,qv,qw,qx,qz,qA,qB,qC,qD,qE,qF,qG,qH,qI,qK,qL,qM,qN,qO,qP,qQ,qR,qS,qT,qV,qW,qX,qY,qZ,q_,j0,j1,j2,j3,j5,j6,j7,j8,j9,ja,jb,jc,jd,je,jg,jh,ji,jj,jk,jl,jm,jn,jo,jp,jr,js,jt,ju,jv,jw,jx,jy,jz,jA,jC,jD,jE,jF,jG,jH,jI,jJ,jK,jL,jN,jO,jP,jQ,jR,jS,jT,jU,jV,jW,jY,jZ,j_,z0,z1],[]⟩ wr:=by
 have HNO:=h_ hN;have HP:=h_ hp;have HCB:=h_ CB;have HCE:=h_ CE;clear hN hp CB CE
 conv=>arg 2;whnf
 refine wp_seq_cut (fun K7 hK7=>?_)
 have k8:=HB.out.cell;have l8:=HB.out.lt;have hnm:=HP.out.name;have hsz:=HP.out.text;have HYE:=h_ hQ;clear hQ
 rcases hk with hk | hk | hk
 all_goals have gk0:(x.kind==0)=false:=bf_ (by omega)
 all_goals first | have gk1:(x.kind==1)=true:=(by rw [hk];rfl) | have gk1:(x.kind==1)=false:=bf_ (by omega)
 all_goals first | have gk2:(x.kind==2)=true:=(by rw [hk];rfl) | have gk2:(x.kind==2)=false:=bf_ (by omega)
 all_goals first | have gk3:(x.kind==3)=true:=(by rw [hk];rfl) | have gk3:(x.kind==3)=false:=bf_ (by omega)
 all_goals have HK:=h_ hk
 all_goals clear hk
 all_goals (
  by_cases hn:x.name.toList=[]
  case neg=>(have hn2:(x.name.toList==[])=false:=bf_ hn;have hn3:x.name.toList.isEmpty=false:=(by simpa using hn);go_wp2_with fail;apply HNO.out;exact h_ (Below.refl _ _))
  have HNE:=h_ (emptyB hn)
  have hn2:(x.name.toList==[])=true:=by rw [hn];rfl
  have hn3:x.name.toList.isEmpty=true:=by rw [hn];rfl
  clear hn;go_wp2_with fail
  refine hK7.out _ _ ?_
  clear hK7 K7
  exact sd_tail HP.out hW HB hdi hd5 HCB.out HCE.out (by intros;rename_i wx hb;apply HNO.out;exact hb) (by intros;rename_i wx hb h33 h35;apply HYE.out;exact hb;exact h_ (.mk d _ x (⟨by have:=HK.out;omega,h5.out.1,h5.out.2.1,h5.out.2.2.1,h5.out.2.2.2,fun h9=>absurd h9 (by have:=HK.out;omega),fun _=>HNE.out,fun h9=>absurd h9 (by have:=HK.out;omega),fun h9=>absurd h9 (by have:=HK.out;omega),fun h9=>absurd h9 (by have:=HK.out;omega),fun _ h6=>h33.out h6⟩:OwnN (tp=true) x) h35.out.1 h35.out.2.1.1 h35.out.2.1.2 h35.out.2.2.1 h35.out.2.2.2)))
theorem sd_kn (hp:PartsN w S la lc ma mc sa sc aa ac ba bc ea ec x) (hW:Hid (Below w.heap.size w wr)) (HB:Hid (Blk wr n8 70 #[.int .i64 x.kind,.string x.text,.int .i64 x.x.kind,.int .i64 x.x.val.kind,.bool x.x.val.bool,.int .i64 x.x.val.int,.string x.x.val.str,.slice la x.x.val.list.length lc,.slice ma x.x.val.map.length mc,.string x.x.name,.slice sa x.x.steps.length sc,.slice aa x.x.args.length ac,.string x.key,.string x.name,.slice ba x.body.length bc,.slice ea x.els.length ec])) (hdi:Hid (di=(d:Int))) (hd5:d<=5) (CB:(0 < d\/x.body=[])->∀ w2,Below w.heap.size w w2->Calls Tryz.prog 25 #[.slice ba x.body.length bc,.int .i64 (di - 1),.bool false] w2 (SoundI x.body (d - 1) False w2)) (CE:(0 < d\/x.els=[])->∀ w2,Below w.heap.size w w2->Calls Tryz.prog 25 #[.slice ea x.els.length ec,.int .i64 (di - 1),.bool false] w2 (SoundI x.els (d - 1) False w2)) (h5:Hid ((x.kind≠0->x.text=⟨#[]⟩)/\(x.kind≠4->x.key=⟨#[]⟩)/\(x.kind < 2\/x.kind=5->x.body=[])/\(x.kind < 2\/4 < x.kind->x.els=[]))) (hk:x.kind < 0\/6 < x.kind)
  (hN:∀ (v9 gh gs gD gO gZ ka kl kw kH kS Q2 Qd Qj Qk Ql Qm Qn Qo Qp Qq Qr Qs Qt Qu Qv Qw Qx Qy Qz QA QB QC QD QE QF QG QH QI QJ QK QL QM QN QO QP QQ QR QS QT QU QV QW QX QY QZ Q_ J0 J1 J2 J3 J4 J5 J6 J7 J8 J9 Ja Jb Jc Jd Je Jf Jg Jh Ji Jj Jk Jl Jm Jn Jo Jp Jq Jr Js Jt Ju Jv Jw Jx gi gj gk gl gm gn go gp gq gr gt gu gv gw gx gy gz gA gB gC gE gF gG gH gI gJ gK gL gM gN gP gQ gR gS gT gU gV gW gX gY g_ k0 k1 k2 k3 k4 k5 k6 k7 k9 kb kc kd ke kf kg kh ki kj kk km kn ko kp kq kr ks kt ku kv kx ky kz kA kB kC kD kE kF kG kI kJ kK kL kM kN kO kP kQ kR kT kU kV kW kX kY kZ k_ Q0 Q1 Q3 Q4 Q5 Q6 Q7 Q8 Q9 Qa Qb Qc Qe Qf Qg Qh Qi:Value) (wx:World),Hid (Below wr.heap.size wr wx)->Q .ret ⟨#[.slice a l.length c,.int .i64 di,.bool tp,u3,u4,u5,.bool false,.int .i64 qi,.pointer (some ⟨n8,0,none⟩),v9,gh,gs,gD,gO,gZ,ka,kl,kw,kH,kS,Q2,Qd,Qj,Qk,Ql,Qm,Qn,Qo,Qp,Qq,Qr,Qs,Qt,Qu,Qv,Qw,Qx,Qy,Qz,QA,QB,QC,QD,QE,QF,QG,QH,QI,QJ,QK,QL,QM,QN,QO,QP,QQ,QR,QS,QT,QU,QV,QW,QX,QY,QZ,Q_,J0,J1,J2,J3,J4,J5,J6,J7,J8,J9,Ja,Jb,Jc,Jd,Je,Jf,Jg,Jh,Ji,Jj,Jk,Jl,Jm,Jn,Jo,Jp,Jq,Jr,Js,Jt,Ju,Jv,Jw,Jx,gi,gj,gk,gl,gm,gn,go,gp,gq,gr,gt,gu,gv,gw,gx,gy,gz,gA,gB,gC,gE,gF,gG,gH,gI,gJ,gK,gL,gM,gN,gP,gQ,gR,gS,gT,gU,gV,gW,gX,gY,g_,k0,k1,k2,k3,k4,k5,k6,k7,k9,kb,kc,kd,ke,kf,kg,kh,ki,kj,kk,km,kn,ko,kp,kq,kr,ks,kt,ku,kv,kx,ky,kz,kA,kB,kC,kD,kE,kF,kG,kI,kJ,kK,kL,kM,kN,kO,kP,kQ,kR,kT,kU,kV,kW,kX,kY,kZ,k_,Q0,Q1,Q3,Q4,Q5,Q6,Q7,Q8,Q9,Qa,Qb,Qc,Qe,Qf,Qg,Qh,Qi],[]⟩ wx):
  Code.wp Tryz.prog (tailS 7) Q ⟨#[.slice a l.length c,.int .i64 di,.bool tp,u3,u4,u5,u6,.int .i64 qi,.pointer (some ⟨n8,0,none⟩),u9,q0,qb,qn,qy,qJ,qU,j4,jf,jq,jB,jM,jX,z2,z3,z4,z5,z6,z7,z8,z9,za,zb,zc,zd,ze,zf,zg,zh,zi,zj,zk,zl,zm,zn,zo,zp,zq,zr,zs,zt,zu,zv,zw,zx,zy,zz,zA,zB,zC,zD,zE,zF,zG,zH,zI,zJ,zK,zL,zM,zN,zO,zP,zQ,zR,zS,zT,zU,zV,zW,zX,zY,zZ,z_,g0,g1,g2,g3,g4,g5,g6,g7,g8,g9,ga,gb,gc,gd,ge,gf,gg,q1,q2,q3,q4,q5,q6,q7,q8,q9,qa,qc,qd,qe,qf,qg,qh,qj,qk,ql,qm,qo,qp,qq,qr,qs,qt,qu,qv,qw,qx,qz,qA,qB,qC,qD,qE,qF,qG,qH,qI,qK,qL,qM,qN,qO,qP,qQ,qR,qS,qT,qV,qW,qX,qY,qZ,q_,j0,j1,j2,j3,j5,j6,j7,j8,j9,ja,jb,jc,jd,je,jg,jh,ji,jj,jk,jl,jm,jn,jo,jp,jr,js,jt,ju,jv,jw,jx,jy,jz,jA,jC,jD,jE,jF,jG,jH,jI,jJ,jK,jL,jN,jO,jP,jQ,jR,jS,jT,jU,jV,jW,jY,jZ,j_,z0,z1],[]⟩ wr:=by
 have HNO:=h_ hN;have HP:=h_ hp;have HCB:=h_ CB;have HCE:=h_ CE;clear hN hp CB CE
 conv=>arg 2;whnf
 refine wp_seq_cut (fun K7 hK7=>?_)
 have k8:=HB.out.cell;have l8:=HB.out.lt;have hnm:=HP.out.name;have hsz:=HP.out.text;have _:=hW;have _:=hdi;have _:=hd5;have _:=h5;have gk0:(x.kind==0)=false:=bf_ (by omega);have gk1:(x.kind==1)=false:=bf_ (by omega);have gk2:(x.kind==2)=false:=bf_ (by omega);have gk3:(x.kind==3)=false:=bf_ (by omega);have gk4:(x.kind==4)=false:=bf_ (by omega);have gk5:(x.kind==5)=false:=bf_ (by omega);have gk6:(x.kind==6)=false:=bf_ (by omega);have HK:=h_ hk;clear hk;go_wp2_with fail
 apply HNO.out;exact h_ (Below.refl _ _)
end
end Go.Proofs.YtnblmhfgmehnnaaGreatDoor
