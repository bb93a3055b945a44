/- Several texts as one. -/
import Derived.Test.YtnblmhfgmehnnaaGreatDoorPeFo
import Derived.Test.YtnblmhfgmehnnaaGreatDoorPeMv
import Derived.Test.YtnblmhfgmehnnaaGreatDoorPeBC
import Derived.Test.YtnblmhfgmehnnaaGreatDoorPeAV
import Derived.Test.YtnblmhfgmehnnaaGreatDoorPeAT
import Derived.Test.YtnblmhfgmehnnaaGreatDoorPeAU
import Derived.Test.YtnblmhfgmehnnaaGreatDoorPeAS
import Derived.Test.YtnblmhfgmehnnaaGreatDoorPeAX
import Derived.Test.YtnblmhfgmehnnaaGreatDoorPeAB
import Derived.Test.YtnblmhfgmehnnaaGreatDoorCards
import Derived.Test.YtnblmhfgmehnnaaGreatDoorTie
import Derived.HandedShaped
import Derived.Lay
import Derived.LaidOnce
import Derived.SevenTiedAt
import Derived.Shelf.Vars
import Derived.Test.YtnblmhfgmehnnaaGreatDoorPeAM
import Derived.ProofKit
import Derived.LaidMore
import Derived.OpenShut
import Derived.Stop.Joined
set_option maxRecDepth 100000
set_option maxHeartbeats 16000000
namespace Go.Proofs.YtnblmhfgmehnnaaGreatDoor
open Go.RowKit Go.Lib
attribute [local go_sem ↓] Go.wp_at_zero Go.wp_at_succ
section
variable {w wr:World} {S:Nat->Prop} {n8:Nat} {x:Nd} {l:List Nd} {a:OA_} {c:Nat} {di qi:Int} {tp:Bool} {la:OA_} {lc:Nat} {ma:OA_} {mc:Nat} {sa:OA_} {sc:Nat} {aa:OA_} {ac:Nat} {ba:OA_} {bc:Nat} {ea:OA_} {ec:Nat} {d:Nat} {Q:Exit->Act->World->Prop} {u3 u4 u5 u6 u9 q0 qb qn qy qJ qU j4 jf jq jB jM jX z2 z3 z4 z5 z6 z7 z8 z9 za zb zc zd ze zf zg zh zi zj zk zl zm zn zo zp zq zr zs zt zu zv zw zx zy zz zA zB zC zD zE zF zG zH zI zJ zK zL zM zN zO zP zQ zR zS zT zU zV zW zX zY zZ z_ g5 g6 g7 g8 g9 ga gb gc gd ge gf gg gh gi gj gk gl q1 q2 q3 q4 q5 q6 q7 q8 q9 qa qc qd qe qf qg qh qj qk ql qm qo qp qq qr qs qt qu qv qw qx qz qA qB qC qD qE qF qG qH qI qK qL qM qN qO qP qQ qR qS qT qV qW qX qY qZ q_ j0 j1 j2 j3 j5 j6 j7 j8 j9 ja jb jc jd je jg jh ji jj jk jl jm jn jo jp jr js jt ju jv jw jx jy jz jA jC jD jE jF jG jH jI jJ jK jL jN jO jP jQ jR jS jT jU jV jW jY jZ j_ z0 z1:Value}
theorem sd_k4 (hp:PartsN w S la lc ma mc sa sc aa ac ba bc ea ec x) (hW:Hid (Below w.heap.size w wr)) (HB:Hid (Blk wr n8 70 #[.int .i64 x.kind,.string x.text,.int .i64 x.x.kind,.int .i64 x.x.val.kind,.bool x.x.val.bool,.int .i64 x.x.val.int,.string x.x.val.str,.slice la x.x.val.list.length lc,.slice ma x.x.val.map.length mc,.string x.x.name,.slice sa x.x.steps.length sc,.slice aa x.x.args.length ac,.string x.key,.string x.name,.slice ba x.body.length bc,.slice ea x.els.length ec])) (hdi:Hid (di=(d:Int))) (hd5:d<=5) (CB:(0 < d\/x.body=[])->∀ w2,Below w.heap.size w w2->Calls Tryz.prog 25 #[.slice ba x.body.length bc,.int .i64 (di - 1),.bool false] w2 (SoundI x.body (d - 1) False w2)) (CE:(0 < d\/x.els=[])->∀ w2,Below w.heap.size w w2->Calls Tryz.prog 25 #[.slice ea x.els.length ec,.int .i64 (di - 1),.bool false] w2 (SoundI x.els (d - 1) False w2)) (h5:Hid ((x.kind≠0->x.text=⟨#[]⟩)/\(x.kind≠4->x.key=⟨#[]⟩)/\(x.kind < 2\/x.kind=5->x.body=[])/\(x.kind < 2\/4 < x.kind->x.els=[]))) (hk:x.kind=4)
  (hN:∀ (v9 gm gz gK gV kc kn kz kK kV Q5 Qg Qr Qx Qy Qz QA QB QC QD QE QF QG QH QI QJ QK QL QM QN QO QP QQ QR QS QT QU QV QW QX QY QZ Q_ J0 J1 J2 J3 J4 J5 J6 J7 J8 J9 Ja Jb Jc Jd Je Jf Jg Jh Ji Jj Jk Jl Jm Jn Jo Jp Jq Jr Js Jt Ju Jv Jw Jx Jy Jz JA JB JC JD JE JF JG JH JI JJ JK JL gn gp gq gr gt gu gv gw gx gy gA gB gC gD gE gF gG gH gI gJ gL gM gN gO gP gQ gR gS gT gU gW gX gY gZ g_ k2 k3 k9 ka kb kd ke kf kg kh ki kj kk kl km ko kp kq kr ks kt ku kv kw kx kA kB kC kD kE kF kG kH kI kJ kL kM kN kO kP kQ kR kS kT kU kW kX kY kZ k_ Q0 Q1 Q2 Q3 Q4 Q6 Q7 Q8 Q9 Qa Qb Qc Qd Qe Qf Qh Qi Qj Qk Ql Qm Qn Qo Qp Qq Qs Qt Qu Qv Qw:Value) (wx:World),Hid (Below wr.heap.size wr wx)->Q .ret ⟨#[.slice a l.length c,.int .i64 di,.bool tp,u3,u4,u5,.bool false,.int .i64 qi,.pointer (some ⟨n8,0,none⟩),v9,gm,gz,gK,gV,kc,kn,kz,kK,kV,Q5,Qg,Qr,Qx,Qy,Qz,QA,QB,QC,QD,QE,QF,QG,QH,QI,QJ,QK,QL,QM,QN,QO,QP,QQ,QR,QS,QT,QU,QV,QW,QX,QY,QZ,Q_,J0,J1,J2,J3,J4,J5,J6,J7,J8,J9,Ja,Jb,Jc,Jd,Je,Jf,Jg,Jh,Ji,Jj,Jk,Jl,Jm,Jn,Jo,Jp,Jq,Jr,Js,Jt,Ju,Jv,Jw,Jx,Jy,Jz,JA,JB,JC,JD,JE,JF,JG,JH,JI,JJ,JK,JL,gn,gp,gq,gr,gt,gu,gv,gw,gx,gy,gA,gB,gC,gD,gE,gF,gG,gH,gI,gJ,gL,gM,gN,gO,gP,gQ,gR,gS,gT,gU,gW,gX,gY,gZ,g_,k2,k3,k9,ka,kb,kd,ke,kf,kg,kh,ki,kj,kk,kl,km,ko,kp,kq,kr,ks,kt,ku,kv,kw,kx,kA,kB,kC,kD,kE,kF,kG,kH,kI,kJ,kL,kM,kN,kO,kP,kQ,kR,kS,kT,kU,kW,kX,kY,kZ,k_,Q0,Q1,Q2,Q3,Q4,Q6,Q7,Q8,Q9,Qa,Qb,Qc,Qd,Qe,Qf,Qh,Qi,Qj,Qk,Ql,Qm,Qn,Qo,Qp,Qq,Qs,Qt,Qu,Qv,Qw],[]⟩ wx)
  (hQ:∀ (v6 v9 gm gz gK gV kc kn kz kK kV Q5 Qg Qr Qx Qy Qz QA QB QC QD QE QF QG QH QI QJ QK QL QM QN QO QP QQ QR QS QT QU QV QW QX QY QZ Q_ J0 J1 J2 J3 J4 J5 J6 J7 J8 J9 Ja Jb Jc Jd Je Jf Jg Jh Ji Jj Jk Jl Jm Jn Jo Jp Jq Jr Js Jt Ju Jv Jw Jx Jy Jz JA JB JC JD JE JF JG JH JI JJ JK JL gn gp gq gr gt gu gv gw gx gy gA gB gC gD gE gF gG gH gI gJ gL gM gN gO gP gQ gR gS gT gU gW gX gY gZ g_ k2 k3 k9 ka kb kd ke kf kg kh ki kj kk kl km ko kp kq kr ks kt ku kv kw kx kA kB kC kD kE kF kG kH kI kJ kL kM kN kO kP kQ kR kS kT kU kW kX kY kZ k_ Q0 Q1 Q2 Q3 Q4 Q6 Q7 Q8 Q9 Qa Qb Qc Qd Qe Qf Qh Qi Qj Qk Ql Qm Qn Qo Qp Qq Qs Qt Qu Qv Qw:Value) (wx:World),Hid (Below wr.heap.size wr wx)->Hid (SoundN d (tp=true) x)->Q .normal ⟨#[.slice a l.length c,.int .i64 di,.bool tp,u3,u4,u5,v6,.int .i64 qi,.pointer (some ⟨n8,0,none⟩),v9,gm,gz,gK,gV,kc,kn,kz,kK,kV,Q5,Qg,Qr,Qx,Qy,Qz,QA,QB,QC,QD,QE,QF,QG,QH,QI,QJ,QK,QL,QM,QN,QO,QP,QQ,QR,QS,QT,QU,QV,QW,QX,QY,QZ,Q_,J0,J1,J2,J3,J4,J5,J6,J7,J8,J9,Ja,Jb,Jc,Jd,Je,Jf,Jg,Jh,Ji,Jj,Jk,Jl,Jm,Jn,Jo,Jp,Jq,Jr,Js,Jt,Ju,Jv,Jw,Jx,Jy,Jz,JA,JB,JC,JD,JE,JF,JG,JH,JI,JJ,JK,JL,gn,gp,gq,gr,gt,gu,gv,gw,gx,gy,gA,gB,gC,gD,gE,gF,gG,gH,gI,gJ,gL,gM,gN,gO,gP,gQ,gR,gS,gT,gU,gW,gX,gY,gZ,g_,k2,k3,k9,ka,kb,kd,ke,kf,kg,kh,ki,kj,kk,kl,km,ko,kp,kq,kr,ks,kt,ku,kv,kw,kx,kA,kB,kC,kD,kE,kF,kG,kH,kI,kJ,kL,kM,kN,kO,kP,kQ,kR,kS,kT,kU,kW,kX,kY,kZ,k_,Q0,Q1,Q2,Q3,Q4,Q6,Q7,Q8,Q9,Qa,Qb,Qc,Qd,Qe,Qf,Qh,Qi,Qj,Qk,Ql,Qm,Qn,Qo,Qp,Qq,Qs,Qt,Qu,Qv,Qw],[]⟩ wx):
  Code.wp Tryz.prog (tailS 7) Q ⟨#[.slice a l.length c,.int .i64 di,.bool tp,u3,u4,u5,u6,.int .i64 qi,.pointer (some ⟨n8,0,none⟩),u9,q0,qb,qn,qy,qJ,qU,j4,jf,jq,jB,jM,jX,z2,z3,z4,z5,z6,z7,z8,z9,za,zb,zc,zd,ze,zf,zg,zh,zi,zj,zk,zl,zm,zn,zo,zp,zq,zr,zs,zt,zu,zv,zw,zx,zy,zz,zA,zB,zC,zD,zE,zF,zG,zH,zI,zJ,zK,zL,zM,zN,zO,zP,zQ,zR,zS,zT,zU,zV,zW,zX,zY,zZ,z_,g5,g6,g7,g8,g9,ga,gb,gc,gd,ge,gf,gg,gh,gi,gj,gk,gl,q1,q2,q3,q4,q5,q6,q7,q8,q9,qa,qc,qd,qe,qf,qg,qh,qj,qk,ql,qm,qo,qp,qq,qr,qs,qt,qu,qv,qw,qx,qz,qA,qB,qC,qD,qE,qF,qG,qH,qI,qK,qL,qM,qN,qO,qP,qQ,qR,qS,qT,qV,qW,qX,qY,qZ,q_,j0,j1,j2,j3,j5,j6,j7,j8,j9,ja,jb,jc,jd,je,jg,jh,ji,jj,jk,jl,jm,jn,jo,jp,jr,js,jt,ju,jv,jw,jx,jy,jz,jA,jC,jD,jE,jF,jG,jH,jI,jJ,jK,jL,jN,jO,jP,jQ,jR,jS,jT,jU,jV,jW,jY,jZ,j_,z0,z1],[]⟩ wr:=by
 have HNO:=h_ hN;have HP:=h_ hp;have HCB:=h_ CB;have HCE:=h_ CE;clear hN hp CB CE
 conv=>arg 2;whnf
 refine wp_seq_cut (fun K7 hK7=>?_)
 have k8:=HB.out.cell;have l8:=HB.out.lt;have hnm:=HP.out.name;have hsz:=HP.out.text;have HYE:=h_ hQ;clear hQ;have gk0:(x.kind==0)=false:=bf_ (by omega);have gk1:(x.kind==1)=false:=bf_ (by omega);have gk2:(x.kind==2)=false:=bf_ (by omega);have gk3:(x.kind==3)=false:=bf_ (by omega)
 have gk4:(x.kind==4)=true:=by rw [hk];rfl
 have HK:=h_ hk;clear hk;go_upto_region 25 with fail
 refine sd_25 HP.out HB (fun r1 _ _ _ _ _ _ _ _ _ _ _ _ _ _ _ _ _ _ _ _ _ _ _ _ _ _ _ _ _ wx1 hb1 hr1=>?_)
 cases r1 with
 | true=>
  clear hr1;go_wp2_with fail
  apply HNO.out;exact hb1
 | false=>
  have F1:=h_ (hr1 rfl);clear hr1;go_wp2_with fail
  refine hK7.out _ _ ?_
  clear hK7 K7
  exact sd_tail HP.out (h_ (hW.out.trans (hb1.out.mono hW.out.size))) (h_ (HB.out.keep hb1.out)) hdi hd5 HCB.out HCE.out (by intros;rename_i wx hb;apply HNO.out;exact (h_ (Below.next hb1.out hb.out))) (by intros;rename_i wx hb h33 h35;apply HYE.out;exact (h_ (Below.next hb1.out hb.out));exact h_ (.mk d _ x (⟨by have:=HK.out;omega,h5.out.1,h5.out.2.1,h5.out.2.2.1,h5.out.2.2.2,fun h9=>absurd h9 (by have:=HK.out;omega),fun h9=>absurd h9 (by have:=HK.out;omega),fun _=>F1.out,fun h9=>absurd h9 (by have:=HK.out;omega),fun h9=>absurd h9 (by have:=HK.out;omega),fun _ h6=>h33.out h6⟩:OwnN (tp=true) x) h35.out.1 h35.out.2.1.1 h35.out.2.1.2 h35.out.2.2.1 h35.out.2.2.2))
theorem sd_k5 (hp:PartsN w S la lc ma mc sa sc aa ac ba bc ea ec x) (hW:Hid (Below w.heap.size w wr)) (HB:Hid (Blk wr n8 70 #[.int .i64 x.kind,.string x.text,.int .i64 x.x.kind,.int .i64 x.x.val.kind,.bool x.x.val.bool,.int .i64 x.x.val.int,.string x.x.val.str,.slice la x.x.val.list.length lc,.slice ma x.x.val.map.length mc,.string x.x.name,.slice sa x.x.steps.length sc,.slice aa x.x.args.length ac,.string x.key,.string x.name,.slice ba x.body.length bc,.slice ea x.els.length ec])) (hdi:Hid (di=(d:Int))) (hd5:d<=5) (CB:(0 < d\/x.body=[])->∀ w2,Below w.heap.size w w2->Calls Tryz.prog 25 #[.slice ba x.body.length bc,.int .i64 (di - 1),.bool false] w2 (SoundI x.body (d - 1) False w2)) (CE:(0 < d\/x.els=[])->∀ w2,Below w.heap.size w w2->Calls Tryz.prog 25 #[.slice ea x.els.length ec,.int .i64 (di - 1),.bool false] w2 (SoundI x.els (d - 1) False w2)) (h5:Hid ((x.kind≠0->x.text=⟨#[]⟩)/\(x.kind≠4->x.key=⟨#[]⟩)/\(x.kind < 2\/x.kind=5->x.body=[])/\(x.kind < 2\/4 < x.kind->x.els=[]))) (hk:x.kind=5)
  (hN:∀ (v9 gm gz gK gV kc kn kz kK kV Q5 Qg Qr Qx Qy Qz QA QB QC QD QE QF QG QH QI QJ QK QL QM QN QO QP QQ QR QS QT QU QV QW QX QY QZ Q_ J0 J1 J2 J3 J4 J5 J6 J7 J8 J9 Ja Jb Jc Jd Je Jf Jg Jh Ji Jj Jk Jl Jm Jn Jo Jp Jq Jr Js Jt Ju Jv Jw Jx Jy Jz JA JB JC JD JE JF JG JH JI JJ JK JL gn gp gq gr gt gu gv gw gx gy gA gB gC gD gE gF gG gH gI gJ gL gM gN gO gP gQ gR gS gT gU gW gX gY gZ g_ k2 k3 k9 ka kb kd ke kf kg kh ki kj kk kl km ko kp kq kr ks kt ku kv kw kx kA kB kC kD kE kF kG kH kI kJ kL kM kN kO kP kQ kR kS kT kU kW kX kY kZ k_ Q0 Q1 Q2 Q3 Q4 Q6 Q7 Q8 Q9 Qa Qb Qc Qd Qe Qf Qh Qi Qj Qk Ql Qm Qn Qo Qp Qq Qs Qt Qu Qv Qw:Value) (wx:World),Hid (Below wr.heap.size wr wx)->Q .ret ⟨#[.slice a l.length c,.int .i64 di,.bool tp,u3,u4,u5,.bool false,.int .i64 qi,.pointer (some ⟨n8,0,none⟩),v9,gm,gz,gK,gV,kc,kn,kz,kK,kV,Q5,Qg,Qr,Qx,Qy,Qz,QA,QB,QC,QD,QE,QF,QG,QH,QI,QJ,QK,QL,QM,QN,QO,QP,QQ,QR,QS,QT,QU,QV,QW,QX,QY,QZ,Q_,J0,J1,J2,J3,J4,J5,J6,J7,J8,J9,Ja,Jb,Jc,Jd,Je,Jf,Jg,Jh,Ji,Jj,Jk,Jl,Jm,Jn,Jo,Jp,Jq,Jr,Js,Jt,Ju,Jv,Jw,Jx,Jy,Jz,JA,JB,JC,JD,JE,JF,JG,JH,JI,JJ,JK,JL,gn,gp,gq,gr,gt,gu,gv,gw,gx,gy,gA,gB,gC,gD,gE,gF,gG,gH,gI,gJ,gL,gM,gN,gO,gP,gQ,gR,gS,gT,gU,gW,gX,gY,gZ,g_,k2,k3,k9,ka,kb,kd,ke,kf,kg,kh,ki,kj,kk,kl,km,ko,kp,kq,kr,ks,kt,ku,kv,kw,kx,kA,kB,kC,kD,kE,kF,kG,kH,kI,kJ,kL,kM,kN,kO,kP,kQ,kR,kS,kT,kU,kW,kX,kY,kZ,k_,Q0,Q1,Q2,Q3,Q4,Q6,Q7,Q8,Q9,Qa,Qb,Qc,Qd,Qe,Qf,Qh,Qi,Qj,Qk,Ql,Qm,Qn,Qo,Qp,Qq,Qs,Qt,Qu,Qv,Qw],[]⟩ wx)
  (hQ:∀ (v6 v9 gm gz gK gV kc kn kz kK kV Q5 Qg Qr Qx Qy Qz QA QB QC QD QE QF QG QH QI QJ QK QL QM QN QO QP QQ QR QS QT QU QV QW QX QY QZ Q_ J0 J1 J2 J3 J4 J5 J6 J7 J8 J9 Ja Jb Jc Jd Je Jf Jg Jh Ji Jj Jk Jl Jm Jn Jo Jp Jq Jr Js Jt Ju Jv Jw Jx Jy Jz JA JB JC JD JE JF JG JH JI JJ JK JL gn gp gq gr gt gu gv gw gx gy gA gB gC gD gE gF gG gH gI gJ gL gM gN gO gP gQ gR gS gT gU gW gX gY gZ g_ k2 k3 k9 ka kb kd ke kf kg kh ki kj kk kl km ko kp kq kr ks kt ku kv kw kx kA kB kC kD kE kF kG kH kI kJ kL kM kN kO kP kQ kR kS kT kU kW kX kY kZ k_ Q0 Q1 Q2 Q3 Q4 Q6 Q7 Q8 Q9 Qa Qb Qc Qd Qe Qf Qh Qi Qj Qk Ql Qm Qn Qo Qp Qq Qs Qt Qu Qv Qw:Value) (wx:World),Hid (Below wr.heap.size wr wx)->Hid (SoundN d (tp=true) x)->Q .normal ⟨#[.slice a l.length c,.int .i64 di,.bool tp,u3,u4,u5,v6,.int .i64 qi,.pointer (some ⟨n8,0,none⟩),v9,gm,gz,gK,gV,kc,kn,kz,kK,kV,Q5,Qg,Qr,Qx,Qy,Qz,QA,QB,QC,QD,QE,QF,QG,QH,QI,QJ,QK,QL,QM,QN,QO,QP,QQ,QR,QS,QT,QU,QV,QW,QX,QY,QZ,Q_,J0,J1,J2,J3,J4,J5,J6,J7,J8,J9,Ja,Jb,Jc,Jd,Je,Jf,Jg,Jh,Ji,Jj,Jk,Jl,Jm,Jn,Jo,Jp,Jq,Jr,Js,Jt,Ju,Jv,Jw,Jx,Jy,Jz,JA,JB,JC,JD,JE,JF,JG,JH,JI,JJ,JK,JL,gn,gp,gq,gr,gt,gu,gv,gw,gx,gy,gA,gB,gC,gD,gE,gF,gG,gH,gI,gJ,gL,gM,gN,gO,gP,gQ,gR,gS,gT,gU,gW,gX,gY,gZ,g_,k2,k3,k9,ka,kb,kd,ke,kf,kg,kh,ki,kj,kk,kl,km,ko,kp,kq,kr,ks,kt,ku,kv,kw,kx,kA,kB,kC,kD,kE,kF,kG,kH,kI,kJ,kL,kM,kN,kO,kP,kQ,kR,kS,kT,kU,kW,kX,kY,kZ,k_,Q0,Q1,Q2,Q3,Q4,Q6,Q7,Q8,Q9,Qa,Qb,Qc,Qd,Qe,Qf,Qh,Qi,Qj,Qk,Ql,Qm,Qn,Qo,Qp,Qq,Qs,Qt,Qu,Qv,Qw],[]⟩ wx):
  Code.wp Tryz.prog (tailS 7) Q ⟨#[.slice a l.length c,.int .i64 di,.bool tp,u3,u4,u5,u6,.int .i64 qi,.pointer (some ⟨n8,0,none⟩),u9,q0,qb,qn,qy,qJ,qU,j4,jf,jq,jB,jM,jX,z2,z3,z4,z5,z6,z7,z8,z9,za,zb,zc,zd,ze,zf,zg,zh,zi,zj,zk,zl,zm,zn,zo,zp,zq,zr,zs,zt,zu,zv,zw,zx,zy,zz,zA,zB,zC,zD,zE,zF,zG,zH,zI,zJ,zK,zL,zM,zN,zO,zP,zQ,zR,zS,zT,zU,zV,zW,zX,zY,zZ,z_,g5,g6,g7,g8,g9,ga,gb,gc,gd,ge,gf,gg,gh,gi,gj,gk,gl,q1,q2,q3,q4,q5,q6,q7,q8,q9,qa,qc,qd,qe,qf,qg,qh,qj,qk,ql,qm,qo,qp,qq,qr,qs,qt,qu,qv,qw,qx,qz,qA,qB,qC,qD,qE,qF,qG,qH,qI,qK,qL,qM,qN,qO,qP,qQ,qR,qS,qT,qV,qW,qX,qY,qZ,q_,j0,j1,j2,j3,j5,j6,j7,j8,j9,ja,jb,jc,jd,je,jg,jh,ji,jj,jk,jl,jm,jn,jo,jp,jr,js,jt,ju,jv,jw,jx,jy,jz,jA,jC,jD,jE,jF,jG,jH,jI,jJ,jK,jL,jN,jO,jP,jQ,jR,jS,jT,jU,jV,jW,jY,jZ,j_,z0,z1],[]⟩ wr:=by
 have HNO:=h_ hN;have HP:=h_ hp;have HCB:=h_ CB;have HCE:=h_ CE;clear hN hp CB CE
 conv=>arg 2;whnf
 refine wp_seq_cut (fun K7 hK7=>?_)
 have k8:=HB.out.cell;have l8:=HB.out.lt;have hnm:=HP.out.name;have hsz:=HP.out.text;have HYE:=h_ hQ;clear hQ;have gk0:(x.kind==0)=false:=bf_ (by omega);have gk1:(x.kind==1)=false:=bf_ (by omega);have gk2:(x.kind==2)=false:=bf_ (by omega);have gk3:(x.kind==3)=false:=bf_ (by omega);have gk4:(x.kind==4)=false:=bf_ (by omega)
 have gk5:(x.kind==5)=true:=by rw [hk];rfl
 have HK:=h_ hk;clear hk;go_wp2_with fail
 refine (trname x.name _ hnm).mono ?_
 rintro e wz ⟨rfl,rfl⟩
 by_cases hnb:nameL x.name.data.toList=true
 case neg=>(have hnb:nameL x.name.data.toList=false:=(by simpa using hnb);rw [hnb];clear hnb;go_wp2_with fail;apply HNO.out;exact h_ (Below.refl _ _))
 rw [hnb];have HNB:=h_ hnb;clear hnb;go_wp2_with fail
 refine hK7.out _ _ ?_
 clear hK7 K7
 exact sd_tail HP.out hW HB hdi hd5 HCB.out HCE.out (by intros;rename_i wx hb;apply HNO.out;exact hb) (by intros;rename_i wx hb h33 h35;apply HYE.out;exact hb;exact h_ (.mk d _ x (⟨by have:=HK.out;omega,h5.out.1,h5.out.2.1,h5.out.2.2.1,h5.out.2.2.2,fun h9=>absurd h9 (by have:=HK.out;omega),fun h9=>absurd h9 (by have:=HK.out;omega),fun h9=>absurd h9 (by have:=HK.out;omega),fun _=>HNB.out,fun h9=>absurd h9 (by have:=HK.out;omega),fun _ h6=>h33.out h6⟩:OwnN (tp=true) x) h35.out.1 h35.out.2.1.1 h35.out.2.1.2 h35.out.2.2.1 h35.out.2.2.2))
theorem sd_k6 (hp:PartsN w S la lc ma mc sa sc aa ac ba bc ea ec x) (hW:Hid (Below w.heap.size w wr)) (HB:Hid (Blk wr n8 70 #[.int .i64 x.kind,.string x.text,.int .i64 x.x.kind,.int .i64 x.x.val.kind,.bool x.x.val.bool,.int .i64 x.x.val.int,.string x.x.val.str,.slice la x.x.val.list.length lc,.slice ma x.x.val.map.length mc,.string x.x.name,.slice sa x.x.steps.length sc,.slice aa x.x.args.length ac,.string x.key,.string x.name,.slice ba x.body.length bc,.slice ea x.els.length ec])) (hdi:Hid (di=(d:Int))) (hd5:d<=5) (CB:(0 < d\/x.body=[])->∀ w2,Below w.heap.size w w2->Calls Tryz.prog 25 #[.slice ba x.body.length bc,.int .i64 (di - 1),.bool false] w2 (SoundI x.body (d - 1) False w2)) (CE:(0 < d\/x.els=[])->∀ w2,Below w.heap.size w w2->Calls Tryz.prog 25 #[.slice ea x.els.length ec,.int .i64 (di - 1),.bool false] w2 (SoundI x.els (d - 1) False w2)) (h5:Hid ((x.kind≠0->x.text=⟨#[]⟩)/\(x.kind≠4->x.key=⟨#[]⟩)/\(x.kind < 2\/x.kind=5->x.body=[])/\(x.kind < 2\/4 < x.kind->x.els=[]))) (hk:x.kind=6)
  (hN:∀ (v9 gm gz gK gV kc kn kz kK kV Q5 Qg Qr Qx Qy Qz QA QB QC QD QE QF QG QH QI QJ QK QL QM QN QO QP QQ QR QS QT QU QV QW QX QY QZ Q_ J0 J1 J2 J3 J4 J5 J6 J7 J8 J9 Ja Jb Jc Jd Je Jf Jg Jh Ji Jj Jk Jl Jm Jn Jo Jp Jq Jr Js Jt Ju Jv Jw Jx Jy Jz JA JB JC JD JE JF JG JH JI JJ JK JL gn gp gq gr gt gu gv gw gx gy gA gB gC gD gE gF gG gH gI gJ gL gM gN gO gP gQ gR gS gT gU gW gX gY gZ g_ k2 k3 k9 ka kb kd ke kf kg kh ki kj kk kl km ko kp kq kr ks kt ku kv kw kx kA kB kC kD kE kF kG kH kI kJ kL kM kN kO kP kQ kR kS kT kU kW kX kY kZ k_ Q0 Q1 Q2 Q3 Q4 Q6 Q7 Q8 Q9 Qa Qb Qc Qd Qe Qf Qh Qi Qj Qk Ql Qm Qn Qo Qp Qq Qs Qt Qu Qv Qw:Value) (wx:World),Hid (Below wr.heap.size wr wx)->Q .ret ⟨#[.slice a l.length c,.int .i64 di,.bool tp,u3,u4,u5,.bool false,.int .i64 qi,.pointer (some ⟨n8,0,none⟩),v9,gm,gz,gK,gV,kc,kn,kz,kK,kV,Q5,Qg,Qr,Qx,Qy,Qz,QA,QB,QC,QD,QE,QF,QG,QH,QI,QJ,QK,QL,QM,QN,QO,QP,QQ,QR,QS,QT,QU,QV,QW,QX,QY,QZ,Q_,J0,J1,J2,J3,J4,J5,J6,J7,J8,J9,Ja,Jb,Jc,Jd,Je,Jf,Jg,Jh,Ji,Jj,Jk,Jl,Jm,Jn,Jo,Jp,Jq,Jr,Js,Jt,Ju,Jv,Jw,Jx,Jy,Jz,JA,JB,JC,JD,JE,JF,JG,JH,JI,JJ,JK,JL,gn,gp,gq,gr,gt,gu,gv,gw,gx,gy,gA,gB,gC,gD,gE,gF,gG,gH,gI,gJ,gL,gM,gN,gO,gP,gQ,gR,gS,gT,gU,gW,gX,gY,gZ,g_,k2,k3,k9,ka,kb,kd,ke,kf,kg,kh,ki,kj,kk,kl,km,ko,kp,kq,kr,ks,kt,ku,kv,kw,kx,kA,kB,kC,kD,kE,kF,kG,kH,kI,kJ,kL,kM,kN,kO,kP,kQ,kR,kS,kT,kU,kW,kX,kY,kZ,k_,Q0,Q1,Q2,Q3,Q4,Q6,Q7,Q8,Q9,Qa,Qb,Qc,Qd,Qe,Qf,Qh,Qi,Qj,Qk,Ql,Qm,Qn,Qo,Qp,Qq,Qs,Qt,Qu,Qv,Qw],[]⟩ wx)
  (hQ:∀ (v6 v9 gm gz gK gV kc kn kz kK kV Q5 Qg Qr Qx Qy Qz QA QB QC QD QE QF QG QH QI QJ QK QL QM QN QO QP QQ QR QS QT QU QV QW QX QY QZ Q_ J0 J1 J2 J3 J4 J5 J6 J7 J8 J9 Ja Jb Jc Jd Je Jf Jg Jh Ji Jj Jk Jl Jm Jn Jo Jp Jq Jr Js Jt Ju Jv Jw Jx Jy Jz JA JB JC JD JE JF JG JH JI JJ JK JL gn gp gq gr gt gu gv gw gx gy gA gB gC gD gE gF gG gH gI gJ gL gM gN gO gP gQ gR gS gT gU gW gX gY gZ g_ k2 k3 k9 ka kb kd ke kf kg kh ki kj kk kl km ko kp kq kr ks kt ku kv kw kx kA kB kC kD kE kF kG kH kI kJ kL kM kN kO kP kQ kR kS kT kU kW kX kY kZ k_ Q0 Q1 Q2 Q3 Q4 Q6 Q7 Q8 Q9 Qa Qb Qc Qd Qe Qf Qh Qi Qj Qk Ql Qm Qn Qo Qp Qq Qs Qt Qu Qv Qw:Value) (wx:World),Hid (Below wr.heap.size wr wx)->Hid (SoundN d (tp=true) x)->Q .normal ⟨#[.slice a l.length c,.int .i64 di,.bool tp,u3,u4,u5,v6,.int .i64 qi,.pointer (some ⟨n8,0,none⟩),v9,gm,gz,gK,gV,kc,kn,kz,kK,kV,Q5,Qg,Qr,Qx,Qy,Qz,QA,QB,QC,QD,QE,QF,QG,QH,QI,QJ,QK,QL,QM,QN,QO,QP,QQ,QR,QS,QT,QU,QV,QW,QX,QY,QZ,Q_,J0,J1,J2,J3,J4,J5,J6,J7,J8,J9,Ja,Jb,Jc,Jd,Je,Jf,Jg,Jh,Ji,Jj,Jk,Jl,Jm,Jn,Jo,Jp,Jq,Jr,Js,Jt,Ju,Jv,Jw,Jx,Jy,Jz,JA,JB,JC,JD,JE,JF,JG,JH,JI,JJ,JK,JL,gn,gp,gq,gr,gt,gu,gv,gw,gx,gy,gA,gB,gC,gD,gE,gF,gG,gH,gI,gJ,gL,gM,gN,gO,gP,gQ,gR,gS,gT,gU,gW,gX,gY,gZ,g_,k2,k3,k9,ka,kb,kd,ke,kf,kg,kh,ki,kj,kk,kl,km,ko,kp,kq,kr,ks,kt,ku,kv,kw,kx,kA,kB,kC,kD,kE,kF,kG,kH,kI,kJ,kL,kM,kN,kO,kP,kQ,kR,kS,kT,kU,kW,kX,kY,kZ,k_,Q0,Q1,Q2,Q3,Q4,Q6,Q7,Q8,Q9,Qa,Qb,Qc,Qd,Qe,Qf,Qh,Qi,Qj,Qk,Ql,Qm,Qn,Qo,Qp,Qq,Qs,Qt,Qu,Qv,Qw],[]⟩ wx):
  Code.wp Tryz.prog (tailS 7) Q ⟨#[.slice a l.length c,.int .i64 di,.bool tp,u3,u4,u5,u6,.int .i64 qi,.pointer (some ⟨n8,0,none⟩),u9,q0,qb,qn,qy,qJ,qU,j4,jf,jq,jB,jM,jX,z2,z3,z4,z5,z6,z7,z8,z9,za,zb,zc,zd,ze,zf,zg,zh,zi,zj,zk,zl,zm,zn,zo,zp,zq,zr,zs,zt,zu,zv,zw,zx,zy,zz,zA,zB,zC,zD,zE,zF,zG,zH,zI,zJ,zK,zL,zM,zN,zO,zP,zQ,zR,zS,zT,zU,zV,zW,zX,zY,zZ,z_,g5,g6,g7,g8,g9,ga,gb,gc,gd,ge,gf,gg,gh,gi,gj,gk,gl,q1,q2,q3,q4,q5,q6,q7,q8,q9,qa,qc,qd,qe,qf,qg,qh,qj,qk,ql,qm,qo,qp,qq,qr,qs,qt,qu,qv,qw,qx,qz,qA,qB,qC,qD,qE,qF,qG,qH,qI,qK,qL,qM,qN,qO,qP,qQ,qR,qS,qT,qV,qW,qX,qY,qZ,q_,j0,j1,j2,j3,j5,j6,j7,j8,j9,ja,jb,jc,jd,je,jg,jh,ji,jj,jk,jl,jm,jn,jo,jp,jr,js,jt,ju,jv,jw,jx,jy,jz,jA,jC,jD,jE,jF,jG,jH,jI,jJ,jK,jL,jN,jO,jP,jQ,jR,jS,jT,jU,jV,jW,jY,jZ,j_,z0,z1],[]⟩ wr:=by
 have HNO:=h_ hN;have HP:=h_ hp;have HCB:=h_ CB;have HCE:=h_ CE;clear hN hp CB CE
 conv=>arg 2;whnf
 refine wp_seq_cut (fun K7 hK7=>?_)
 have k8:=HB.out.cell;have l8:=HB.out.lt;have hnm:=HP.out.name;have hsz:=HP.out.text;have HYE:=h_ hQ;clear hQ;have gk0:(x.kind==0)=false:=bf_ (by omega);have gk1:(x.kind==1)=false:=bf_ (by omega);have gk2:(x.kind==2)=false:=bf_ (by omega);have gk3:(x.kind==3)=false:=bf_ (by omega);have gk4:(x.kind==4)=false:=bf_ (by omega);have gk5:(x.kind==5)=false:=bf_ (by omega)
 have gk6:(x.kind==6)=true:=by rw [hk];rfl
 have HK:=h_ hk;clear hk;go_upto_region 31 with fail
 refine sd_31 HP.out hW HB (fun r1 _ _ _ _ _ _ _ _ _ _ _ _ _ wx1 hb1 hr1=>?_)
 cases r1 with
 | true=>
  clear hr1;go_wp2_with fail
  apply HNO.out;exact hb1
 | false=>
  have F1:=h_ (hr1 rfl);clear hr1;go_wp2_with fail
  refine hK7.out _ _ ?_
  clear hK7 K7
  exact sd_tail HP.out (h_ (hW.out.trans (hb1.out.mono hW.out.size))) (h_ (HB.out.keep hb1.out)) hdi hd5 HCB.out HCE.out (by intros;rename_i wx hb;apply HNO.out;exact (h_ (Below.next hb1.out hb.out))) (by intros;rename_i wx hb h33 h35;apply HYE.out;exact (h_ (Below.next hb1.out hb.out));exact h_ (.mk d _ x (⟨by have:=HK.out;omega,h5.out.1,h5.out.2.1,h5.out.2.2.1,h5.out.2.2.2,fun h9=>absurd h9 (by have:=HK.out;omega),fun h9=>absurd h9 (by have:=HK.out;omega),fun h9=>absurd h9 (by have:=HK.out;omega),fun h9=>absurd h9 (by have:=HK.out;omega),fun _=>F1.out,fun _ h6=>h33.out h6⟩:OwnN (tp=true) x) h35.out.1 h35.out.2.1.1 h35.out.2.1.2 h35.out.2.2.1 h35.out.2.2.2))
end
section
variable {w wr:World} {S:Nat->Prop} {n8:Nat} {x:Nd} {l:List Nd} {a:OA_} {c:Nat} {di qi:Int} {tp:Bool} {la:OA_} {lc:Nat} {ma:OA_} {mc:Nat} {sa:OA_} {sc:Nat} {aa:OA_} {ac:Nat} {ba:OA_} {bc:Nat} {ea:OA_} {ec:Nat} {d:Nat} {Q:Exit->Act->World->Prop} {u3 u4 u5 u6 u9 q0 qb qn qy qJ qU j4 jf jq jB jM jX z2 z3 z4 z5 z6 z7 z8 z9 za zb zc zd ze zf zg zh zi zj zk zl zm zn zo zp zq zr zs zt zu zv zw zx zy zz zA zB zC zD zE zF zG zH zI zJ zK zL zM zN zO zP zQ zR zS zT zU zV zW zX zY zZ z_ g5 g6 g7 g8 g9 ga gb gc gd ge gf gg gh gi gj gk gl q1 q2 q3 q4 q5 q6 q7 q8 q9 qa qc qd qe qf qg qh qj qk ql qm qo qp qq qr qs qt qu qv qw qx qz qA qB qC qD qE qF qG qH qI qK qL qM qN qO qP qQ qR qS qT qV qW qX qY qZ q_ j0 j1 j2 j3 j5 j6 j7 j8 j9 ja jb jc jd je jg jh ji jj jk jl jm jn jo jp jr js jt ju jv jw jx jy jz jA jC jD jE jF jG jH jI jJ jK jL jN jO jP jQ jR jS jT jU jV jW jY jZ j_ z0 z1:Value}
theorem sd_k0 (hp:PartsN w S la lc ma mc sa sc aa ac ba bc ea ec x) (hW:Hid (Below w.heap.size w wr)) (HB:Hid (Blk wr n8 70 #[.int .i64 x.kind,.string x.text,.int .i64 x.x.kind,.int .i64 x.x.val.kind,.bool x.x.val.bool,.int .i64 x.x.val.int,.string x.x.val.str,.slice la x.x.val.list.length lc,.slice ma x.x.val.map.length mc,.string x.x.name,.slice sa x.x.steps.length sc,.slice aa x.x.args.length ac,.string x.key,.string x.name,.slice ba x.body.length bc,.slice ea x.els.length ec])) (hdi:Hid (di=(d:Int))) (hd5:d<=5) (CB:(0 < d\/x.body=[])->∀ w2,Below w.heap.size w w2->Calls Tryz.prog 25 #[.slice ba x.body.length bc,.int .i64 (di - 1),.bool false] w2 (SoundI x.body (d - 1) False w2)) (CE:(0 < d\/x.els=[])->∀ w2,Below w.heap.size w w2->Calls Tryz.prog 25 #[.slice ea x.els.length ec,.int .i64 (di - 1),.bool false] w2 (SoundI x.els (d - 1) False w2)) (h5:Hid ((x.kind≠0->x.text=⟨#[]⟩)/\(x.kind≠4->x.key=⟨#[]⟩)/\(x.kind < 2\/x.kind=5->x.body=[])/\(x.kind < 2\/4 < x.kind->x.els=[]))) {P:Prop} (hk:x.kind=0) (hqq:Hid ((qi=0/\P)\/∃ (b bo m9:Nat) (pk:Int),qi=(m9:Int)+1/\m9 < l.length/\l.length<=1000000000000/\a=some ⟨b,bo,none⟩/\wr.cell? ⟨b,bo+m9*16,none⟩=some (.int .i64 pk)/\(pk≠0->P)))
  (hN:∀ (v9 gm gz gK gV kc kn kz kK kV Q5 Qg Qr Qx Qy Qz QA QB QC QD QE QF QG QH QI QJ QK QL QM QN QO QP QQ QR QS QT QU QV QW QX QY QZ Q_ J0 J1 J2 J3 J4 J5 J6 J7 J8 J9 Ja Jb Jc Jd Je Jf Jg Jh Ji Jj Jk Jl Jm Jn Jo Jp Jq Jr Js Jt Ju Jv Jw Jx Jy Jz JA JB JC JD JE JF JG JH JI JJ JK JL gn gp gq gr gt gu gv gw gx gy gA gB gC gD gE gF gG gH gI gJ gL gM gN gO gP gQ gR gS gT gU gW gX gY gZ g_ k2 k3 k9 ka kb kd ke kf kg kh ki kj kk kl km ko kp kq kr ks kt ku kv kw kx kA kB kC kD kE kF kG kH kI kJ kL kM kN kO kP kQ kR kS kT kU kW kX kY kZ k_ Q0 Q1 Q2 Q3 Q4 Q6 Q7 Q8 Q9 Qa Qb Qc Qd Qe Qf Qh Qi Qj Qk Ql Qm Qn Qo Qp Qq Qs Qt Qu Qv Qw:Value) (wx:World),Hid (Below wr.heap.size wr wx)->Q .ret ⟨#[.slice a l.length c,.int .i64 di,.bool tp,u3,u4,u5,.bool false,.int .i64 qi,.pointer (some ⟨n8,0,none⟩),v9,gm,gz,gK,gV,kc,kn,kz,kK,kV,Q5,Qg,Qr,Qx,Qy,Qz,QA,QB,QC,QD,QE,QF,QG,QH,QI,QJ,QK,QL,QM,QN,QO,QP,QQ,QR,QS,QT,QU,QV,QW,QX,QY,QZ,Q_,J0,J1,J2,J3,J4,J5,J6,J7,J8,J9,Ja,Jb,Jc,Jd,Je,Jf,Jg,Jh,Ji,Jj,Jk,Jl,Jm,Jn,Jo,Jp,Jq,Jr,Js,Jt,Ju,Jv,Jw,Jx,Jy,Jz,JA,JB,JC,JD,JE,JF,JG,JH,JI,JJ,JK,JL,gn,gp,gq,gr,gt,gu,gv,gw,gx,gy,gA,gB,gC,gD,gE,gF,gG,gH,gI,gJ,gL,gM,gN,gO,gP,gQ,gR,gS,gT,gU,gW,gX,gY,gZ,g_,k2,k3,k9,ka,kb,kd,ke,kf,kg,kh,ki,kj,kk,kl,km,ko,kp,kq,kr,ks,kt,ku,kv,kw,kx,kA,kB,kC,kD,kE,kF,kG,kH,kI,kJ,kL,kM,kN,kO,kP,kQ,kR,kS,kT,kU,kW,kX,kY,kZ,k_,Q0,Q1,Q2,Q3,Q4,Q6,Q7,Q8,Q9,Qa,Qb,Qc,Qd,Qe,Qf,Qh,Qi,Qj,Qk,Ql,Qm,Qn,Qo,Qp,Qq,Qs,Qt,Qu,Qv,Qw],[]⟩ wx)
  (hQ:∀ (v6 v9 gm gz gK gV kc kn kz kK kV Q5 Qg Qr Qx Qy Qz QA QB QC QD QE QF QG QH QI QJ QK QL QM QN QO QP QQ QR QS QT QU QV QW QX QY QZ Q_ J0 J1 J2 J3 J4 J5 J6 J7 J8 J9 Ja Jb Jc Jd Je Jf Jg Jh Ji Jj Jk Jl Jm Jn Jo Jp Jq Jr Js Jt Ju Jv Jw Jx Jy Jz JA JB JC JD JE JF JG JH JI JJ JK JL gn gp gq gr gt gu gv gw gx gy gA gB gC gD gE gF gG gH gI gJ gL gM gN gO gP gQ gR gS gT gU gW gX gY gZ g_ k2 k3 k9 ka kb kd ke kf kg kh ki kj kk kl km ko kp kq kr ks kt ku kv kw kx kA kB kC kD kE kF kG kH kI kJ kL kM kN kO kP kQ kR kS kT kU kW kX kY kZ k_ Q0 Q1 Q2 Q3 Q4 Q6 Q7 Q8 Q9 Qa Qb Qc Qd Qe Qf Qh Qi Qj Qk Ql Qm Qn Qo Qp Qq Qs Qt Qu Qv Qw:Value) (wx:World),Hid (Below wr.heap.size wr wx)->Hid (SoundN d (tp=true) x/\P)->Q (.exit 1) ⟨#[.slice a l.length c,.int .i64 di,.bool tp,u3,u4,u5,v6,.int .i64 qi,.pointer (some ⟨n8,0,none⟩),v9,gm,gz,gK,gV,kc,kn,kz,kK,kV,Q5,Qg,Qr,Qx,Qy,Qz,QA,QB,QC,QD,QE,QF,QG,QH,QI,QJ,QK,QL,QM,QN,QO,QP,QQ,QR,QS,QT,QU,QV,QW,QX,QY,QZ,Q_,J0,J1,J2,J3,J4,J5,J6,J7,J8,J9,Ja,Jb,Jc,Jd,Je,Jf,Jg,Jh,Ji,Jj,Jk,Jl,Jm,Jn,Jo,Jp,Jq,Jr,Js,Jt,Ju,Jv,Jw,Jx,Jy,Jz,JA,JB,JC,JD,JE,JF,JG,JH,JI,JJ,JK,JL,gn,gp,gq,gr,gt,gu,gv,gw,gx,gy,gA,gB,gC,gD,gE,gF,gG,gH,gI,gJ,gL,gM,gN,gO,gP,gQ,gR,gS,gT,gU,gW,gX,gY,gZ,g_,k2,k3,k9,ka,kb,kd,ke,kf,kg,kh,ki,kj,kk,kl,km,ko,kp,kq,kr,ks,kt,ku,kv,kw,kx,kA,kB,kC,kD,kE,kF,kG,kH,kI,kJ,kL,kM,kN,kO,kP,kQ,kR,kS,kT,kU,kW,kX,kY,kZ,k_,Q0,Q1,Q2,Q3,Q4,Q6,Q7,Q8,Q9,Qa,Qb,Qc,Qd,Qe,Qf,Qh,Qi,Qj,Qk,Ql,Qm,Qn,Qo,Qp,Qq,Qs,Qt,Qu,Qv,Qw],[]⟩ wx):
  Code.wp Tryz.prog (tailS 7) Q ⟨#[.slice a l.length c,.int .i64 di,.bool tp,u3,u4,u5,u6,.int .i64 qi,.pointer (some ⟨n8,0,none⟩),u9,q0,qb,qn,qy,qJ,qU,j4,jf,jq,jB,jM,jX,z2,z3,z4,z5,z6,z7,z8,z9,za,zb,zc,zd,ze,zf,zg,zh,zi,zj,zk,zl,zm,zn,zo,zp,zq,zr,zs,zt,zu,zv,zw,zx,zy,zz,zA,zB,zC,zD,zE,zF,zG,zH,zI,zJ,zK,zL,zM,zN,zO,zP,zQ,zR,zS,zT,zU,zV,zW,zX,zY,zZ,z_,g5,g6,g7,g8,g9,ga,gb,gc,gd,ge,gf,gg,gh,gi,gj,gk,gl,q1,q2,q3,q4,q5,q6,q7,q8,q9,qa,qc,qd,qe,qf,qg,qh,qj,qk,ql,qm,qo,qp,qq,qr,qs,qt,qu,qv,qw,qx,qz,qA,qB,qC,qD,qE,qF,qG,qH,qI,qK,qL,qM,qN,qO,qP,qQ,qR,qS,qT,qV,qW,qX,qY,qZ,q_,j0,j1,j2,j3,j5,j6,j7,j8,j9,ja,jb,jc,jd,je,jg,jh,ji,jj,jk,jl,jm,jn,jo,jp,jr,js,jt,ju,jv,jw,jx,jy,jz,jA,jC,jD,jE,jF,jG,jH,jI,jJ,jK,jL,jN,jO,jP,jQ,jR,jS,jT,jU,jV,jW,jY,jZ,j_,z0,z1],[]⟩ wr:=by
 have HNO:=h_ hN;have HP:=h_ hp;have HCB:=h_ CB;have HCE:=h_ CE;clear hN hp CB CE
 conv=>arg 2;whnf
 refine wp_seq_cut (fun K7 hK7=>?_)
 have k8:=HB.out.cell;have l8:=HB.out.lt;have hnm:=HP.out.name;have hsz:=HP.out.text;have HYE:=h_ hQ;clear hQ;have _:=hdi;have _:=hd5
 have gk0:(x.kind==0)=true:=by rw [hk];rfl
 have HK:=h_ hk;clear hk;have g0:(0:Int)<=0:=Int.le_refl _;go_wp2_with fail
 go_loopw [9] (fun x9 wq=>∃ m:Nat,m<=x.text.size/\x9=.int .i64 m/\wq=wr/\Hid (∀ j (h:j < x.text.size),j < m->x.text[j]≠123)) (fun x9 _=>x.text.size - (Lib.intOf x9).toNat)
 case atStart=>exact ⟨0,Nat.zero_le _,rfl,rfl,h_ (fun j _ h=>absurd h (Nat.not_lt_zero _))⟩
 case round=>
  obtain ⟨m,hm,rfl,rfl,HJ⟩:=hrel
  by_cases hlt:m < x.text.size
  ·have hg0:(0:Int)<=(m:Int):=by omega
   have hg1:(m:Int) < (x.text.size:Int):=by omega
   have hwk:IntKind.i64.wrap ((m:Int)+1)=(m:Int)+1:=wrap_fit (by omega) (by omega)
   by_cases hc:x.text[m]=123
   ·have hcb:(x.text[m].toNat==123)=true:=by rw [hc];rfl
    have hci:(((x.text[m].toNat:Nat):Int)==123)=true:=by rw [hc];rfl
    go_wp2_with fail
    apply HNO.out;exact h_ (Below.refl _ _)
   ·have hcb:(x.text[m].toNat==123)=false:=bf_ (fun e=>hc (UInt8.toNat_inj.1 e))
    have hci:(((x.text[m].toNat:Nat):Int)==123)=false:=bf_ (fun e=>hc (UInt8.toNat_inj.1 (by exact_mod_cast e)))
    have HJN:=h_ (show ∀ j (h:j < x.text.size),j < m+1->x.text[j]≠123 from fun j hj h3=>by
     rcases Nat.lt_or_ge j m with h4 | h4
     ·exact HJ.out j hj h4
     ·obtain rfl:j=m:=by omega
      exact hc)
    go_wp2_with fail
    go_roundw
    case rel=>exact ⟨m+1,by omega,by go_num,by first | trivial | rfl,HJN⟩
    case measure=>simp [Lib.intOf];omega
  ·obtain rfl:m=x.text.size:=by omega
   clear hlt
   have HB0:=h_ (show ∀ c ∈ x.text.data.toList,c≠123 from fun c hc=>by
    obtain ⟨j,hj,e⟩:=List.getElem_of_mem hc
    have hj2:j < x.text.size:=by rw [size_list];exact hj
    have h9:=HJ.out j hj2 hj2;rw [<-e]
    exact h9)
   have e1:=h5.out.2.2.1 (.inl (by have:=HK.out;omega));have e2:=h5.out.2.2.2 (.inl (by have:=HK.out;omega));have MK:=h_ (show x.text≠⟨#[]⟩->x.x=Ex.zero->x.name=⟨#[]⟩->SoundN d (tp=true) x from fun t1 t2 t3=> .mk d _ x (⟨by have:=HK.out;omega,h5.out.1,h5.out.2.1,h5.out.2.2.1,h5.out.2.2.2,fun _=>⟨t1,HB0.out,t2,t3⟩,fun h9=>absurd h9 (by have:=HK.out;omega),fun h9=>absurd h9 (by have:=HK.out;omega),fun h9=>absurd h9 (by have:=HK.out;omega),fun h9=>absurd h9 (by have:=HK.out;omega),fun h9=>absurd HK.out h9⟩:OwnN (tp=true) x) (.inl ⟨e1,e2⟩) (by rw [e1];intro y hy;cases hy) (by rw [e1];trivial) (by rw [e2];intro y hy;cases hy) (by rw [e2];trivial));clear e1 e2;go_upto_region 15 with fail
   rcases hqq.out with ⟨hq,hP⟩ | ⟨b,bo,m9,pk,hq,hml,hll,ha,hpk,hP⟩
   ·have HQ0:=h_ hq;have HP0:=h_ hP;clear hq hP
    refine sd_15a HP.out hW HB HQ0 (fun r1 _ _ _ _ _ _ _ _ _ _ _ _ _ _ _ _ _ _ _ _ _ _ _ _ _ _ wx1 hb1 hr1=>?_)
    cases r1 with
    | true=>
     clear hr1;go_wp2_with fail
     apply HNO.out;exact hb1
    | false=>
     have F1:=h_ (hr1 rfl);clear hr1;go_wp2_with fail
     apply HYE.out;exact hb1;exact h_ ⟨MK.out F1.out.1 F1.out.2.2.1 F1.out.2.2.2,HP0.out⟩
   ·have HQ0:=h_ hq;have HP0:=h_ hP;have HA0:=h_ ha;have HC0:=h_ hpk;clear hq hP ha hpk
    refine sd_15b HP.out hW HB HQ0 hml hll HA0 HC0.out (fun r1 _ _ _ _ _ _ _ _ _ _ _ _ _ _ _ _ _ _ _ _ _ _ _ _ _ _ wx1 hb1 hr1=>?_)
    cases r1 with
    | true=>
     clear hr1;go_wp2_with fail
     apply HNO.out;exact hb1
    | false=>
     have F1:=h_ (hr1 rfl);clear hr1;go_wp2_with fail
     apply HYE.out;exact hb1;exact h_ ⟨MK.out F1.out.1 F1.out.2.2.1 F1.out.2.2.2,HP0.out F1.out.2.1⟩
end
theorem OwnN.imp {p q:Prop} {x:Nd} (h:OwnN p x) (hpq:p->q):OwnN q x:=⟨h.kind,h.text,h.key,h.body,h.els,h.txt,h.none,h.range,h.set,fun hk=>⟨(h.define hk).1,hpq (h.define hk).2.1,(h.define hk).2.2⟩,h.expr⟩
theorem SoundN.imp {d:Nat} {p q:Prop} {x:Nd} (h:SoundN d p x) (hpq:p->q):SoundN d q x:=.mk d q x (h.own.imp hpq) h.deep h.body h.abody h.els h.aels
theorem apart_of:∀ {l:List Nd},(∀ j (h:j+1 < l.length),¬ (l[j].kind=0/\l[j+1].kind=0))->apartN l
 | [],_=>trivial
 | [x],_=>trivial
 | x::y::l,h=>⟨h 0 (by simp),apart_of (l:=y::l) (fun j hj=>by have:=h (j+1) (by simpa using hj);simpa using this)⟩
def SoundR (l:List Nd):Prop:=∀ (w:World) (S:Nat->Prop) (a:OA_) (c:Nat) (W:World) (di:Int) (tp:Bool),RepNs w S a l->Room l.length c 264->Below w.heap.size w W-> -1<=di->di<=5->(0<=di\/l=[])->Calls Tryz.prog 25 #[.slice a l.length c,.int .i64 di,.bool tp] W (SoundI l di.toNat (tp=true) W)
def SdA (l:List Nd) (q:Nat) (d:Nat) (top:Prop):Prop:=(∀ j (h:j < l.length),j < q->SoundN d top l[j])/\∀ j (h:j+1 < l.length),j+1 < q->¬ (l[j].kind=0/\l[j+1].kind=0)
theorem sdA_next {l:List Nd} {q d:Nat} {top:Prop} (h:SdA l q d top) (hq:q < l.length) (hn:SoundN d top l[q]) (ha:∀ j (h:j+1 < l.length),j+1=q->¬ (l[j].kind=0/\l[j+1].kind=0)):SdA l (q+1) d top:=by
 refine ⟨fun j hj h3=>?_,fun j hj h3=>?_⟩
 ·rcases Nat.lt_or_ge j q with h4 | h4
  ·exact h.1 j hj h4
  ·obtain rfl:j=q:=by omega
   exact hn
 ·rcases Nat.lt_or_ge (j+1) q with h4 | h4
  ·exact h.2 j hj h4
  ·exact ha j hj (by omega)
theorem rsound7 (l:List Nd):SoundR l:=by
 refine Nd.lists ?_ l
 intro l hP w S a c W di tp hx hroom hW hd0 hd1 hdl;have HP:=h_ hP;have HX:=h_ hx;have HW:=h_ hW;have hn1:=hroom.2.2;clear hP hx hW
 go_enter Tryz.func25,Tryz.ntmps25
 go_wp2_with fail
 go_loopw [7] (fun x7 wr=>∃ q:Nat,q<=l.length/\x7=.int .i64 q/\Hid (SdA l q di.toNat (tp=true))/\Hid (Below W.heap.size W wr)) (fun x7 _=>l.length - (Lib.intOf x7).toNat)
 case atStart=>exact ⟨0,Nat.zero_le _,rfl,h_ ⟨fun j _ h=>absurd h (Nat.not_lt_zero _),fun j _ h=>absurd h (Nat.not_lt_zero _)⟩,h_ (Below.refl _ _)⟩
 case round=>
  obtain ⟨q,hq,rfl,HH,HB⟩:=hrel
  by_cases hlt:q < l.length
  ·have hdi0:0<=di:=hdl.resolve_right (fun e=>by rw [e] at hlt;exact absurd hlt (Nat.not_lt_zero _))
   obtain ⟨d,hd⟩:∃ z,z=di.toNat:=⟨_,rfl⟩
   have hdd:di=(d:Int):=by omega
   have hd5:d<=5:=by omega
   rw [<-hd] at HH;obtain ⟨b,bo,cs,rfl,hSb,hcell,hry⟩:=HX.out q hlt;have hpq:=HP.out l[q] (List.getElem_mem hlt);obtain ⟨y,hy⟩:∃ z,z=l[q]:=⟨_,rfl⟩;rw [<-hy] at hry hpq;obtain ⟨la,lc,ma,mc,sa,sc,aa,ac,ba,bc,ea,ec,rfl,hp⟩:=hry.inv;have hlt0:b < w.heap.size:=hcell.lt;have HWR:=h_ (show Below w.heap.size w wr from HW.out.trans (HB.out.mono HW.out.size))
   have hcw:cellsAt wr b (bo+q*16) [.int .i64 y.kind,.string y.text,.int .i64 y.x.kind,.int .i64 y.x.val.kind,.bool y.x.val.bool,.int .i64 y.x.val.int,.string y.x.val.str,.slice la y.x.val.list.length lc,.slice ma y.x.val.map.length mc,.string y.x.name,.slice sa y.x.steps.length sc,.slice aa y.x.args.length ac,.string y.key,.string y.name,.slice ba y.body.length bc,.slice ea y.els.length ec]:=hcell.keep fun i=>HWR.out.cell (p:=⟨b,i,none⟩) hlt0
   have c0:wr.cell? ⟨b,bo+q*16,none⟩=some (.int .i64 y.kind):=hcw 0 _ rfl;have c1:wr.cell? ⟨b,bo+q*16+1,none⟩=some (.string y.text):=hcw 1 _ rfl;have c2:wr.cell? ⟨b,bo+q*16+2,none⟩=some (.int .i64 y.x.kind):=hcw 2 _ rfl;have c3:wr.cell? ⟨b,bo+q*16+3,none⟩=some (.int .i64 y.x.val.kind):=hcw 3 _ rfl;have c4:wr.cell? ⟨b,bo+q*16+4,none⟩=some (.bool y.x.val.bool):=hcw 4 _ rfl;have c5:wr.cell? ⟨b,bo+q*16+5,none⟩=some (.int .i64 y.x.val.int):=hcw 5 _ rfl;have c6:wr.cell? ⟨b,bo+q*16+6,none⟩=some (.string y.x.val.str):=hcw 6 _ rfl;have c7:wr.cell? ⟨b,bo+q*16+7,none⟩=some (.slice la y.x.val.list.length lc):=hcw 7 _ rfl;have c8:wr.cell? ⟨b,bo+q*16+8,none⟩=some (.slice ma y.x.val.map.length mc):=hcw 8 _ rfl;have c9:wr.cell? ⟨b,bo+q*16+9,none⟩=some (.string y.x.name):=hcw 9 _ rfl;have c10:wr.cell? ⟨b,bo+q*16+10,none⟩=some (.slice sa y.x.steps.length sc):=hcw 10 _ rfl;have c11:wr.cell? ⟨b,bo+q*16+11,none⟩=some (.slice aa y.x.args.length ac):=hcw 11 _ rfl;have c12:wr.cell? ⟨b,bo+q*16+12,none⟩=some (.string y.key):=hcw 12 _ rfl;have c13:wr.cell? ⟨b,bo+q*16+13,none⟩=some (.string y.name):=hcw 13 _ rfl;have c14:wr.cell? ⟨b,bo+q*16+14,none⟩=some (.slice ba y.body.length bc):=hcw 14 _ rfl;have c15:wr.cell? ⟨b,bo+q*16+15,none⟩=some (.slice ea y.els.length ec):=hcw 15 _ rfl;have hlb:b < wr.heap.size:=Nat.lt_of_lt_of_le hlt0 HWR.out.size
   have hg0:(0:Int)<=(q:Int):=by omega
   have hg1:(q:Int) < (l.length:Int):=by omega
   have hwk:IntKind.i64.wrap ((q:Int)+1)=(q:Int)+1:=wrap_fit (by omega) (by omega)
   have CB:(0 < d\/y.body=[])->∀ w2,Below w.heap.size w w2->Calls Tryz.prog 25 #[.slice ba y.body.length bc,.int .i64 (di - 1),.bool false] w2 (SoundI y.body (d - 1) False w2):=fun h w2 hb=>by
    have h9:=hpq.1 w S ba bc w2 (di - 1) false hp.body hp.broom hb (by omega) (by omega) (h.imp (fun h=>by omega) id);rw [show (di - 1).toNat=d - 1 from by omega] at h9
    exact h9.mono fun e w' ⟨r,h1,h2,h3⟩=>⟨r,h1,h2,fun h=>⟨fun z hz=>((h3 h).1 z hz).imp (fun e=>by cases e),(h3 h).2⟩⟩
   have CE:(0 < d\/y.els=[])->∀ w2,Below w.heap.size w w2->Calls Tryz.prog 25 #[.slice ea y.els.length ec,.int .i64 (di - 1),.bool false] w2 (SoundI y.els (d - 1) False w2):=fun h w2 hb=>by
    have h9:=hpq.2 w S ea ec w2 (di - 1) false hp.els hp.eroom hb (by omega) (by omega) (h.imp (fun h=>by omega) id);rw [show (di - 1).toNat=d - 1 from by omega] at h9
    exact h9.mono fun e w' ⟨r,h1,h2,h3⟩=>⟨r,h1,h2,fun h=>⟨fun z hz=>((h3 h).1 z hz).imp (fun e=>by cases e),(h3 h).2⟩⟩
   have HCB:=h_ CB;have HCE:=h_ CE;have HPP:=h_ hp;have HY:=h_ hy;have HDI:=h_ hdd;have HD:=h_ hd
   have HPK:=h_ (fun (m:Nat) (hm:m < q) (w2:World) (hb2:Below w.heap.size w w2)=>show w2.cell? ⟨b,bo+m*16,none⟩=some (.int .i64 (l[m]'(by omega)).kind) from by
    obtain ⟨b2,bo2,cs2,e2, -,hc2,hr2⟩:=HX.out m (by omega)
    injection e2 with e2
    injection e2 with e21 e22
    subst e21 e22;obtain ⟨_,_,_,_,_,_,_,_,_,_,_,_,rfl, -⟩:=hr2.inv
    exact (hb2.cell (p:=⟨b,bo+m*16,none⟩) hlt0).trans (hc2 0 _ rfl))
   have HBA:=h_ (HB.out.alloc HB.out.size (.cells #[.int .i64 y.kind,.string y.text,.int .i64 y.x.kind,.int .i64 y.x.val.kind,.bool y.x.val.bool,.int .i64 y.x.val.int,.string y.x.val.str,.slice la y.x.val.list.length lc,.slice ma y.x.val.map.length mc,.string y.x.name,.slice sa y.x.steps.length sc,.slice aa y.x.args.length ac,.string y.key,.string y.name,.slice ba y.body.length bc,.slice ea y.els.length ec] 70));have HWA:=h_ (HWR.out.alloc HWR.out.size (.cells #[.int .i64 y.kind,.string y.text,.int .i64 y.x.kind,.int .i64 y.x.val.kind,.bool y.x.val.bool,.int .i64 y.x.val.int,.string y.x.val.str,.slice la y.x.val.list.length lc,.slice ma y.x.val.map.length mc,.string y.x.name,.slice sa y.x.steps.length sc,.slice aa y.x.args.length ac,.string y.key,.string y.name,.slice ba y.body.length bc,.slice ea y.els.length ec] 70));have HA:=h_ (Blk.new wr 70 #[.int .i64 y.kind,.string y.text,.int .i64 y.x.kind,.int .i64 y.x.val.kind,.bool y.x.val.bool,.int .i64 y.x.val.int,.string y.x.val.str,.slice la y.x.val.list.length lc,.slice ma y.x.val.map.length mc,.string y.x.name,.slice sa y.x.steps.length sc,.slice aa y.x.args.length ac,.string y.key,.string y.name,.slice ba y.body.length bc,.slice ea y.els.length ec]);clear hcell hcw hry hp hpq hy hSb CB CE hdd hd hdl;go_upto_region 5 with fail;obtain ⟨WA,eA⟩:∃ z,z=wr.alloc (.cells #[.int .i64 y.kind,.string y.text,.int .i64 y.x.kind,.int .i64 y.x.val.kind,.bool y.x.val.bool,.int .i64 y.x.val.int,.string y.x.val.str,.slice la y.x.val.list.length lc,.slice ma y.x.val.map.length mc,.string y.x.name,.slice sa y.x.steps.length sc,.slice aa y.x.args.length ac,.string y.key,.string y.name,.slice ba y.body.length bc,.slice ea y.els.length ec] 70):=⟨_,rfl⟩;obtain ⟨n8,e8⟩:∃ z,z=wr.heap.size:=⟨_,rfl⟩;rw [<-eA] at HBA HWA HA;rw [<-e8] at HA;rw [<-eA,<-e8];clear eA e8 c0 c1 c2 c3 c4 c5 c6 c7 c8 c9 c10 c11 c12 c13 c14 c15
   rename_i K7 hK7 K6 hK6
   refine sd_5 HPP.out HA (fun r1 _ _ _ _ _ _ _ _ _ _ _ _ _ _ _ _ _ _ _ _ _ _ _ _ _ _ _ _ _ _ _ _ _ _ _ _ _ _ _ _ _ _ _ _ _ _ _ _ _ wx1 hb1 hr1=>?_)
   have HB1:=h_ (Below.next HBA.out hb1.out);have HW1:=h_ (HWA.out.trans (hb1.out.mono HWA.out.size));have HA1:=h_ (HA.out.keep hb1.out)
   cases r1 with
   | true=>
    clear hr1;go_wp2_with fail;go_ret
    exact ⟨false,rfl,HB1.out,fun h=>by cases h⟩
   | false=>
    have F1:=h_ (hr1 rfl);clear hr1 hb1
    refine hK6 _ _ (wp_cond_false (by rfl) (wp_skip ?_))
    refine hK7 _ _ ?_
    clear hK6 hK7
    have hcls:y.kind=0\/y.kind=1\/y.kind=2\/y.kind=3\/y.kind=4\/y.kind=5\/y.kind=6\/(y.kind < 0\/6 < y.kind):=by omega
    rcases hcls with hk | hk | hk | hk | hk | hk | hk | hk
    ·refine sd_k0 (P:=∀ j (h:j+1 < l.length),j+1=q->¬ (l[j].kind=0/\l[j+1].kind=0)) HPP.out HW1 HA1 HDI hd5 HCB.out HCE.out F1 hk (h_ ?_) ?_ ?_
     ·by_cases hq0:q=0
      ·exact .inl ⟨by rw [hq0];rfl,fun j hj e=>absurd e (by omega)⟩
      ·obtain ⟨m9,hm9⟩:∃ z,q=z+1:=⟨q - 1,by omega⟩
       exact .inr ⟨_,_,m9,_,by rw [hm9];simp,by omega,by omega,rfl,HPK.out m9 (by omega) _ HW1.out,fun hpk j hj e h=>hpk (by have h7:j=m9:=(by omega);subst h7;exact h.1)⟩
     ·intros;rename_i wz hbz;go_ret;exact ⟨false,rfl,Below.next HB1.out hbz.out,fun h=>by cases h⟩
     ·intros
      rename_i wz hbz hsz
      have HN:=h_ (show SdA l (q+1) d (tp=true) from sdA_next HH.out hlt (by rw [<-HY.out];exact hsz.out.1) (hsz.out.2));rw [HD.out] at HN;go_wp2_with fail
      go_roundw
      case rel=>exact ⟨q+1,by omega,by go_num,HN,h_ (Below.next HB1.out hbz.out)⟩
      case measure=>simp [Lib.intOf];omega
    ·refine sd_k123 HPP.out HW1 HA1 HDI hd5 HCB.out HCE.out F1 (by omega) ?_ ?_
     ·intros;rename_i wz hbz;go_ret;exact ⟨false,rfl,Below.next HB1.out hbz.out,fun h=>by cases h⟩
     ·intros
      rename_i wz hbz hsz
      have HN:=h_ (show SdA l (q+1) d (tp=true) from sdA_next HH.out hlt (by rw [<-HY.out];exact hsz.out) (fun j hj e h=>absurd h.2 (by have h7:l[j+1]=y:=(by rw [HY.out];congr 1);rw [h7];omega)));rw [HD.out] at HN;go_wp2_with fail
      go_roundw
      case rel=>exact ⟨q+1,by omega,by go_num,HN,h_ (Below.next HB1.out hbz.out)⟩
      case measure=>simp [Lib.intOf];omega
    ·refine sd_k123 HPP.out HW1 HA1 HDI hd5 HCB.out HCE.out F1 (by omega) ?_ ?_
     ·intros;rename_i wz hbz;go_ret;exact ⟨false,rfl,Below.next HB1.out hbz.out,fun h=>by cases h⟩
     ·intros
      rename_i wz hbz hsz
      have HN:=h_ (show SdA l (q+1) d (tp=true) from sdA_next HH.out hlt (by rw [<-HY.out];exact hsz.out) (fun j hj e h=>absurd h.2 (by have h7:l[j+1]=y:=(by rw [HY.out];congr 1);rw [h7];omega)));rw [HD.out] at HN;go_wp2_with fail
      go_roundw
      case rel=>exact ⟨q+1,by omega,by go_num,HN,h_ (Below.next HB1.out hbz.out)⟩
      case measure=>simp [Lib.intOf];omega
    ·refine sd_k123 HPP.out HW1 HA1 HDI hd5 HCB.out HCE.out F1 (by omega) ?_ ?_
     ·intros;rename_i wz hbz;go_ret;exact ⟨false,rfl,Below.next HB1.out hbz.out,fun h=>by cases h⟩
     ·intros
      rename_i wz hbz hsz
      have HN:=h_ (show SdA l (q+1) d (tp=true) from sdA_next HH.out hlt (by rw [<-HY.out];exact hsz.out) (fun j hj e h=>absurd h.2 (by have h7:l[j+1]=y:=(by rw [HY.out];congr 1);rw [h7];omega)));rw [HD.out] at HN;go_wp2_with fail
      go_roundw
      case rel=>exact ⟨q+1,by omega,by go_num,HN,h_ (Below.next HB1.out hbz.out)⟩
      case measure=>simp [Lib.intOf];omega
    ·refine sd_k4 HPP.out HW1 HA1 HDI hd5 HCB.out HCE.out F1 hk ?_ ?_
     ·intros;rename_i wz hbz;go_ret;exact ⟨false,rfl,Below.next HB1.out hbz.out,fun h=>by cases h⟩
     ·intros
      rename_i wz hbz hsz
      have HN:=h_ (show SdA l (q+1) d (tp=true) from sdA_next HH.out hlt (by rw [<-HY.out];exact hsz.out) (fun j hj e h=>absurd h.2 (by have h7:l[j+1]=y:=(by rw [HY.out];congr 1);rw [h7];omega)));rw [HD.out] at HN;go_wp2_with fail
      go_roundw
      case rel=>exact ⟨q+1,by omega,by go_num,HN,h_ (Below.next HB1.out hbz.out)⟩
      case measure=>simp [Lib.intOf];omega
    ·refine sd_k5 HPP.out HW1 HA1 HDI hd5 HCB.out HCE.out F1 hk ?_ ?_
     ·intros;rename_i wz hbz;go_ret;exact ⟨false,rfl,Below.next HB1.out hbz.out,fun h=>by cases h⟩
     ·intros
      rename_i wz hbz hsz
      have HN:=h_ (show SdA l (q+1) d (tp=true) from sdA_next HH.out hlt (by rw [<-HY.out];exact hsz.out) (fun j hj e h=>absurd h.2 (by have h7:l[j+1]=y:=(by rw [HY.out];congr 1);rw [h7];omega)));rw [HD.out] at HN;go_wp2_with fail
      go_roundw
      case rel=>exact ⟨q+1,by omega,by go_num,HN,h_ (Below.next HB1.out hbz.out)⟩
      case measure=>simp [Lib.intOf];omega
    ·refine sd_k6 HPP.out HW1 HA1 HDI hd5 HCB.out HCE.out F1 hk ?_ ?_
     ·intros;rename_i wz hbz;go_ret;exact ⟨false,rfl,Below.next HB1.out hbz.out,fun h=>by cases h⟩
     ·intros
      rename_i wz hbz hsz
      have HN:=h_ (show SdA l (q+1) d (tp=true) from sdA_next HH.out hlt (by rw [<-HY.out];exact hsz.out) (fun j hj e h=>absurd h.2 (by have h7:l[j+1]=y:=(by rw [HY.out];congr 1);rw [h7];omega)));rw [HD.out] at HN;go_wp2_with fail
      go_roundw
      case rel=>exact ⟨q+1,by omega,by go_num,HN,h_ (Below.next HB1.out hbz.out)⟩
      case measure=>simp [Lib.intOf];omega
    ·refine sd_kn HPP.out HW1 HA1 HDI hd5 HCB.out HCE.out F1 hk ?_
     intros;rename_i wz hbz;go_ret;exact ⟨false,rfl,Below.next HB1.out hbz.out,fun h=>by cases h⟩
  ·obtain rfl:q=l.length:=by omega
   clear hlt;go_wp2_with fail;go_ret
   exact ⟨true,rfl,HB.out,fun _=>⟨fun x hx=>by obtain ⟨j,hj,rfl⟩:=List.getElem_of_mem hx;exact HH.out.1 j hj hj,apart_of (fun j hj=>HH.out.2 j hj hj)⟩⟩
def SameR (l:List Nd):Prop:=∀ (w w2 W:World) (S S2:Nat->Prop) (a a2:OA_) (c c2:Nat),RepNs w S a l->RepNs w2 S2 a2 l->Room l.length c 264->Below w.heap.size w W->Below w2.heap.size w2 W->Calls Tryz.prog 13 #[.slice a l.length c,.slice a2 l.length c2] W fun e w'=>e=.returned (.bool true)/\Below W.heap.size W w'
theorem tsame7 (l:List Nd):SameR l:=by
 refine Nd.lists ?_ l
 intro l hP w w2 W S S2 a a2 c c2 hx hx2 hroom hW hW2;have HP:=h_ hP;have HX:=h_ hx;have HX2:=h_ hx2;have HW:=h_ hW;have HW2:=h_ hW2;have hn1:=hroom.2.2;clear hP hx hx2 hW hW2
 go_enter Tryz.func13,Tryz.ntmps13
 go_wp2_with fail
 go_loopw [15] (fun x15 wr=>∃ q:Nat,q<=l.length/\x15=.int .i64 q/\Hid (Below W.heap.size W wr)) (fun x15 _=>l.length - (Lib.intOf x15).toNat)
 case atStart=>exact ⟨0,Nat.zero_le _,rfl,h_ (Below.refl _ _)⟩
 case round=>
  obtain ⟨q,hq,rfl,HB⟩:=hrel
  by_cases hlt:q < l.length
  ·obtain ⟨b,bo,cs,rfl, -,hcell,hry⟩:=HX.out q hlt
   obtain ⟨b2,bo2,cs2,rfl, -,hcell2,hry2⟩:=HX2.out q hlt;have hpq:=HP.out l[q] (List.getElem_mem hlt)
   generalize l[q]=y at hry hry2 hpq
   obtain ⟨la,lc,ma,mc,sa,sc,aa,ac,ba,bc,ea,ec,rfl,hp⟩:=hry.inv;obtain ⟨la2,lc2,ma2,mc2,sa2,sc2,aa2,ac2,ba2,bc2,ea2,ec2,rfl,hp2⟩:=hry2.inv;have hlt0:b < w.heap.size:=hcell.lt;have hlt2:b2 < w2.heap.size:=hcell2.lt;have HWR:=h_ (show Below w.heap.size w wr from HW.out.trans (HB.out.mono HW.out.size));have HWR2:=h_ (show Below w2.heap.size w2 wr from HW2.out.trans (HB.out.mono HW2.out.size))
   have hcw:cellsAt wr b (bo+q*16) [.int .i64 y.kind,.string y.text,.int .i64 y.x.kind,.int .i64 y.x.val.kind,.bool y.x.val.bool,.int .i64 y.x.val.int,.string y.x.val.str,.slice la y.x.val.list.length lc,.slice ma y.x.val.map.length mc,.string y.x.name,.slice sa y.x.steps.length sc,.slice aa y.x.args.length ac,.string y.key,.string y.name,.slice ba y.body.length bc,.slice ea y.els.length ec]:=hcell.keep fun i=>HWR.out.cell (p:=⟨b,i,none⟩) hlt0
   have hdw:cellsAt wr b2 (bo2+q*16) [.int .i64 y.kind,.string y.text,.int .i64 y.x.kind,.int .i64 y.x.val.kind,.bool y.x.val.bool,.int .i64 y.x.val.int,.string y.x.val.str,.slice la2 y.x.val.list.length lc2,.slice ma2 y.x.val.map.length mc2,.string y.x.name,.slice sa2 y.x.steps.length sc2,.slice aa2 y.x.args.length ac2,.string y.key,.string y.name,.slice ba2 y.body.length bc2,.slice ea2 y.els.length ec2]:=hcell2.keep fun i=>HWR2.out.cell (p:=⟨b2,i,none⟩) hlt2
   have c0:wr.cell? ⟨b,bo+q*16,none⟩=some (.int .i64 y.kind):=hcw 0 _ rfl;have c1:wr.cell? ⟨b,bo+q*16+1,none⟩=some (.string y.text):=hcw 1 _ rfl;have c2:wr.cell? ⟨b,bo+q*16+2,none⟩=some (.int .i64 y.x.kind):=hcw 2 _ rfl;have c3:wr.cell? ⟨b,bo+q*16+3,none⟩=some (.int .i64 y.x.val.kind):=hcw 3 _ rfl;have c4:wr.cell? ⟨b,bo+q*16+4,none⟩=some (.bool y.x.val.bool):=hcw 4 _ rfl;have c5:wr.cell? ⟨b,bo+q*16+5,none⟩=some (.int .i64 y.x.val.int):=hcw 5 _ rfl;have c6:wr.cell? ⟨b,bo+q*16+6,none⟩=some (.string y.x.val.str):=hcw 6 _ rfl;have c7:wr.cell? ⟨b,bo+q*16+7,none⟩=some (.slice la y.x.val.list.length lc):=hcw 7 _ rfl;have c8:wr.cell? ⟨b,bo+q*16+8,none⟩=some (.slice ma y.x.val.map.length mc):=hcw 8 _ rfl;have c9:wr.cell? ⟨b,bo+q*16+9,none⟩=some (.string y.x.name):=hcw 9 _ rfl;have c10:wr.cell? ⟨b,bo+q*16+10,none⟩=some (.slice sa y.x.steps.length sc):=hcw 10 _ rfl;have c11:wr.cell? ⟨b,bo+q*16+11,none⟩=some (.slice aa y.x.args.length ac):=hcw 11 _ rfl;have c12:wr.cell? ⟨b,bo+q*16+12,none⟩=some (.string y.key):=hcw 12 _ rfl;have c13:wr.cell? ⟨b,bo+q*16+13,none⟩=some (.string y.name):=hcw 13 _ rfl;have c14:wr.cell? ⟨b,bo+q*16+14,none⟩=some (.slice ba y.body.length bc):=hcw 14 _ rfl;have c15:wr.cell? ⟨b,bo+q*16+15,none⟩=some (.slice ea y.els.length ec):=hcw 15 _ rfl;have d0:wr.cell? ⟨b2,bo2+q*16,none⟩=some (.int .i64 y.kind):=hdw 0 _ rfl;have d1:wr.cell? ⟨b2,bo2+q*16+1,none⟩=some (.string y.text):=hdw 1 _ rfl;have d2:wr.cell? ⟨b2,bo2+q*16+2,none⟩=some (.int .i64 y.x.kind):=hdw 2 _ rfl;have d3:wr.cell? ⟨b2,bo2+q*16+3,none⟩=some (.int .i64 y.x.val.kind):=hdw 3 _ rfl;have d4:wr.cell? ⟨b2,bo2+q*16+4,none⟩=some (.bool y.x.val.bool):=hdw 4 _ rfl;have d5:wr.cell? ⟨b2,bo2+q*16+5,none⟩=some (.int .i64 y.x.val.int):=hdw 5 _ rfl;have d6:wr.cell? ⟨b2,bo2+q*16+6,none⟩=some (.string y.x.val.str):=hdw 6 _ rfl;have d7:wr.cell? ⟨b2,bo2+q*16+7,none⟩=some (.slice la2 y.x.val.list.length lc2):=hdw 7 _ rfl;have d8:wr.cell? ⟨b2,bo2+q*16+8,none⟩=some (.slice ma2 y.x.val.map.length mc2):=hdw 8 _ rfl;have d9:wr.cell? ⟨b2,bo2+q*16+9,none⟩=some (.string y.x.name):=hdw 9 _ rfl;have d10:wr.cell? ⟨b2,bo2+q*16+10,none⟩=some (.slice sa2 y.x.steps.length sc2):=hdw 10 _ rfl;have d11:wr.cell? ⟨b2,bo2+q*16+11,none⟩=some (.slice aa2 y.x.args.length ac2):=hdw 11 _ rfl;have d12:wr.cell? ⟨b2,bo2+q*16+12,none⟩=some (.string y.key):=hdw 12 _ rfl;have d13:wr.cell? ⟨b2,bo2+q*16+13,none⟩=some (.string y.name):=hdw 13 _ rfl;have d14:wr.cell? ⟨b2,bo2+q*16+14,none⟩=some (.slice ba2 y.body.length bc2):=hdw 14 _ rfl;have d15:wr.cell? ⟨b2,bo2+q*16+15,none⟩=some (.slice ea2 y.els.length ec2):=hdw 15 _ rfl;have hlb:b < wr.heap.size:=Nat.lt_of_lt_of_le hlt0 HWR.out.size;have hlb2:b2 < wr.heap.size:=Nat.lt_of_lt_of_le hlt2 HWR2.out.size
   have hg0:(0:Int)<=(q:Int):=by omega
   have hg1:(q:Int) < (l.length:Int):=by omega
   have hwk:IntKind.i64.wrap ((q:Int)+1)=(q:Int)+1:=wrap_fit (by omega) (by omega);have CX:=h_ (fun (W2:World) (hb:Below w.heap.size w W2) (hb2:Below w2.heap.size w2 W2)=>texpr hp.x W2 S2 _ hb (hp2.x.keep hb2));have CB:=h_ (fun (W2:World) (hb:Below w.heap.size w W2) (hb2:Below w2.heap.size w2 W2)=>hpq.1 w w2 W2 S S2 ba ba2 bc bc2 hp.body hp2.body hp.broom hb hb2);have CE:=h_ (fun (W2:World) (hb:Below w.heap.size w W2) (hb2:Below w2.heap.size w2 W2)=>hpq.2 w w2 W2 S S2 ea ea2 ec ec2 hp.els hp2.els hp.eroom hb hb2);have hba:=Below.new wr (.cells (aN y la lc ma mc sa sc aa ac ba bc ea ec) 64);have HA0:=Blk.new wr 64 (aN y la lc ma mc sa sc aa ac ba bc ea ec);clear hcell hcell2 hcw hdw hry hry2 hp hp2 hpq;unfold aN at *;go_upto_region 6 with fail;obtain ⟨WA,eA⟩:∃ z,z=wr.alloc (.cells #[.int .i64 y.kind,.string y.text,.int .i64 y.x.kind,.int .i64 y.x.val.kind,.bool y.x.val.bool,.int .i64 y.x.val.int,.string y.x.val.str,.slice la y.x.val.list.length lc,.slice ma y.x.val.map.length mc,.string y.x.name,.slice sa y.x.steps.length sc,.slice aa y.x.args.length ac,.string y.key,.string y.name,.slice ba y.body.length bc,.slice ea y.els.length ec] 64):=⟨_,rfl⟩;obtain ⟨n6,e6⟩:∃ z,z=wr.heap.size:=⟨_,rfl⟩;rw [<-eA] at hba HA0;rw [<-e6] at HA0;rw [<-eA,<-e6];have hB1:=HB.out.alloc HB.out.size (.cells #[.int .i64 y.kind,.string y.text,.int .i64 y.x.kind,.int .i64 y.x.val.kind,.bool y.x.val.bool,.int .i64 y.x.val.int,.string y.x.val.str,.slice la y.x.val.list.length lc,.slice ma y.x.val.map.length mc,.string y.x.name,.slice sa y.x.steps.length sc,.slice aa y.x.args.length ac,.string y.key,.string y.name,.slice ba y.body.length bc,.slice ea y.els.length ec] 64);rw [<-eA] at hB1;have hla2:b2 < WA.heap.size:=Nat.lt_of_lt_of_le hlb2 hba.size;have f0:=(hba.cell (p:=⟨b2,bo2+q*16,none⟩) hlb2).trans d0;have f1:=(hba.cell (p:=⟨b2,bo2+q*16+1,none⟩) hlb2).trans d1;have f2:=(hba.cell (p:=⟨b2,bo2+q*16+2,none⟩) hlb2).trans d2;have f3:=(hba.cell (p:=⟨b2,bo2+q*16+3,none⟩) hlb2).trans d3;have f4:=(hba.cell (p:=⟨b2,bo2+q*16+4,none⟩) hlb2).trans d4;have f5:=(hba.cell (p:=⟨b2,bo2+q*16+5,none⟩) hlb2).trans d5;have f6:=(hba.cell (p:=⟨b2,bo2+q*16+6,none⟩) hlb2).trans d6;have f7:=(hba.cell (p:=⟨b2,bo2+q*16+7,none⟩) hlb2).trans d7;have f8:=(hba.cell (p:=⟨b2,bo2+q*16+8,none⟩) hlb2).trans d8;have f9:=(hba.cell (p:=⟨b2,bo2+q*16+9,none⟩) hlb2).trans d9;have f10:=(hba.cell (p:=⟨b2,bo2+q*16+10,none⟩) hlb2).trans d10;have f11:=(hba.cell (p:=⟨b2,bo2+q*16+11,none⟩) hlb2).trans d11;have f12:=(hba.cell (p:=⟨b2,bo2+q*16+12,none⟩) hlb2).trans d12;have f13:=(hba.cell (p:=⟨b2,bo2+q*16+13,none⟩) hlb2).trans d13;have f14:=(hba.cell (p:=⟨b2,bo2+q*16+14,none⟩) hlb2).trans d14;have f15:=(hba.cell (p:=⟨b2,bo2+q*16+15,none⟩) hlb2).trans d15;have HAK:=h_ HA0;have HBA:=h_ hB1;have HWA:=h_ (HWR.out.trans (hba.mono HWR.out.size));have HWA2:=h_ (HWR2.out.trans (hba.mono HWR2.out.size));clear hba HA0 hB1 eA e6 c0 d0 c1 d1 c2 d2 c3 d3 c4 d4 c5 d5 c6 d6 c7 d7 c8 d8 c9 d9 c10 d10 c11 d11 c12 d12 c13 d13 c14 d14 c15 d15;go_upto_region 7 with fail;have hbb:=Below.new WA (.cells #[.int .i64 y.kind,.string y.text,.int .i64 y.x.kind,.int .i64 y.x.val.kind,.bool y.x.val.bool,.int .i64 y.x.val.int,.string y.x.val.str,.slice la2 y.x.val.list.length lc2,.slice ma2 y.x.val.map.length mc2,.string y.x.name,.slice sa2 y.x.steps.length sc2,.slice aa2 y.x.args.length ac2,.string y.key,.string y.name,.slice ba2 y.body.length bc2,.slice ea2 y.els.length ec2] 70);have hB0:=Blk.new WA 70 #[.int .i64 y.kind,.string y.text,.int .i64 y.x.kind,.int .i64 y.x.val.kind,.bool y.x.val.bool,.int .i64 y.x.val.int,.string y.x.val.str,.slice la2 y.x.val.list.length lc2,.slice ma2 y.x.val.map.length mc2,.string y.x.name,.slice sa2 y.x.steps.length sc2,.slice aa2 y.x.args.length ac2,.string y.key,.string y.name,.slice ba2 y.body.length bc2,.slice ea2 y.els.length ec2];obtain ⟨WB,eB⟩:∃ z,z=WA.alloc (.cells #[.int .i64 y.kind,.string y.text,.int .i64 y.x.kind,.int .i64 y.x.val.kind,.bool y.x.val.bool,.int .i64 y.x.val.int,.string y.x.val.str,.slice la2 y.x.val.list.length lc2,.slice ma2 y.x.val.map.length mc2,.string y.x.name,.slice sa2 y.x.steps.length sc2,.slice aa2 y.x.args.length ac2,.string y.key,.string y.name,.slice ba2 y.body.length bc2,.slice ea2 y.els.length ec2] 70):=⟨_,rfl⟩;obtain ⟨n7,e7⟩:∃ z,z=WA.heap.size:=⟨_,rfl⟩;rw [<-eB] at hbb hB0;rw [<-e7] at hB0;rw [<-eB,<-e7];have HBB:=h_ (Below.next HBA.out hbb);have HWB:=h_ (HWA.out.trans (hbb.mono HWA.out.size));have HWB2:=h_ (HWA2.out.trans (hbb.mono HWA2.out.size));have H6:=h_ (HAK.out.keep hbb);have H7:=h_ hB0;clear hbb hB0 eB e7 f0 f1 f2 f3 f4 f5 f6 f7 f8 f9 f10 f11 f12 f13 f14 f15;have k6:=H6.out.cell;have l6:=H6.out.lt;have k7:=H7.out.cell;have l7:=H7.out.lt;go_wp2_with fail
   refine (CX.out _ HWB.out HWB2.out).mono ?_
   rintro e w3 ⟨rfl,hb3⟩;have H63:=h_ (H6.out.keep hb3);have H73:=h_ (H7.out.keep hb3);have HB3:=h_ (Below.next HBB.out hb3);have HW3:=h_ (HWB.out.trans (hb3.mono HWB.out.size));have HW32:=h_ (HWB2.out.trans (hb3.mono HWB2.out.size));clear hb3 k6 l6 k7 l7;have k6:=H63.out.cell;have l6:=H63.out.lt;have k7:=H73.out.cell;have l7:=H73.out.lt;go_wp2_with fail
   refine (CB.out _ HW3.out HW32.out).mono ?_
   rintro e w4 ⟨rfl,hb4⟩;have H64:=h_ (H63.out.keep hb4);have H74:=h_ (H73.out.keep hb4);have HB4:=h_ (Below.next HB3.out hb4);have HW4:=h_ (HW3.out.trans (hb4.mono HW3.out.size));have HW42:=h_ (HW32.out.trans (hb4.mono HW32.out.size));clear hb4 k6 l6 k7 l7;have k6:=H64.out.cell;have l6:=H64.out.lt;have k7:=H74.out.cell;have l7:=H74.out.lt;go_wp2_with fail
   refine (CE.out _ HW4.out HW42.out).mono ?_
   rintro e w5 ⟨rfl,hb5⟩;have HB5:=h_ (Below.next HB4.out hb5);clear hb5 k6 l6 k7 l7;go_wp2_with fail
   go_roundw
   case rel=>exact ⟨q+1,by omega,by go_num,HB5⟩
   case measure=>simp [Lib.intOf];omega
  ·obtain rfl:q=l.length:=by omega
   clear hlt;go_wp2_with fail;go_ret
   exact ⟨rfl,HB.out⟩
end Go.Proofs.YtnblmhfgmehnnaaGreatDoor
namespace Go.Proofs.YtnblmhfgmehnnaaGreatDoor
section
variable {p u:LB_} {d b:Int}
theorem plain_pad (hp:Blk_ p):plainOp ⟨p++u,d,b⟩=plainOp ⟨u,d,b⟩:=by
 unfold plainOp Rd.go Rd.fail
 simp only [skip_blank hp]
theorem op_pad (hp:Blk_ p):opX ⟨p++u,d,b⟩=opX ⟨u,d,b⟩:=by
 have e:∀ N,operandF (N+1) ⟨p++u,d,b⟩=operandF (N+1) ⟨u,d,b⟩:=fun N=>by
  rw [operandF,operandF,plain_pad hp]
  simp only [skip_blank hp]
 rw [<-op_is (n:=4*(p++u).length+1) (r:=⟨p++u,d,b⟩) (Nat.le_refl _),<-op_is (n:=4*(p++u).length+1) (r:=⟨u,d,b⟩) (by simp only [List.length_append];omega)]
 exact e _
theorem co_pad (hp:Blk_ p):coX ⟨p++u,d,b⟩=coX ⟨u,d,b⟩:=by rw [coX_eq,coX_eq,op_pad hp]
theorem pi_pad (hp:Blk_ p):piX ⟨p++u,d,b⟩=piX ⟨u,d,b⟩:=by rw [piX_eq,piX_eq,co_pad hp]
end
theorem all_gap {L p:LB_} {x:Ex} {a:Nat} (hp:Blk_ p) (hx:RightX 6 x):allF (p++(pipW L 7 x a).1)=(x,0):=by
 have h:=pip_ok L 7 6 x a 0 [] hx (by omega) (Int.le_refl _) (by omega) end_nil;rw [List.append_nil] at h
 have h2:baX x ⟨[],0,0⟩=(x,⟨[],0,0⟩):=by rw [baX_end (by show (skipB []).head? ≠_;simp [skipB,Lib.trimLeftS])];rfl
 exact allF_of ((pi_pad hp).trans (h.trans h2)) rfl
theorem all_quote {p:LB_} (s:ByteArray) (hp:Blk_ p):allF (p++quoteL s.data.toList)=(Ex.lit (tS s),0):=by
 have h1:=rd_lit (p:=p) (rest:=[]) (v:=tS s) (d:=0) (b:=0) hp end_nil.1 (.inr (.inr (.inr ⟨s,rfl⟩)));rw [List.append_nil] at h1
 have h2:piX ⟨p++quoteL s.data.toList,0,0⟩=(Ex.lit (tS s),⟨[],0,0⟩):=by
  rw [piX_eq,coX_eq,show opX ⟨p++quoteL s.data.toList,0,0⟩=_ from h1]
  simp only [if_true]
  rw [baX_end (by show (skipB []).head? ≠_;simp [skipB,Lib.trimLeftS])];rfl
 exact allF_of h2 rfl
theorem word_kw {w m:LB_} (hw:nameL w=true) (hm:∀ c,m.head? =some c->npartB c=false):wordL (w++m)=w/\nameD (w++m)=m:=by
 unfold wordL nameD;rw [nameK_app hw hm]
 exact ⟨List.take_left ..,List.drop_left ..⟩
theorem word_none {s:LB_} (h:∀ c,s.head? =some c->nletB c=false):wordL s=[]:=by
 cases s with
 | nil=>rfl
 | cons c t=>unfold wordL;rw [nameK,if_neg (by rw [h c rfl];decide)];rfl
theorem blk_head {g r:LB_} (hg:Blk_ g) (hn:g≠[]):∀ c,(g++r).head? =some c->c ∈ blanks:=by
 cases g with
 | nil=>exact absurd rfl hn
 | cons a g=>intro c hc;injection hc with hc;subst hc;exact hg _ (List.mem_cons_self ..)
theorem blk_part {g r:LB_} (hg:Blk_ g) (hn:g≠[]):∀ c,(g++r).head? =some c->npartB c=false:=fun c hc=>by
 rcases blank_cases (blk_head hg hn c hc) with rfl | rfl | rfl <;>decide
theorem gap_part (L:LB_) (a:Nat) (r:LB_):∀ c,((gapW L a).1++r).head? =some c->npartB c=false:=blk_part (gap_blk L a).1 (gap_blk L a).2
theorem free_not {s:LB_} (h:freeB s=true):¬ ownWord s:=by
 unfold freeB at h
 simp only [Bool.and_eq_true,bne_iff_ne,ne_eq] at h
 obtain ⟨⟨⟨⟨⟨h1,h2⟩,h3⟩,h4⟩,h5⟩,h6⟩:=h;rintro (e | e | e | e | e | e)
 ·exact h6 e
 ·exact h5 e
 ·exact h1 e
 ·exact h2 e
 ·exact h3 e
 ·exact h4 e
theorem own_nil:¬ ownWord []:=by unfold ownWord;decide
def StopV (r:LB_):Prop:=Stop_ r/\∀ c,(skipB r).head? =some c->c≠44/\c≠58
theorem stopV_nil:StopV []:=⟨end_nil.1,fun c hc=>by cases hc⟩
def NoV (s:LB_):Prop:=(varL s).2.2=true->∀ c,(varL s).2.1.head? =some c->c≠44/\c≠58
theorem varL_not {p t:LB_} {c:UInt8} (hp:Blk_ p) (h1:c ∉ blanks) (h2:c≠36):(varL (p++c::t)).2.2=false:=by
 unfold varL;rw [skip_blank hp,skip_none (fun c' hc'=>by injection hc' with hc';subst hc';exact h1)]
 split
 ·next l e=>injection e with e1 e2;exact absurd e1 h2
 ·rfl
theorem noV_not {p t:LB_} {c:UInt8} (hp:Blk_ p) (h1:c ∉ blanks) (h2:c≠36):NoV (p++c::t):=fun h=>by rw [varL_not hp h1 h2] at h;cases h
theorem varL_var {p nm R:LB_} (hp:Blk_ p) (hn:nameL nm=true) (hR:∀ c,R.head? =some c->npartB c=false):varL (p++36::(nm++R))=(bs nm,skipB R,true):=by
 unfold varL;rw [skip_blank hp,skip_none (fun c' hc'=>by injection hc' with hc';subst hc';decide)]
 simp only
 rw [(nameT_app hn hR).1,(nameT_app hn hR).2,nameK_app hn hR];obtain ⟨c,t,rfl, -⟩:=name_parts hn
 simp
theorem setL_noV {s:LB_} (h:NoV s):(setL s).2.2=false:=by
 by_cases hv:(varL s).2.2=true
 ·have h1:=h hv
  unfold setL
  simp only [hv,if_true]
  split
  ·next heq=>exact absurd rfl (h1 58 (by rw [heq];rfl)).2
  ·rfl
 ·unfold setL
  simp only [hv]
  simpa using hv
theorem let_set {L p nm r:LB_} {a:Nat} (hp:Blk_ p) (hn:nameL nm=true):setL (p++((letW L nm a).1++r))=(bs nm,(gapW L (gapW L a).2).1++r,true):=by
 have e:p++((letW L nm a).1++r)=p++36::(nm++((gapW L a).1++(58::61::((gapW L (gapW L a).2).1++r)))):=by simp [letW]
 rw [e];have hv:=varL_var hp hn (gap_part L a (58::61::((gapW L (gapW L a).2).1++r)));rw [skip_blank (gap_blk L a).1,skip_none (fun c' hc'=>by injection hc' with hc';subst hc';decide)] at hv;unfold setL;rw [hv]
 rfl
theorem let_var {L p nm r:LB_} {a:Nat} (hp:Blk_ p) (hn:nameL nm=true):varL (p++((letW L nm a).1++r))=(bs nm,58::61::((gapW L (gapW L a).2).1++r),true):=by
 have e:p++((letW L nm a).1++r)=p++36::(nm++((gapW L a).1++(58::61::((gapW L (gapW L a).2).1++r)))):=by simp [letW]
 rw [e];have hv:=varL_var hp hn (gap_part L a (58::61::((gapW L (gapW L a).2).1++r)))
 rwa [skip_blank (gap_blk L a).1,skip_none (fun c' hc'=>by injection hc' with hc';subst hc';decide)] at hv
theorem lit_head {x:Ex} (ho:OwnX x) (hk:x.kind=0):∃ c t,litW x.val=c::t/\c ∉ blanks/\c≠36:=by
 rcases (ho.lit hk).1 with h | ⟨b,h⟩ | ⟨n,h, -⟩ | ⟨s,h⟩
 ·rw [h];exact ⟨110,_,rfl,by decide,by decide⟩
 ·rw [h];cases b
  ·exact ⟨102,_,rfl,by decide,by decide⟩
  ·exact ⟨116,_,rfl,by decide,by decide⟩
 ·rw [h]
  obtain ⟨c,l,e,hc, -⟩:=num_head n
  refine ⟨c,l,e,?_⟩
  rcases hc with rfl | hc
  ·exact ⟨by decide,by decide⟩
  ·have hp:npartB c=true:=by unfold npartB;rw [hc,Bool.or_true]
   exact ⟨(npart_not hp).1,fun e=>by subst e;revert hc;decide⟩
 ·rw [h];exact ⟨34,_,rfl,by decide,by decide⟩
def NoVp (u:LB_):Prop:=∀ p r,Blk_ p->StopV r->NoV (p++(u++r))
theorem nov_low {L:LB_} {n:Nat} {x:Ex} {a:Nat} (ho:OwnX x) (hk:x.kind≠3):NoVp (opW L (pipW L n) x a).1:=by
 intro p r hp hr;unfold opW
 rcases ho.kind with h | h | h | h
 ·rw [if_pos h]
  obtain ⟨c,t,e,h1,h2⟩:=lit_head ho h
  show NoV (p++(litW x.val++r))
  rw [e,List.cons_append]
  exact noV_not hp h1 h2
 ·rw [if_neg (by omega),if_pos h]
  show NoV (p++((if x.steps=[] then [46] else stepsW x.steps)++r))
  split
  ·exact noV_not (c:=46) hp (by decide) (by decide)
  ·next hne=>
   cases hs:x.steps with
   | nil=>exact absurd hs hne
   | cons s l=>rw [stepsW_cons,List.cons_append];exact noV_not (c:=46) hp (by decide) (by decide)
 ·rw [if_neg (by omega),if_neg (by omega),if_pos h]
  show NoV (p++((36::(x.name.data.toList++stepsW x.steps))++r))
  rw [List.cons_append,List.append_assoc];intro _ c hc;rw [varL_var hp (ho.var h).1 (stepsW_head (stop_part hr.1))] at hc
  cases hs:x.steps with
  | nil=>rw [hs] at hc;exact hr.2 c hc
  | cons s l=>
   rw [hs,stepsW_cons,List.cons_append,skip_none (fun c' hc'=>by injection hc' with hc';subst hc';decide)] at hc
   injection hc with hc
   subst hc
   exact ⟨by decide,by decide⟩
 ·exact absurd h hk
theorem bar_stopV (L:LB_) (a a2:Nat) (r:LB_):StopV ((gapW L a).1++(124::((gapW L a2).1++r))):=by
 have hg:=gap_blk L a
 refine ⟨fun c hc=> .inl (blk_head hg.1 hg.2 c hc),fun c hc=>?_⟩
 rw [skip_blank hg.1,skip_none (fun c' hc'=>by injection hc' with hc';subst hc';decide)] at hc
 injection hc with hc
 subst hc
 exact ⟨by decide,by decide⟩
theorem call_split {L:LB_} {pipe:Ex->Nat->LB_ × Nat} {x:Ex} {l:List Ex} {pre:LB_} {a:Nat}:(callW L pipe x l pre a).1=pre++(x.name.data.toList++(argsW L pipe l a).1):=rfl
theorem pip_nov (L:LB_):∀ (n d:Nat) (x:Ex) (a:Nat),RightX d x->d+1<=n->NoVp (pipW L n x a).1
 | 0,d,x,a,hx,hn=>by omega
 | n+1,d,x,a,hx,hn=>by
  have ho:=hx.own;unfold pipW
  by_cases hk:x.kind=3
  ·rw [if_neg (fun h=>h hk)]
   obtain ⟨c,t,e,h1, -⟩:=name_parts (ho.call hk).1
   have call:∀ (l:List Ex) (a':Nat),NoVp (callW L (pipW L n) x l [] a').1:=fun l a' p r hp hr=>by
    rw [call_split,List.nil_append,e]
    exact noV_not hp (nlet_not h1).1 (nlet_not h1).2.2.2.2.2.1
   cases hl:x.args.getLast? with
   | none=>exact call _ _
   | some y=>
    simp only
    by_cases hp:(pickW L a 3).1=1
    ·rw [if_pos hp]
     have hy:y ∈ x.args:=by rw [<-last_cat hl];simp
     have hdp:0 < d:=hx.deep.resolve_left (fun e=>by rw [e] at hy;cases hy);have h2:=pip_nov L n (d - 1) y (pickW L a 3).2 (hx.args y hy) (by omega);intro p r hp hr;rw [call_split]
     simp only [List.append_assoc,List.cons_append]
     exact h2 p _ hp (bar_stopV L _ _ _)
    ·rw [if_neg hp]
     exact call _ _
  ·rw [if_pos hk]
   exact nov_low ho hk
theorem word_low {L:LB_} {n:Nat} {x:Ex} {a:Nat} {r:LB_} (ho:OwnX x) (hk:x.kind≠3) (hr:Stop_ r):¬ ownWord (wordL ((opW L (pipW L n) x a).1++r)):=by
 have none:∀ (c:UInt8) (t:LB_),nletB c=false->¬ ownWord (wordL (c::t)):=fun c t hc=>by
  rw [word_none (fun c' h'=>by injection h' with h';subst h';exact hc)];exact own_nil
 have lit:∀ l:LB_,nameL l=true->¬ ownWord l->¬ ownWord (wordL (l++r)):=fun l hl hw=>by rw [(word_kw hl (stop_part hr)).1];exact hw
 unfold opW
 rcases ho.kind with h | h | h | h
 ·rw [if_pos h]
  show ¬ ownWord (wordL (litW x.val++r))
  rcases (ho.lit h).1 with e | ⟨b,e⟩ | ⟨m,e, -⟩ | ⟨s,e⟩
  ·rw [e];exact lit [110,105,108] (by decide) (by unfold ownWord;decide)
  ·rw [e];cases b
   ·exact lit falseW (by decide) (by unfold ownWord;decide)
   ·exact lit trueW (by decide) (by unfold ownWord;decide)
  ·rw [e]
   obtain ⟨c,l,e2,hc, -⟩:=num_head m;rw [show litW (tN m)=Lib.itoa m from rfl,e2,List.cons_append]
   refine none c _ ?_
   rcases hc with rfl | hc
   ·decide
   ·cases hb:nletB c with
    | false=>rfl
    | true=>rw [(nlet_not hb).2.2.2.1] at hc;cases hc
  ·rw [e];exact none 34 _ (by decide)
 ·rw [if_neg (by omega),if_pos h]
  show ¬ ownWord (wordL ((if x.steps=[] then [46] else stepsW x.steps)++r))
  split
  ·exact none 46 _ (by decide)
  ·next hne=>
   cases hs:x.steps with
   | nil=>exact absurd hs hne
   | cons s l=>rw [stepsW_cons,List.cons_append];exact none 46 _ (by decide)
 ·rw [if_neg (by omega),if_neg (by omega),if_pos h]
  exact none 36 _ (by decide)
 ·exact absurd h hk
theorem pip_word (L:LB_):∀ (n d:Nat) (x:Ex) (a:Nat) (r:LB_),RightX d x->FreeX x->d+1<=n->Stop_ r->¬ ownWord (wordL ((pipW L n x a).1++r))
 | 0,d,x,a,r,hx,_,hn,_=>by omega
 | n+1,d,x,a,r,hx,hf,hn,hr=>by
  have ho:=hx.own;unfold pipW
  by_cases hk:x.kind=3
  ·rw [if_neg (fun h=>h hk)]
   have call:∀ (l:List Ex) (a':Nat),¬ ownWord (wordL ((callW L (pipW L n) x l [] a').1++r)):=fun l a'=>by
    rw [call_split,List.nil_append,List.append_assoc,(word_kw (ho.call hk).1 (stop_part (args_stop l a' hr))).1]
    exact free_not (hf.own hk)
   cases hl:x.args.getLast? with
   | none=>exact call _ _
   | some y=>
    simp only
    by_cases hp:(pickW L a 3).1=1
    ·rw [if_pos hp]
     have hy:y ∈ x.args:=by rw [<-last_cat hl];simp
     have hdp:0 < d:=hx.deep.resolve_left (fun e=>by rw [e] at hy;cases hy);rw [call_split]
     simp only [List.append_assoc,List.cons_append]
     exact pip_word L n (d - 1) y (pickW L a 3).2 _ (hx.args y hy) (hf.args y hy) (by omega) (bar_stopV L _ _ _).1
    ·rw [if_neg hp]
     exact call _ _
  ·rw [if_pos hk]
   exact word_low ho hk hr
def Nd.head (x:Nd):Nd:=.mk x.kind ⟨#[]⟩ x.x x.key x.name [] []
theorem mpipe_ok {m:Mk} {s:LB_} {x:Ex} (h:allF s=(x,0)):mpipe m s=(x,m):=by unfold mpipe;rw [h];rfl
theorem head_ok {L:LB_} {x:Nd} {top:Prop} {a:Nat} (ho:OwnN top x) (hk:x.kind=2\/x.kind=3\/x.kind=4) (hx:RightX 6 x.x) (m:Mk):headF (kwW x.kind) ((midW L x a).1++(pipW L 7 x.x (midW L x a).2).1) m=(x.head,m):=by
 have hg:=gap_blk L a;unfold Nd.head
 rcases hk with hk | hk | hk
 ·have em:midW L x a=gapW L a:=by unfold midW;rw [if_neg (by omega)]
  rw [em,hk,ho.key (by omega),ho.none (by omega)];unfold headF;rw [show kwW 2=ifW from rfl,if_pos rfl,mpipe_ok (all_gap hg.1 hx)]
 ·have em:midW L x a=gapW L a:=by unfold midW;rw [if_neg (by omega)]
  rw [em,hk,ho.key (by omega),ho.none (by omega)];unfold headF;rw [show kwW 3=withW from rfl,if_neg (by decide),if_pos rfl,mpipe_ok (all_gap hg.1 hx)]
 ·obtain ⟨hkey,hname⟩:=ho.range hk
  rw [hk];unfold headF;rw [show kwW 4=rangeW from rfl,if_neg (by decide),if_neg (by decide),if_neg (by decide)]
  by_cases h1:x.key=⟨#[]⟩
  ·by_cases h2:x.name=⟨#[]⟩
   ·have em:midW L x a=gapW L a:=by unfold midW;rw [if_pos hk,if_neg (fun h=>h h1),if_neg (fun h=>h h2)]
    rw [em,h1,h2]
    have hnv:NoV ((gapW L a).1++(pipW L 7 x.x (gapW L a).2).1):=by
     have:=pip_nov L 7 6 x.x (gapW L a).2 hx (by omega) (gapW L a).1 [] hg.1 stopV_nil
     rwa [List.append_nil] at this
    have hs:=setL_noV hnv
    simp only
    split
    ·next l e1 e2=>exact absurd rfl (hnv e1 44 (by rw [e2];rfl)).1
    ·rw [if_neg (by rw [hs];decide),mpipe_ok (all_gap hg.1 hx)]
   ·have em:midW L x a=((gapW L a).1++(letW L x.name.data.toList (gapW L a).2).1,(letW L x.name.data.toList (gapW L a).2).2):=by unfold midW;rw [if_pos hk,if_neg (fun h=>h h1),if_pos h2]
    rw [em,h1,List.append_assoc];have hv:=let_var (L:=L) (a:=(gapW L a).2) (r:=(pipW L 7 x.x (letW L x.name.data.toList (gapW L a).2).2).1) hg.1 (hname h2);have hs:=let_set (L:=L) (a:=(gapW L a).2) (r:=(pipW L 7 x.x (letW L x.name.data.toList (gapW L a).2).2).1) hg.1 (hname h2)
    simp only
    rw [hv]
    split
    ·next l e1 e2=>injection e2 with e2 _;exact absurd e2 (by decide)
    ·rw [hs]
     simp only [if_true]
     rw [mpipe_ok (all_gap (gap_blk L _).1 hx)]
  ·have h2:=(hkey h1).2
   have em:midW L x a=((gapW L a).1++(36::(x.key.data.toList++(44::((gapW L (gapW L a).2).1++(letW L x.name.data.toList (gapW L (gapW L a).2).2).1)))),(letW L x.name.data.toList (gapW L (gapW L a).2).2).2):=by unfold midW;rw [if_pos hk,if_pos h1]
   rw [em]
   have e2:∀ r:LB_,((gapW L a).1++(36::(x.key.data.toList++(44::((gapW L (gapW L a).2).1++(letW L x.name.data.toList (gapW L (gapW L a).2).2).1))))++r)=(gapW L a).1++36::(x.key.data.toList++44::((gapW L (gapW L a).2).1++((letW L x.name.data.toList (gapW L (gapW L a).2).2).1++r))):=fun r=>by simp
   have hp44:∀ (R:LB_) c,(44::R).head? =some c->npartB c=false:=fun R c hc=>by injection hc with hc;subst hc;decide
   have hv:=fun R=>varL_var (p:=(gapW L a).1) (R:=44::R) hg.1 (hkey h1).1 (hp44 R)
   have hs:=let_set (L:=L) (a:=(gapW L (gapW L a).2).2) (r:=(pipW L 7 x.x (letW L x.name.data.toList (gapW L (gapW L a).2).2).2).1) (gap_blk L (gapW L a).2).1 (hname h2)
   simp only
   rw [e2,hv,skip_none (fun c' hc'=>by injection hc' with hc';subst hc';decide)]
   simp only
   rw [hs]
   simp only [if_true]
   rw [mpipe_ok (all_gap (gap_blk L _).1 hx)]
theorem def_ok {L:LB_} {x:Nd} {top:Prop} {a:Nat} (ho:OwnN top x) (hk:x.kind=6) {m:Mk} (hm:m.deep<=1):headF defineW ((gapW L a).1++quoteL x.name.data.toList) m=(x.head,m):=by
 obtain ⟨h1, -,h3⟩:=ho.define hk;unfold headF Nd.head;rw [if_neg (by decide),if_neg (by decide),if_pos rfl,all_quote x.name (gap_blk L a).1,hk,h3,ho.key (by omega)]
 simp only
 rw [if_neg]
 ·rfl
 ·rintro (e | e | e | e | e)
  ·exact e rfl
  ·exact e rfl
  ·exact e rfl
  ·have:nameL x.name.data.toList=false:=e
   rw [h1] at this;cases this
  ·omega
def Tok.pr (t:Tok):Bool × LB_:=(t.act,t.s)
theorem tokP_app (l m:List Pc):tokP (l++m)=tokP l++tokP m:=List.flatMap_append
theorem tok_act (L b:LB_) (a:Nat):tokP (actW L b a).1=[(true,b)]:=by
 unfold actW
 simp only
 split <;>rfl
theorem map_app {ts:List Tok} {l m:List (Bool × LB_)} (h:ts.map Tok.pr=l++m):∃ t1 t2,ts=t1++t2/\t1.map Tok.pr=l/\t2.map Tok.pr=m:=by
 obtain ⟨t1,t2,h1,h2,h3⟩:=List.map_eq_append_iff.1 h
 exact ⟨t1,t2,h1,h2,h3⟩
theorem map_one {ts:List Tok} {a:Bool} {b:LB_} (h:ts.map Tok.pr=[(a,b)]):∃ t,ts=[t]/\t.act=a/\t.s=b:=by
 match ts,h with
 | [t],h=>
  simp only [List.map_cons,List.map_nil,List.cons.injEq,and_true] at h
  exact ⟨t,rfl,congrArg Prod.fst h,congrArg Prod.snd h⟩
theorem word_end:wordL endW=endW/\nameD endW=[]:=by decide
theorem word_else:wordL elseW=elseW/\nameD elseW=[]:=by decide
theorem Nd.flat {x:Nd} (ht:x.text=⟨#[]⟩):(x.head.setBody x.body).setEls x.els=x:=by
 obtain ⟨k,t,ex,ky,nm,bo,el⟩:=x
 simp only [Nd.text] at ht
 subst ht
 rfl
theorem Nd.flat0 {x:Nd} (ht:x.text=⟨#[]⟩) (he:x.els=[]):x.head.setBody x.body=x:=by
 obtain ⟨k,t,ex,ky,nm,bo,el⟩:=x
 simp only [Nd.text] at ht
 simp only [Nd.els] at he
 subst ht he
 rfl
section
variable (L:LB_)
def NdRd (n:Nat):Prop:=∀ (d:Nat) (top:Prop) (x:Nd) (a:Nat),SoundN d top x->2*d+2<=n->∀ (out:List Nd) (ts rest:List Tok) (dd bb:Int),ts.map Tok.pr=tokP (ndW L n x a).1->0<=dd->dd+d+1<=16->(top->dd=0)->noX out ⟨ts++rest,dd,bb⟩=noX (out++[x]) ⟨rest,dd,bb⟩
def OtRd (n:Nat):Prop:=∀ (d:Nat) (top:Prop) (x:Nd) (a:Nat),SoundN d top x->2*d+1<=n->x.kind=2\/x.kind=3\/x.kind=4->∀ (s:LB_) (tb ts rest:List Tok) (dd bb:Int),
 headF (kwW x.kind) s ⟨tb++(ts++rest),dd+1,bb⟩=(x.head,⟨tb++(ts++rest),dd+1,bb⟩)->(∀ R,noX [] ⟨tb++R,dd+1,bb⟩=noX x.body ⟨R,dd+1,bb⟩)->ts.map Tok.pr=tokP (otW L n x a).1->0<=dd->dd+d+1<=16->
 blX (kwW x.kind) s ⟨tb++(ts++rest),dd,bb⟩=(x,⟨rest,dd,bb⟩)
end
section
variable {L:LB_}
theorem wr_rd {node:Nd->Nat->List Pc × Nat} {dd bb:Int}:∀ (l:List Nd) (a:Nat),(∀ x ∈ l,∀ (a:Nat) (out:List Nd) (ts rest:List Tok),ts.map Tok.pr=tokP (node x a).1->noX out ⟨ts++rest,dd,bb⟩=noX (out++[x]) ⟨rest,dd,bb⟩)->
  ∀ (out:List Nd) (ts rest:List Tok),ts.map Tok.pr=tokP (wrW node l a).1->noX out ⟨ts++rest,dd,bb⟩=noX (out++l) ⟨rest,dd,bb⟩
 | [],a,_,out,ts,rest,h=>by
  have:ts=[]:=by simpa [wrW,tokP] using h
  subst this;rw [List.append_nil];rfl
 | x::l,a,hn,out,ts,rest,h=>by
  rw [wrW,tokP_app] at h;obtain ⟨t1,t2,rfl,h1,h2⟩:=map_app h;rw [List.append_assoc,hn x (List.mem_cons_self ..) a out t1 (t2++rest) h1,wr_rd l _ (fun y hy=>hn y (List.mem_cons_of_mem _ hy)) _ t2 rest h2,List.append_assoc]
  rfl
theorem up_is {rest:List Tok} {dd bb:Int}:(⟨rest,dd+1,bb⟩:Mk).up=⟨rest,dd,bb⟩:=by
 unfold Mk.up
 simp only
 rw [show dd+1 - 1=dd from by omega]
theorem kw_not (k:Int):kwW k≠defineW:=by
 unfold kwW
 split
 ·decide
 ·split <;>decide
theorem kw_own {k:Int}:kwW k=ifW\/kwW k=withW\/kwW k=rangeW\/kwW k=defineW:=by
 unfold kwW
 split
 ·exact .inl rfl
 ·split
  ·exact .inr (.inl rfl)
  ·exact .inr (.inr (.inl rfl))
theorem mid_part {x:Nd} {a:Nat} (r:LB_):∀ c,((midW L x a).1++r).head? =some c->npartB c=false:=by
 unfold midW
 split
 ·split
  ·rw [List.append_assoc];exact gap_part L a _
  ·split
   ·rw [List.append_assoc];exact gap_part L a _
   ·exact gap_part L a _
 ·exact gap_part L a _
theorem head_word {x:Nd} {a:Nat}:wordL (headW L x a).1=kwW x.kind/\nameD (headW L x a).1=(midW L x a).1++(pipW L 7 x.x (midW L x a).2).1:=word_kw (kw_name _) (mid_part _)
theorem nodes_rd (L:LB_):∀ n,NdRd L n/\OtRd L n
 | 0=>⟨fun d top x a _ h=>by omega,fun d top x a _ h=>by omega⟩
 | n+1=>by
  obtain ⟨hN,hO⟩:=nodes_rd L n
  have bodies:∀ (d:Nat) (l:List Nd) (a:Nat) (dd bb:Int),(∀ y ∈ l,SoundN (d - 1) False y)->(l=[]\/0 < d/\2*d<=n)->0<=dd->dd+d+1<=16->∀ (out:List Nd) (ts rest:List Tok),ts.map Tok.pr=tokP (wrW (ndW L n) l a).1->noX out ⟨ts++rest,dd+1,bb⟩=noX (out++l) ⟨rest,dd+1,bb⟩:=fun d l a dd bb hl hd h0 h16 out ts rest h=>by
   refine wr_rd l a (fun y hy a out ts rest h=>?_) out ts rest h
   have hd2:0 < d/\2*d<=n:=hd.resolve_left (fun e=>by rw [e] at hy;cases hy)
   exact hN (d - 1) False y a (hl y hy) (by omega) out ts rest (dd+1) bb h (by omega) (by omega) (fun e=>e.elim)
  refine ⟨fun d top x a hx hn out ts rest dd bb h h0 h16 htop=>?_,fun d top x a hx hn hk s tb ts rest dd bb hh hb h h0 h16=>?_⟩
  ·have ho:=hx.own
   have hbd:x.body=[]\/0 < d/\2*d<=n:=by
    rcases hx.deep with h | h
    ·exact .inl h.1
    ·exact .inr ⟨h,by omega⟩
   rw [ndW] at h
   by_cases k0:x.kind=0
   ·rw [if_pos k0] at h
    obtain ⟨t,rfl,e1,e2⟩:=map_one (show ts.map Tok.pr=[(false,x.text.data.toList)] from h);obtain ⟨-, -,h3,h4⟩:=ho.txt k0;rw [List.singleton_append,noX_text e1,e2,bs_of]
    congr 2
    have h5:=ho.key (by omega);have h6:=ho.body (.inl (by omega));have h7:=ho.els (.inl (by omega));obtain ⟨k,t,ex,ky,nm,bo,el⟩:=x
    simp only [Nd.kind,Nd.x,Nd.key,Nd.name,Nd.body,Nd.els] at k0 h3 h4 h5 h6 h7
    subst k0 h3 h4 h5 h6 h7
    rfl
   rw [if_neg k0] at h;have ht:=ho.text k0
   by_cases k1:x.kind=1
   ·rw [if_pos k1,tok_act] at h
    obtain ⟨t,rfl,e1,e2⟩:=map_one h;obtain ⟨r1,r2⟩:=ho.expr k0 (by omega);have w1:=pip_word L 7 6 x.x a [] r1 r2 (by omega) end_nil.1;have w2:=pip_nov L 7 6 x.x a r1 (by omega) [] [] (fun c hc=>by cases hc) stopV_nil;rw [List.append_nil] at w1;rw [List.append_nil,List.nil_append] at w2;rw [List.singleton_append,noX_out e1 (by rw [e2];exact w1) (by rw [e2];exact setL_noV w2) (by rw [e2];exact all_read r1 (by omega) (by omega))]
    congr 2
    have h4:=ho.none (.inl k1);have h5:=ho.key (by omega);have h6:=ho.body (.inl (by omega));have h7:=ho.els (.inl (by omega));obtain ⟨k,t,ex,ky,nm,bo,el⟩:=x
    simp only [Nd.kind,Nd.text,Nd.key,Nd.name,Nd.body,Nd.els] at k1 ht h4 h5 h6 h7
    subst k1 ht h4 h5 h6 h7
    rfl
   rw [if_neg k1] at h
   by_cases k5:x.kind=5
   ·rw [if_pos k5,tok_act] at h
    obtain ⟨t,rfl,e1,e2⟩:=map_one h;obtain ⟨r1, -⟩:=ho.expr k0 (by omega);have hn5:=ho.set k5
    have w1:¬ ownWord (wordL (setW L x a).1):=by rw [word_none (fun c hc=>by injection hc with hc;subst hc;decide)];exact own_nil
    have w2:=let_set (L:=L) (p:=[]) (a:=a) (r:=(pipW L 7 x.x (letW L x.name.data.toList a).2).1) (fun c hc=>by cases hc) hn5;rw [List.nil_append] at w2;rw [List.singleton_append,noX_let e1 (by rw [e2];exact w1) (by rw [e2];exact w2) (all_gap (gap_blk L _).1 r1),bs_of]
    congr 2
    have h5:=ho.key (by omega);have h6:=ho.body (.inr k5);have h7:=ho.els (.inr (by omega));obtain ⟨k,t,ex,ky,nm,bo,el⟩:=x
    simp only [Nd.kind,Nd.text,Nd.key,Nd.body,Nd.els] at k5 ht h5 h6 h7
    subst k5 ht h5 h6 h7
    rfl
   rw [if_neg k5] at h
   by_cases k6:x.kind=6
   ·rw [if_pos k6] at h
    unfold blkW at h;rw [tokP_app,tokP_app,tok_act,tok_act] at h;obtain ⟨t1,t2,rfl,g1,g2⟩:=map_app h;obtain ⟨t,rfl,e1,e2⟩:=map_one g1;obtain ⟨tb,te,rfl,g3,g4⟩:=map_app g2;obtain ⟨z,rfl,e3,e4⟩:=map_one g4;obtain ⟨hd1,hd2, -⟩:=ho.define k6;obtain ⟨ww,wd⟩:=word_kw (w:=defineW) (m:=(gapW L a).1++quoteL x.name.data.toList) (by decide) (gap_part L a _)
    have hw:wordL t.s=defineW:=by rw [e2];exact ww
    have hnd:nameD t.s=(gapW L a).1++quoteL x.name.data.toList:=by rw [e2];exact wd
    rw [List.append_assoc,List.singleton_append,noX_block e1 (by rw [hw];decide),hw,hnd]
    have hbl:blX defineW ((gapW L a).1++quoteL x.name.data.toList) ⟨tb++[z]++rest,dd,bb⟩=(x,⟨rest,dd,bb⟩):=by
     have hX:noX [] ⟨tb++[z]++rest,dd+1,bb⟩=(⟨x.body,endW,[]⟩,⟨rest,dd+1,bb⟩):=by
      rw [List.append_assoc,bodies d x.body _ dd bb hx.body hbd h0 h16 [] tb _ g3,List.nil_append,List.singleton_append,noX_stop e3 (by rw [e4,word_end.1];exact .inl rfl),e4,word_end.1,word_end.2]
     rw [blX_end (by omega) (def_ok ho k6 (by show dd+1<=1;have:=htop hd2;omega)) hX,up_is,Nd.flat0 ht (ho.els (.inr (by omega)))]
    rw [hbl]
   rw [if_neg k6] at h;unfold blkW at h;rw [tokP_app,tokP_app,tok_act] at h;obtain ⟨t1,t2,rfl,g1,g2⟩:=map_app h;obtain ⟨t,rfl,e1,e2⟩:=map_one g1;obtain ⟨tb,te,rfl,g3,g4⟩:=map_app g2;obtain ⟨r1, -⟩:=ho.expr k0 k6
   have hk:x.kind=2\/x.kind=3\/x.kind=4:=by rcases ho.kind with h | h | h | h | h | h | h <;>omega
   have hw:wordL t.s=kwW x.kind:=by rw [e2];exact head_word.1
   have hnd:nameD t.s=(midW L x a).1++(pipW L 7 x.x (midW L x a).2).1:=by rw [e2];exact head_word.2
   rw [List.append_assoc,List.singleton_append,noX_block e1 (by rw [hw];exact kw_own),hw,hnd,List.append_assoc];rw [hO d top x _ hx (by omega) hk _ tb te rest dd bb (head_ok ho hk r1 _) (fun R=>by have:=bodies d x.body _ dd bb hx.body hbd h0 h16 [] tb R g3;rwa [List.nil_append] at this) g4 h0 h16]
  ·have ho:=hx.own
   have ht:=ho.text (by omega)
   have hn16:¬ 16 < dd+1:=by omega
   have ed:x.els=[]\/0 < d/\2*d<=n:=by
    rcases hx.deep with h | h
    ·exact .inl h.2
    ·exact .inr ⟨h,by omega⟩
   have fin:∀ a0,ts.map Tok.pr=tokP (blkW L (elseW,a0) (wrW (ndW L n) x.els) (actW L endW)).1->blX (kwW x.kind) s ⟨tb++(ts++rest),dd,bb⟩=(x,⟨rest,dd,bb⟩):=fun a0 h=>by
    unfold blkW at h;rw [tokP_app,tokP_app,tok_act,tok_act] at h;obtain ⟨t1,t2,rfl,g1,g2⟩:=map_app h;obtain ⟨t,rfl,e1,e2⟩:=map_one g1;obtain ⟨te,t3,rfl,g3,g4⟩:=map_app g2;obtain ⟨z,rfl,e3,e4⟩:=map_one g4
    have hX:noX [] ⟨tb++([t]++(te++[z])++rest),dd+1,bb⟩=(⟨x.body,elseW,[]⟩,⟨te++[z]++rest,dd+1,bb⟩):=by
     rw [hb,List.append_assoc,List.singleton_append,noX_stop e1 (by rw [e2,word_else.1];exact .inr rfl),e2,word_else.1,word_else.2]
    have hY:noX [] ⟨te++[z]++rest,dd+1,bb⟩=(⟨x.els,endW,[]⟩,⟨rest,dd+1,bb⟩):=by
     rw [List.append_assoc,bodies d x.els _ dd bb hx.els ed h0 h16 [] te _ g3,List.nil_append,List.singleton_append,noX_stop e3 (by rw [e4,word_end.1];exact .inl rfl),e4,word_end.1,word_end.2]
    rw [blX_else hn16 hh (kw_not _) hX hY,up_is,Nd.flat ht]
   rw [otW] at h
   split at h
   ·next he=>
    rw [tok_act] at h;obtain ⟨t,rfl,e1,e2⟩:=map_one h
    have hX:noX [] ⟨tb++([t]++rest),dd+1,bb⟩=(⟨x.body,endW,[]⟩,⟨rest,dd+1,bb⟩):=by
     rw [hb,List.singleton_append,noX_stop e1 (by rw [e2,word_end.1];exact .inl rfl),e2,word_end.1,word_end.2]
    rw [blX_end hn16 hh hX,up_is,Nd.flat0 ht he]
   ·next y he=>
    have hd0:0 < d/\2*d<=n:=ed.resolve_left (by rw [he];simp);have hy:SoundN (d - 1) False y:=hx.els y (by rw [he];exact List.mem_cons_self ..)
    split at h
    ·next hkk=>
     split at h
     ·unfold blkW at h
      rw [tokP_app,tokP_app,tok_act] at h;obtain ⟨t1,t2,rfl,g1,g2⟩:=map_app h;obtain ⟨t,rfl,e1,e2⟩:=map_one g1;obtain ⟨tc,te,rfl,g3,g4⟩:=map_app g2;obtain ⟨r1, -⟩:=hy.own.expr (by omega) (by omega);obtain ⟨ww,wd⟩:=word_kw (w:=elseW) (m:=(gapW L (pickW L a 2).2).1++(headW L y (gapW L (pickW L a 2).2).2).1) (by decide) (gap_part L _ _)
      have hX:noX [] ⟨tb++([t]++(tc++te)++rest),dd+1,bb⟩=(⟨x.body,elseW,(gapW L (pickW L a 2).2).1++(headW L y (gapW L (pickW L a 2).2).2).1⟩,⟨tc++te++rest,dd+1,bb⟩):=by
       rw [hb,List.append_assoc,List.singleton_append,noX_stop e1 (by rw [e2,ww];exact .inr rfl),e2,ww,wd]
      have hsk:skipB ((gapW L (pickW L a 2).2).1++(headW L y (gapW L (pickW L a 2).2).2).1)=(headW L y (gapW L (pickW L a 2).2).2).1:=by
       rw [skip_blank (gap_blk L _).1]
       refine skip_none (fun c hc=>?_)
       unfold headW at hc;rw [hkk.2] at hc
       injection hc with hc
       subst hc;decide
      have hyk:y.kind=2\/y.kind=3\/y.kind=4:=.inl hkk.2
      have hwi:wordL (headW L y (gapW L (pickW L a 2).2).2).1=ifW:=by rw [head_word.1,hkk.2];rfl
      have hbd:y.body=[]\/0 < d - 1/\2*(d - 1)<=n:=by
       rcases hy.deep with h | h
       ·exact .inl h.1
       ·exact .inr ⟨h,by omega⟩
      have hIn:blX ifW (nameD (headW L y (gapW L (pickW L a 2).2).2).1) ⟨tc++te++rest,dd+1,bb⟩=(y,⟨rest,dd+1,bb⟩):=by
       have h2:=hO (d - 1) False y _ hy (by omega) hyk ((midW L y (gapW L (pickW L a 2).2).2).1++(pipW L 7 y.x (midW L y (gapW L (pickW L a 2).2).2).2).1) tc te rest (dd+1) bb (head_ok hy.own hyk r1 _) (fun R=>by have:=bodies (d - 1) y.body _ (dd+1) bb hy.body hbd (by omega) (by omega) [] tc R g3;rwa [List.nil_append] at this) g4 (by omega) (by omega);rw [hkk.2] at h2;rw [head_word.2,List.append_assoc]
       exact h2
      have hh2:=hh;rw [hkk.1] at hh2 ⊢;rw [show kwW 2=ifW from rfl] at hh2 ⊢;rw [blX_elif hn16 hh2 hX (by rw [hsk];exact hwi),hsk,hIn,up_is];have hf:=Nd.flat ht;rw [he] at hf;rw [hf]
     ·exact fin _ (by rw [he];exact h)
    ·exact fin _ (by rw [he];exact h)
   ·next he=>exact fin _ h
end
theorem nodes_read (L:LB_) {l:List Nd} {a:Nat} (hl:∀ x ∈ l,SoundN 5 True x) (ha:apartN l) (hz:(flatP (wrW (ndW L 12) l a).1).length<=65536):parseF (flatP (wrW (ndW L 12) l a).1)=(l,0):=by
 obtain ⟨h1,h2, -⟩:=wr_ok (node:=ndW L 12) l a (fun x hx a=>(nodes_pcs L 12).1 5 True x a (hl x hx) (by omega)) ha;have h3:=h2 [] trivial trivial;rw [List.append_nil] at h3;obtain ⟨toks,h4,h5⟩:=split_pcs (wrW (ndW L 12) l a).1 ((flatP (wrW (ndW L 12) l a).1).length+1) 0 (Nat.lt_succ_self _) h1 h3
 have h6:nodesF (fuelN toks) [] ⟨toks,0,0⟩=(⟨l,[],[]⟩,⟨[],0,0⟩):=by
  rw [no_is (by unfold fuelN;show 2*toks.length+1<=_;omega)];have h7:=wr_rd (dd:=0) (bb:=0) l a (fun x hx a out ts rest h=>(nodes_rd L 12).1 5 True x a (hl x hx) (by omega) out ts rest 0 0 h (Int.le_refl _) (by omega) (fun _=>rfl)) [] toks [] h5;rw [List.append_nil,List.nil_append] at h7;rw [h7,noX_nil]
 unfold parseF;rw [if_neg (by omega),h4]
 simp only
 rw [h6]
 rfl
end Go.Proofs.YtnblmhfgmehnnaaGreatDoor
namespace Go.Proofs.YtnblmhfgmehnnaaGreatDoor
open Go.RowKit Go.Lib
attribute [local go_sem ↓] Go.wp_at_zero Go.wp_at_succ
def RightNI (l:List Nd) (W:World) (e:Ending) (w':World):Prop:=∃ r:Bool,e=.returned (.bool r)/\Below W.heap.size W w'/\(r=true->(∀ x ∈ l,SoundN 5 True x)/\apartN l/\(l.map (wtN 5)).sum<=3000)
theorem tright7l {w:World} {S:Nat->Prop} {l:List Nd} {a:OA_} {c:Nat} (hx:RepNs w S a l) (hroom:Room l.length c 264) (W:World) (hW:Below w.heap.size w W):Calls Tryz.prog 9 #[.slice a l.length c] W (RightNI l W):=by
 have HX:=h_ hx;have HR:=h_ hroom;have HW:=h_ hW;clear hx hroom hW
 go_enter Tryz.func9,Tryz.ntmps9
 go_wp2_with fail
 refine (tweight l w S a c W 0 HX.out HR.out HW.out (by omega) (by omega)).mono ?_
 rintro e w1 ⟨h,hio,rfl,hb1,hc1⟩;have HB1:=h_ hb1;have HC1:=h_ hc1;clear hb1 hc1 hio
 by_cases hle:h<=3000
 ·have g1:decide (h<=3000)=true:=decide_eq_true hle
  have HLE:=h_ hle;clear hle;go_wp2_with fail
  refine (rsound7 l w S a c w1 5 true HX.out HR.out (HW.out.trans (HB1.out.mono HW.out.size)) (by omega) (by omega) (.inl (by omega))).mono ?_
  rintro e w2 ⟨r,rfl,hb2,hr⟩;have HB2:=h_ (Below.next HB1.out hb2);have HS:=h_ hr;clear hb2 hr;go_wp2_with fail;go_ret
  refine ⟨r,rfl,HB2.out,fun h9=>?_⟩
  obtain ⟨h1,h2⟩:=HS.out h9
  have h3:∀ x ∈ l,SoundN 5 True x:=fun x hx=>(h1 x hx).imp (fun _=>trivial)
  have h4:=(HC1.out.2 5 True (by omega) h3).2.2 (by have:=HLE.out;omega)
  have:=HLE.out
  exact ⟨h3,h2,by omega⟩
 ·have g1:decide (h<=3000)=false:=decide_eq_false hle
  clear hle;go_wp2_with fail;go_ret
  exact ⟨false,rfl,HB1.out,fun h9=>by cases h9⟩
theorem writes07 {w:World} {l:List Nd} {a:OA_} {c:Nat} (hx:RepNs w (fun _=>True) a l) (hroom:Room l.length c 264) (A:OA_) (L:LB_) (k:Nat) (hL:RepU w A L) (hl:L.length<=9223372036854775807) (hm:MaxL w) (hv:ScalV w):
  Calls Tryz.prog 3 #[.slice a l.length c,.slice A L.length k] w fun e w'=>e=.returned (.bool true)/\Below w.heap.size w w':=by
 have HM:=h_ hm;have HV:=h_ hv;have HL:=h_ hL;have HRM:=h_ hroom;have HX0:=h_ (show RepNs w (fun b=>b < w.heap.size) a l from hx.mono (fun b _ h=>h) (fun _ _ _ _=>rfl));have HCW:=h_ (fun (W:World) (hb:Below w.heap.size w W)=>tawake7 W (hm.keep hb) (hv.keep hb));clear hm hv hL hx hroom
 go_enter Tryz.func3,Tryz.ntmps3
 go_wp2_with fail
 refine (tright7l HX0.out HRM.out w (Below.refl _ _)).mono ?_
 rintro e w1 ⟨r,rfl,hb1,hr⟩;have HB1:=h_ hb1;have HR:=h_ hr;clear hb1 hr
 cases r with
 | false=>
  clear HR;go_wp2_with fail
  refine (HCW.out _ HB1.out).mono ?_
  rintro e w3 ⟨rfl,hb3⟩;go_wp2_with fail;go_ret
  exact ⟨rfl,Below.next HB1.out hb3⟩
 | true=>
  have HR2:=h_ (HR.out (by first | trivial | rfl));clear HR
  by_cases c2:L.length<=200
  ·have d2:decide ((L.length:Int)>200)=false:=decide_eq_false (by omega)
   have HSG:=h_ (stAt_new (c:=k) (HL.out.keep HB1.out) c2);have HBA:=h_ (HB1.out.alloc HB1.out.size (.cells #[.slice A L.length k,.int .i64 0] 28));have hsz1:=HB1.out.size;have HNE:=h_ (show ∀ b,b < w.heap.size->b≠w1.heap.size from fun b hb=>by omega);have HGE:=h_ (show w.heap.size<=w1.heap.size from hsz1);have HXA:=h_ (HX0.out.keep HBA.out);clear hsz1;go_wp2_with fail
   refine (write_wr HR2.out.1 HXA.out HRM.out HSG.out HNE.out (by have:=HR2.out.2.2;omega) (by have:=HR2.out.2.2;omega)).mono ?_
   rintro e w3 ⟨rfl,hst3,hbar⟩;have HB3:=h_ (hbar.below HBA.out HGE.out (Nat.le_refl _));clear hst3 hbar HXA HSG HNE HGE HBA;obtain ⟨tx,htx⟩:∃ z,z=bs (flatP (wrW (ndW L 12) l 0).1):=⟨_,rfl⟩;have HTX:=h_ htx;rw [<-htx];clear htx
   by_cases c3:tx.size<=65536
   ·have d3:decide ((tx.size:Int)>65536)=false:=decide_eq_false (by omega)
    have CP:=tParse tx w3 c3 (HM.out.keep HB3.out) (HV.out.keep HB3.out);unfold PrPost at CP
    rw [show parseF tx.data.toList=(l,0) from by
     have h1:=HTX.out;rw [h1,bs_list];rw [h1,bs_size] at c3
     exact nodes_read L HR2.out.1 HR2.out.2.1 c3] at CP
    have HCP:=h_ CP;clear CP c3;go_wp2_with fail
    refine HCP.out.mono ?_
    rintro e w4 ⟨a4,k4,rfl,hx4,hrm4,hb4⟩;have HB4:=h_ (Below.next HB3.out hb4);have HX4:=h_ hx4;have HRM4:=h_ hrm4;clear hb4 hx4 hrm4 HCP;go_wp2_with fail
    refine (HCW.out _ HB4.out).mono ?_
    rintro e w5 ⟨rfl,hb5⟩;have HB5:=h_ (Below.next HB4.out hb5);have HB45:=h_ hb5;clear hb5;go_wp2_with fail
    refine (tsame7 l w4 w w5 _ _ a4 a k4 c HX4.out HX0.out HRM4.out HB45.out HB5.out).mono ?_
    rintro e w6 ⟨rfl,hb6⟩;go_wp2_with fail;go_ret
    exact ⟨rfl,Below.next HB5.out hb6⟩
   ·have d3:decide ((tx.size:Int)>65536)=true:=decide_eq_true (by omega)
    clear c3;go_wp2_with fail
    refine (HCW.out _ HB3.out).mono ?_
    rintro e w4 ⟨rfl,hb4⟩;go_wp2_with fail;go_ret
    exact ⟨rfl,Below.next HB3.out hb4⟩
  ·have d2:decide ((L.length:Int)>200)=true:=decide_eq_true (by omega)
   clear c2;go_wp2_with fail
   refine (HCW.out _ HB1.out).mono ?_
   rintro e w3 ⟨rfl,hb3⟩;go_wp2_with fail;go_ret
   exact ⟨rfl,Below.next HB1.out hb3⟩
end Go.Proofs.YtnblmhfgmehnnaaGreatDoor
namespace Go.Proofs.YtnblmhfgmehnnaaGreatDoor
open Go.ChangeShapes Go.WideShapes Go.ChangeAt Go.RowKit
theorem lifted_tied {f:FuncId} {fn:Func} {s:ChangeSpec} {tb:TypeId} {laid:List (String × DataW Unit)} (os:Os) (started:os.Started) (H:Type) (enc:TypeId × Value->H)
  (noInit:Tryz.checked.prog.inits.idxOf? f=none) (hfn:Tryz.checked.prog.funcs[f]? =some fn)
  (witness:∃ (w:World) (tape:Tape) (i:Input),w.os=os/\(w.forCall tape i).Shaped Tryz.checked.prog/\i.vars=[]/\Input.okWide Tryz.checked.prog (w.forCall tape i) .any w.heap.size f i/\
   ((s.pre enc Tryz.checked.prog fn [] false (w.forCall tape i).memory i.args/\laidMetH Tryz.prog laid (w.forCall tape i).memory)/\sizedMet enc Tryz.checked.prog fn (OpenSpec.ofChange s) false (w.forCall tape i).memory i.args)/\({}:Assume).holds Tryz.checked.prog (lone (Frame.enter Tryz.checked.prog f i.args .normal) [] (w.forCall tape i)))
  (hr0:fn.params.toList.all (fun t=>Tryz.prog.readableRec t && decide (t < Tryz.prog.types.size))=true) (hv:s.vars=[]) (hb:fn.resultTypes=#[tb]) (ub:Tryz.prog.underlying tb=some .bool)
  (hsp:∀ ds:List (DataW H),ds.length=fn.params.size->s.fn H ds={results:=[.lit (.bool true)],args:=ds})
  (walk:∀ (W:World) (base:Nat) (args:Array Value) (ds:List (DataW H)) (p:List MemPlace),
   (∀ (j:Nat) t v,fn.params[j]? =some t->args[j]? =some v->Value.okWide Tryz.prog W .any base t v)->
   DataW.TrodAll enc Tryz.prog W 0 (fun _=>true) true fn.params.toList args.toList ds p->
   (DataW.weightsEach Tryz.prog fn.params.toList ds).all (·<=reachBytes)=true->W.ShapedOpen Tryz.prog->laidMetH Tryz.prog laid W->
   Calls Tryz.prog f args W fun e w'=>e=.returned (.bool true)/\Below W.heap.size W w'):
  ReturnsInHanded {} Tryz.checked os f .any (fun w args=>(s.pre enc Tryz.prog fn [] false w args/\laidMetH Tryz.prog laid w)/\sizedMet enc Tryz.prog fn (OpenSpec.ofChange s) false w args) (s.post enc Tryz.prog fn false true false false):=by
 have hr:∀ t ∈ fn.params.toList,Tryz.prog.readableRec t=true/\t < Tryz.prog.types.size:=fun t ht=>by
  have:=List.all_eq_true.1 hr0 t ht
  simpa using this
 refine returnsInHanded_of_calls own started noInit witness ?_
 intro w tape i _ hsh _ hok hpre hholds;obtain ⟨_,_,_,fn',hfn',_,_,_,_,hval⟩:=hok;have e:fn'=fn:=Option.some.inj (hfn'.symm.trans hfn);subst e;obtain ⟨⟨⟨ds,gs,before,hw,hc⟩,hx⟩,hz⟩:=hpre;have hW:DataW.Whole enc Tryz.prog fn'.params.toList s.vars false (w.forCall tape i) i.args.toList ds gs before:=DataW.Whole.of_heap (w':=w.forCall tape i) (by rfl) hw;have hsz:(DataW.weightsEach Tryz.prog (fn'.params.toList++s.plain.varTypes Tryz.prog) (ds++gs)).all (·<=reachBytes)=true:=hz.weights hw;have hL:laidMetH Tryz.prog laid (w.forCall tape i):=hx.of_heap (by rfl);have hW':=hW;obtain ⟨p,q,hA,hV,rfl,hfz,hnd⟩:=hW;rw [hv] at hV;obtain ⟨rfl,rfl⟩:=trodVars_none hV
 have hlen:ds.length=fn'.params.size:=by
  have:∀ {W:World} {ts:List TypeId} {vs:List Value} {ds:List (DataW H)} {ps:List MemPlace},DataW.TrodAll enc Tryz.prog W 0 (fun _=>true) true ts vs ds ps->ds.length=ts.length:=by
   intro W ts
   induction ts with
   | nil=>
    intro vs ds ps h
    match vs,ds,h with
    | [],[],_=>rfl
   | cons t ts ih=>
    intro vs ds ps h
    match vs,ds,h with
    | v::vs,d::ds,h=>
     obtain ⟨p,q,_,h2,rfl⟩:=h
     simp [ih h2]
  simpa using this hA
 have hsz':(DataW.weightsEach Tryz.prog fn'.params.toList ds).all (·<=reachBytes)=true:=by
  have h:=hsz
  simp only [ChangeSpec.plain,DataSpec.varTypes,hv,List.filterMap_nil,List.append_nil] at h
  exact h
 refine (walk (w.forCall tape i) w.heap.size i.args ds p hval hA hsz' hsh hL).mono fun e W' ⟨he,hbl⟩=>?_
 subst he
 exact ChangeSpec.post_blind (post_law laidOut hr hv hb ub (by rw [List.append_nil];exact hsp ds hlen) hW' hbl)
end Go.Proofs.YtnblmhfgmehnnaaGreatDoor
namespace Go.Proofs.YtnblmhfgmehnnaaGreatDoor
open Go.ChangeShapes Go.WideShapes Go.ChangeAt Go.WideMaps Go.WideElems Go.RowKit
theorem max_of {W:World} (h:W.ShapedOpen Tryz.prog):MaxL W:=Tryz.laysM143.s1_3 W h
end Go.Proofs.YtnblmhfgmehnnaaGreatDoor
