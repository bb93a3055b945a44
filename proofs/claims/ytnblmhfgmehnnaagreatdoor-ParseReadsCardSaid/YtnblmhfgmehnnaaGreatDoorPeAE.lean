/- Several texts as one. -/
import Derived.Test.YtnblmhfgmehnnaaGreatDoorPeFo
import Derived.Test.YtnblmhfgmehnnaaGreatDoorPeMv
import Derived.Test.YtnblmhfgmehnnaaGreatDoorPeAD
import Derived.Test.YtnblmhfgmehnnaaGreatDoorPeAC
set_option maxRecDepth 100000
set_option maxHeartbeats 8000000
namespace Go.Proofs.YtnblmhfgmehnnaaGreatDoor
open Go.RowKit Go.Lib
attribute [local go_sem ↓] Go.wp_at_zero Go.wp_at_succ
theorem skip_len (l:LB_):(skipB l).length<=l.length:=by
 unfold skipB Lib.trimLeftS
 induction l with
 | nil=>exact Nat.le_refl _
 | cons a l ih=>
  rw [List.dropWhile_cons]
  split
  ·simp only [List.length_cons];omega
  ·exact Nat.le_refl _
theorem byte_head {s:ByteArray} {c:UInt8} {l:LB_} (h:c::l=s.data.toList):∃ h0:0 < s.size,s[0]=c/\s.size=l.length+1/\(s.toList.isEmpty=false):=by
 have hz:s.size=l.length+1:=by rw [size_list,<-h];rfl
 have h0:0 < s.size:=by omega
 refine ⟨h0,?_,hz,by rw [empty_eq,<-h];rfl⟩
 have:=byte_list (s:=s) (k:=0) h0
 rw [List.drop_zero,<-h] at this
 injection this with this _
 exact this.symm
theorem tail1 {s:ByteArray} {c:UInt8} {l:LB_} (h:c::l=s.data.toList):s.extract 1 s.size=bs l:=by rw [ext_drop,<-h];rfl
theorem op_empty (gc:Nat) (r:Rd) (w:World) (h:RdAt w gc r) (hl:r.s.length<=1000000) (hs:skipB r.s=[]):Calls Tryz.prog 98 #[.pointer (some ⟨gc,0,none⟩)] w (OpPost gc Ex.zero false (r.go []) w):=by
 obtain ⟨rs,d,b⟩:=r
 simp only at hs hl
 have hgc:=Blk.lt h;have hb0:Below w.heap.size w (w.alloc (.cells zX 50)):=Below.new _ _;have H0:=h_ (RdAt.keep h hb0);have HX0:=h_ (show Blk (w.alloc (.cells zX 50)) w.heap.size 50 zX from Blk.new _ _ _);have HB0:=h_ (Bar.of (gc:=gc) hb0);clear h;obtain ⟨W0,e0⟩:∃ z,z=w.alloc (.cells zX 50):=⟨_,rfl⟩;obtain ⟨n2,e2⟩:∃ z,z=w.heap.size:=⟨_,rfl⟩;rw [<-e0] at H0 HX0 HB0;rw [<-e2] at HX0
 have hn2g:n2≠gc:=by omega
 have E0:=h_ e0;have E2:=h_ e2;have HN2:=h_ (show w.heap.size<=n2 from Nat.le_of_eq e2.symm);clear e0 e2 hb0;unfold zX at *
 go_enter Tryz.func98,Tryz.ntmps98
 refine wp_seq_cut (fun K0 hK0=>?_)
 go_wp2_with fail
 refine hK0.out _ _ ?_
 rw [<-E0.out,<-E2.out];clear E0 hK0 K0;go_wp2_with fail
 refine (tskip gc ⟨rs,d,b⟩ _ H0.out).mono ?_
 rintro e w1 ⟨rfl,hrd,hbar⟩;rw [hs] at hrd;obtain ⟨s,hsl,hblk⟩:=hrd.open
 simp only [Rd.go] at hsl hblk
 have H1:=h_ hblk;have HX1:=h_ (hbar.blk HX0.out hn2g);have HB1:=h_ (HB0.out.trans hbar);have k0:=hblk.cell;have f0:=hblk.frozen;have l0:=hblk.lt;have k2:=HX1.out.cell;have f2:=HX1.out.frozen;have l2:=HX1.out.lt;clear hblk hbar hrd H0 HX0 HB0
 have hem:s.toList.isEmpty=true:=by rw [empty_eq,<-hsl];rfl
 have HSL:=h_ hsl;clear hsl;go_wp2_with fail
 refine ret_cell2 (p:=2) (q:=3) (g:=n2) rfl rfl rfl (blk_set10 (w:=w1) HX1.out) Tryz.underlying50 (by kernel_rfl) rfl ?_
 exact ⟨_,rfl,repO_zero,RdAt.bar (RdAt.of H1.out (show s=bs [] from by have:=congrArg bs HSL.out;exact this.symm) rfl rfl) (bar_set10 _ _ _ _ _ _ _ _ _ _ _ _) (Ne.symm hn2g),Bar.join HB1.out (bar_set10 _ _ _ _ _ _ _ _ _ _ _ _) HN2.out⟩
theorem flat_len {f:UInt8->LB_} (hf:∀ c,1<=(f c).length):∀ l:LB_,l.length<=(l.flatMap f).length
 | []=>Nat.zero_le _
 | c::l=>by
  rw [List.flatMap_cons,List.length_append,List.length_cons]
  have:=flat_len hf l;have:=hf c
  omega
theorem unq_len {l a b:LB_} (h:unqL l=some (a,b)):a.length+b.length+2<=l.length:=by
 unfold unqL at h
 split at h
 ·next r=>
  have e:=dbl_back _ r a b (Nat.le_refl _) h;have h1:=flat_len (f:=esc1) (fun c=>by unfold esc1;by_cases h1:c=10;simp [h1];by_cases h2:c=9;simp [h2];by_cases h3:c=34\/c=92;simp [h1,h2,h3];simp [h1,h2,h3]) a;have h2:=congrArg List.length e;unfold escL at h2
  simp only [List.length_append,List.length_cons] at h2 ⊢
  omega
 ·next r=>
  have e:=sgl_back _ r a b (Nat.le_refl _) h;have h1:=flat_len (f:=sesc1) (fun c=>by unfold sesc1;split;all_goals simp) a;have h2:=congrArg List.length e;unfold sescL at h2
  simp only [List.length_append,List.length_cons] at h2 ⊢
  omega
 ·cases h
theorem unq_some {s:ByteArray} {a b:LB_} (h:unqL s.data.toList=some (a,b)) (hs:s.size<=10000000) (w:World):Calls Tryz.prog 104 #[.string s] w fun e w'=>∃ v1 v2:ByteArray,e=.returned (.tuple #[.string v1,.string v2,.int .i64 0])/\v1.data.toList=a/\v2.data.toList=b/\Below w.heap.size w w':=by
 refine (tunquote s hs w).mono ?_
 rintro e w' ⟨v1,v2,ec,rfl,hi,hb⟩;rw [h] at hi
 rcases hi with ⟨c,d,e,h1,h2,rfl⟩ | ⟨e,_⟩
 ·injection e with e
  injection e with e1 e2
  exact ⟨v1,v2,rfl,h1.trans e1.symm,h2.trans e2.symm,hb⟩
 ·cases e
theorem unq_none {s:ByteArray} (h:unqL s.data.toList=none) (hs:s.size<=10000000) (w:World):Calls Tryz.prog 104 #[.string s] w fun e w'=>e=.returned (.tuple #[.string ⟨#[]⟩,.string ⟨#[]⟩,.int .i64 11])/\Below w.heap.size w w':=by
 refine (tunquote s hs w).mono ?_
 rintro e w' ⟨v1,v2,ec,rfl,hi,hb⟩;rw [h] at hi
 rcases hi with ⟨c,d,e,_⟩ | ⟨_,rfl,rfl,rfl⟩
 ·cases e
 ·exact ⟨rfl,hb⟩
theorem leaf_any {w w':World} {S S':Nat->Prop} {k n:Int} {b:Bool} {s:ByteArray} {v:Value} (h:RepT w S v (.mk k b n s [] [])):RepT w' S' v (.mk k b n s [] []):=by
 obtain ⟨la,lc,ma,mc,rfl,h1,h2,h3,h4,h5,h6,h7,h8,h9, -⟩:=h.inv
 exact RepT.of (t:=.mk k b n s [] []) ⟨h1,h2,h3,h4,h5,h6,h7,h8,h9,fun i hi=>absurd hi (Nat.not_lt_zero _),fun i hi=>absurd hi (Nat.not_lt_zero _)⟩
theorem op_badquote (gc:Nat) (r:Rd) (w:World) (h:RdAt w gc r) (hl:r.s.length<=1000000) {l:LB_} (hs:skipB r.s=34::l) (hu:unqL (34::l)=none):Calls Tryz.prog 98 #[.pointer (some ⟨gc,0,none⟩)] w (OpPost gc Ex.zero true ((r.go (34::l)).fail 11) w):=by
 obtain ⟨rs,d,b⟩:=r
 simp only at hs hl
 have hgc:=Blk.lt h;have hb0:Below w.heap.size w (w.alloc (.cells zX 50)):=Below.new _ _;have H0:=h_ (RdAt.keep h hb0);have HX0:=h_ (show Blk (w.alloc (.cells zX 50)) w.heap.size 50 zX from Blk.new _ _ _);have HB0:=h_ (Bar.of (gc:=gc) hb0);clear h;obtain ⟨W0,e0⟩:∃ z,z=w.alloc (.cells zX 50):=⟨_,rfl⟩;obtain ⟨n2,e2⟩:∃ z,z=w.heap.size:=⟨_,rfl⟩;rw [<-e0] at H0 HX0 HB0;rw [<-e2] at HX0
 have hn2g:n2≠gc:=by omega
 have E0:=h_ e0;have E2:=h_ e2;have HN2:=h_ (show w.heap.size<=n2 from Nat.le_of_eq e2.symm);clear e0 e2 hb0;unfold zX at *
 go_enter Tryz.func98,Tryz.ntmps98
 refine wp_seq_cut (fun K0 hK0=>?_)
 go_wp2_with fail
 refine hK0.out _ _ ?_
 rw [<-E0.out,<-E2.out];clear E0 hK0 K0;go_wp2_with fail
 refine (tskip gc ⟨rs,d,b⟩ _ H0.out).mono ?_
 rintro e w1 ⟨rfl,hrd,hbar⟩;rw [hs] at hrd;obtain ⟨s,hsl,hblk⟩:=hrd.open
 simp only [Rd.go] at hsl hblk
 have H1:=h_ hblk;have HX1:=h_ (hbar.blk HX0.out hn2g);have HB1:=h_ (HB0.out.trans hbar);have k0:=hblk.cell;have f0:=hblk.frozen;have l0:=hblk.lt;have k2:=HX1.out.cell;have f2:=HX1.out.frozen;have l2:=HX1.out.lt;clear hblk hbar hrd H0 HX0 HB0;obtain ⟨h0,hs0,hsz,hem⟩:=byte_head hsl
 have h0i:(0:Int) < s.size:=by omega
 have h256:=UInt8.toNat_lt s[0]
 have g34:((s[0].toNat:Int)==34)=true:=by rw [hs0];rfl
 have hz6:s.size<=10000000:=by have h1:=skip_len rs;rw [hs] at h1;simp only [List.length_cons] at h1;omega
 have CU:=h_ (fun w2=>unq_none (s:=s) (by rw [<-hsl];exact hu) hz6 w2);have HSL:=h_ hsl;clear hsl;clear hu;go_wp2_with fail
 refine (CU.out _).mono ?_
 rintro e w2 ⟨rfl,hb2⟩;have H2:=h_ (H1.out.keep hb2);have HX2:=h_ (HX1.out.keep hb2);have HB2:=h_ (HB1.out.trans (Bar.of hb2));clear hb2;go_wp2_with fail
 refine (tfail gc ⟨(34::l),d,b⟩ 11 _ (RdAt.of H2.out (show s=bs (34::l) from by rw [HSL.out]) rfl rfl)).mono ?_
 rintro e w8 ⟨rfl,hrd8,hbar8⟩;have HX8:=h_ (hbar8.blk HX2.out hn2g);have HR8:=h_ hrd8;have HB8:=h_ (HB2.out.trans hbar8);clear hrd8 hbar8;clear k0 f0 l0 k2 f2 l2;have k2:=HX8.out.cell;have f2:=HX8.out.frozen;have l2:=HX8.out.lt;go_wp2_with fail
 refine ret_cell2 (p:=2) (q:=3) (g:=n2) rfl rfl rfl (blk_set10 (w:=w8) HX8.out) Tryz.underlying50 (by kernel_rfl) rfl ?_
 exact ⟨_,rfl,repO_zero,HR8.out.bar (bar_set10 _ _ _ _ _ _ _ _ _ _ _ _) (Ne.symm hn2g),Bar.join HB8.out (bar_set10 _ _ _ _ _ _ _ _ _ _ _ _) HN2.out⟩
theorem op_quote (gc:Nat) (r:Rd) (w:World) (h:RdAt w gc r) (hl:r.s.length<=1000000) {l t rest:LB_} (hs:skipB r.s=34::l) (hu:unqL (34::l)=some (t,rest)):Calls Tryz.prog 98 #[.pointer (some ⟨gc,0,none⟩)] w (OpPost gc (Ex.lit (tS (bs t))) true (r.go rest) w):=by
 have hu2:=hu;obtain ⟨rs,d,b⟩:=r
 simp only at hs hl
 have hgc:=Blk.lt h;have hb0:Below w.heap.size w (w.alloc (.cells zX 50)):=Below.new _ _;have H0:=h_ (RdAt.keep h hb0);have HX0:=h_ (show Blk (w.alloc (.cells zX 50)) w.heap.size 50 zX from Blk.new _ _ _);have HB0:=h_ (Bar.of (gc:=gc) hb0);clear h;obtain ⟨W0,e0⟩:∃ z,z=w.alloc (.cells zX 50):=⟨_,rfl⟩;obtain ⟨n2,e2⟩:∃ z,z=w.heap.size:=⟨_,rfl⟩;rw [<-e0] at H0 HX0 HB0;rw [<-e2] at HX0
 have hn2g:n2≠gc:=by omega
 have E0:=h_ e0;have E2:=h_ e2;have HN2:=h_ (show w.heap.size<=n2 from Nat.le_of_eq e2.symm);clear e0 e2 hb0;unfold zX at *
 go_enter Tryz.func98,Tryz.ntmps98
 refine wp_seq_cut (fun K0 hK0=>?_)
 go_wp2_with fail
 refine hK0.out _ _ ?_
 rw [<-E0.out,<-E2.out];clear E0 hK0 K0;go_wp2_with fail
 refine (tskip gc ⟨rs,d,b⟩ _ H0.out).mono ?_
 rintro e w1 ⟨rfl,hrd,hbar⟩;rw [hs] at hrd;obtain ⟨s,hsl,hblk⟩:=hrd.open
 simp only [Rd.go] at hsl hblk
 have H1:=h_ hblk;have HX1:=h_ (hbar.blk HX0.out hn2g);have HB1:=h_ (HB0.out.trans hbar);have k0:=hblk.cell;have f0:=hblk.frozen;have l0:=hblk.lt;have k2:=HX1.out.cell;have f2:=HX1.out.frozen;have l2:=HX1.out.lt;clear hblk hbar hrd H0 HX0 HB0;obtain ⟨h0,hs0,hsz,hem⟩:=byte_head hsl
 have h0i:(0:Int) < s.size:=by omega
 have h256:=UInt8.toNat_lt s[0]
 have g34:((s[0].toNat:Int)==34)=true:=by rw [hs0];rfl
 have hz6:s.size<=10000000:=by have h1:=skip_len rs;rw [hs] at h1;simp only [List.length_cons] at h1;omega
 have CU:=h_ (fun w2=>unq_some (s:=s) (by rw [<-hsl];exact hu) hz6 w2);have HSL:=h_ hsl;clear hsl;clear hu;go_wp2_with fail
 refine (CU.out _).mono ?_
 rintro e w2 ⟨v1,v2,rfl,hv1,hv2,hb2⟩;have HV1:=h_ hv1;have HV2:=h_ hv2;have H2:=h_ (H1.out.keep hb2);have HX2:=h_ (HX1.out.keep hb2);have HB2:=h_ (HB1.out.trans (Bar.of hb2))
 have hz1:v1.size<=140737488351232:=by have h1:=unq_len hu2;rw [<-hv1,<-size_list] at h1;have h2:=skip_len rs;rw [hs] at h2;omega
 clear hv1 hv2 hb2 hu2;clear k0 f0 l0 k2 f2 l2;have k0:=H2.out.cell;have f0:=H2.out.frozen;have l0:=H2.out.lt;go_wp2_with fail
 refine (tstr v1 hz1 _).mono ?_
 rintro e w3 ⟨vv,rfl,hr3,hb3⟩;obtain ⟨la,lc,ma,mc,rfl, -⟩:=hr3.inv;have H3:=h_ ((H2.out.s0 (.string v2)).keep hb3);have HX3:=h_ ((HX2.out.far (p:=⟨gc,0,none⟩) hn2g _).keep hb3);have HB3:=h_ ((HB2.out.trans (Bar.set gc 0 _)).trans (Bar.of hb3));have HR3:=h_ hr3;clear hr3 hb3 k0 f0 l0;have k2:=HX3.out.cell;have f2:=HX3.out.frozen;have l2:=HX3.out.lt;go_wp2_with fail
 refine ret_cell2 (p:=2) (q:=3) (g:=n2) rfl rfl rfl (blk_set10 (w:=w3) HX3.out) Tryz.underlying50 (by kernel_rfl) rfl ?_
 refine ⟨_,rfl,?_,RdAt.bar (RdAt.of H3.out (show v2=bs rest from by rw [<-HV2.out]) rfl rfl) (bar_set10 _ _ _ _ _ _ _ _ _ _ _ _) (Ne.symm hn2g),Bar.join HB3.out (bar_set10 _ _ _ _ _ _ _ _ _ _ _ _) HN2.out⟩
 rw [<-HV1.out]
 exact RepO.leaf (repX_lit (t:=.mk 3 false 0 v1 [] []) (leaf_any HR3.out)) rfl rfl
theorem op_number (gc:Nat) (r:Rd) (w:World) (h:RdAt w gc r) (hl:r.s.length<=1000000) {c:UInt8} {l:LB_} {t:T} (hs:skipB r.s=c::l) (hc:c=45\/digitB c=true) (hn:numV ((c::l).take (numK (c::l)))=some t) (hv:ScalV w) (hg:Glob gc):Calls Tryz.prog 98 #[.pointer (some ⟨gc,0,none⟩)] w (OpPost gc (Ex.lit t) true (r.go ((c::l).drop (numK (c::l)))) w):=by
 obtain ⟨rs,d,b⟩:=r
 simp only at hs hl
 have hgc:=Blk.lt h;have hb0:Below w.heap.size w (w.alloc (.cells zX 50)):=Below.new _ _;have H0:=h_ (RdAt.keep h hb0);have HX0:=h_ (show Blk (w.alloc (.cells zX 50)) w.heap.size 50 zX from Blk.new _ _ _);have HB0:=h_ (Bar.of (gc:=gc) hb0);have HV0:=h_ (hv.keep hb0);clear h;obtain ⟨W0,e0⟩:∃ z,z=w.alloc (.cells zX 50):=⟨_,rfl⟩;obtain ⟨n2,e2⟩:∃ z,z=w.heap.size:=⟨_,rfl⟩;rw [<-e0] at H0 HX0 HB0 HV0;rw [<-e2] at HX0
 have hn2g:n2≠gc:=by omega
 have E0:=h_ e0;have E2:=h_ e2;have HN2:=h_ (show w.heap.size<=n2 from Nat.le_of_eq e2.symm);clear e0 e2 hb0;unfold zX at *
 go_enter Tryz.func98,Tryz.ntmps98
 refine wp_seq_cut (fun K0 hK0=>?_)
 go_wp2_with fail
 refine hK0.out _ _ ?_
 rw [<-E0.out,<-E2.out];clear E0 hK0 K0;go_wp2_with fail
 refine (tskip gc ⟨rs,d,b⟩ _ H0.out).mono ?_
 rintro e w1 ⟨rfl,hrd,hbar⟩;rw [hs] at hrd;obtain ⟨s,hsl,hblk⟩:=hrd.open
 simp only [Rd.go] at hsl hblk
 have H1:=h_ hblk;have HX1:=h_ (hbar.blk HX0.out hn2g);have HB1:=h_ (HB0.out.trans hbar);have k0:=hblk.cell;have f0:=hblk.frozen;have l0:=hblk.lt;have k2:=HX1.out.cell;have f2:=HX1.out.frozen;have l2:=HX1.out.lt;have HV1:=h_ (HV0.out.bar hbar hg);clear hblk hbar hrd H0 HX0 HB0;obtain ⟨h0,hs0,hsz,hem⟩:=byte_head hsl
 have h0i:(0:Int) < s.size:=by omega
 have h256:=UInt8.toNat_lt s[0]
 have hd9:(48<=c.toNat/\c.toNat<=57)\/c.toNat=45:=by rcases hc with rfl | hc;exact .inr rfl;exact .inl (of_decide_eq_true hc)
 have g34:((c.toNat:Int)==34)=false:=bf_ (by omega)
 have ht:((c.toNat:Int)==45)=true\/(((c.toNat:Int)==45)=false/\(48:Int)<=c.toNat/\(c.toNat:Int)<=57):=by
  rcases hd9 with hd9 | hd9
  ·exact .inr ⟨bf_ (by omega),by omega,by omega⟩
  ·exact .inl (by rw [hd9];rfl)
 have hl9:(c::l).length<=1000000:=by have h1:=skip_len rs;rw [hs] at h1;omega
 have CN:=tnumberP gc ⟨c::l,d,b⟩ w1 (RdAt.of H1.out (show s=bs (c::l) from by rw [hsl]) rfl rfl) hl9 (by simp) HV1.out
 simp only at CN
 rw [hn] at CN
 simp only at CN
 have CNH:=h_ CN;clear CN hd9 hc hn hl9;have HSL:=h_ hsl;clear hsl
 rcases ht with g45 | ⟨g45,g48,g57⟩
 ·go_wp2_with fail
  refine CNH.out.mono ?_
  rintro e w2 ⟨cs,rfl,hx,hrd2,hbar2⟩;obtain ⟨la,lc,ma,mc,sa,sc,aa,ac,rfl, -⟩:=hx.1.inv;have HX2:=h_ (hbar2.blk HX1.out hn2g);have HR2:=h_ hrd2;have HB2:=h_ (HB1.out.trans hbar2);have HXX:=h_ hx;have HN9:=h_ HX1.out.lt;clear hrd2 hbar2 hx;clear k0 f0 l0 k2 f2 l2;have k2:=HX2.out.cell;have f2:=HX2.out.frozen;have l2:=HX2.out.lt;go_wp2_with fail
  refine ret_cell2 (p:=2) (q:=3) (g:=n2) rfl rfl rfl (blk_set10 (w:=w2) HX2.out) Tryz.underlying50 (by kernel_rfl) rfl ?_
  exact ⟨_,rfl,(HXX.out.mono (by have h1:=HN9.out;have h2:=HN2.out;omega) (fun b hb hlt=>Bar.block (bar_set10 _ _ _ _ _ _ _ _ _ _ _ _) b hlt (by have h1:=HN9.out;omega))),HR2.out.bar (bar_set10 _ _ _ _ _ _ _ _ _ _ _ _) (Ne.symm hn2g),Bar.join HB2.out (bar_set10 _ _ _ _ _ _ _ _ _ _ _ _) HN2.out⟩
 ·go_wp2_with fail
  refine CNH.out.mono ?_
  rintro e w2 ⟨cs,rfl,hx,hrd2,hbar2⟩;obtain ⟨la,lc,ma,mc,sa,sc,aa,ac,rfl, -⟩:=hx.1.inv;have HX2:=h_ (hbar2.blk HX1.out hn2g);have HR2:=h_ hrd2;have HB2:=h_ (HB1.out.trans hbar2);have HXX:=h_ hx;have HN9:=h_ HX1.out.lt;clear hrd2 hbar2 hx;clear k0 f0 l0 k2 f2 l2;have k2:=HX2.out.cell;have f2:=HX2.out.frozen;have l2:=HX2.out.lt;go_wp2_with fail
  refine ret_cell2 (p:=2) (q:=3) (g:=n2) rfl rfl rfl (blk_set10 (w:=w2) HX2.out) Tryz.underlying50 (by kernel_rfl) rfl ?_
  exact ⟨_,rfl,(HXX.out.mono (by have h1:=HN9.out;have h2:=HN2.out;omega) (fun b hb hlt=>Bar.block (bar_set10 _ _ _ _ _ _ _ _ _ _ _ _) b hlt (by have h1:=HN9.out;omega))),HR2.out.bar (bar_set10 _ _ _ _ _ _ _ _ _ _ _ _) (Ne.symm hn2g),Bar.join HB2.out (bar_set10 _ _ _ _ _ _ _ _ _ _ _ _) HN2.out⟩
theorem op_badnumber (gc:Nat) (r:Rd) (w:World) (h:RdAt w gc r) (hl:r.s.length<=1000000) {c:UInt8} {l:LB_} (hs:skipB r.s=c::l) (hc:c=45\/digitB c=true) (hn:numV ((c::l).take (numK (c::l)))=none) (hv:ScalV w) (hg:Glob gc):Calls Tryz.prog 98 #[.pointer (some ⟨gc,0,none⟩)] w (OpPost gc Ex.zero true ((r.go (c::l)).fail (numE ((c::l).take (numK (c::l))))) w):=by
 obtain ⟨rs,d,b⟩:=r
 simp only at hs hl
 have hgc:=Blk.lt h;have hb0:Below w.heap.size w (w.alloc (.cells zX 50)):=Below.new _ _;have H0:=h_ (RdAt.keep h hb0);have HX0:=h_ (show Blk (w.alloc (.cells zX 50)) w.heap.size 50 zX from Blk.new _ _ _);have HB0:=h_ (Bar.of (gc:=gc) hb0);have HV0:=h_ (hv.keep hb0);clear h;obtain ⟨W0,e0⟩:∃ z,z=w.alloc (.cells zX 50):=⟨_,rfl⟩;obtain ⟨n2,e2⟩:∃ z,z=w.heap.size:=⟨_,rfl⟩;rw [<-e0] at H0 HX0 HB0 HV0;rw [<-e2] at HX0
 have hn2g:n2≠gc:=by omega
 have E0:=h_ e0;have E2:=h_ e2;have HN2:=h_ (show w.heap.size<=n2 from Nat.le_of_eq e2.symm);clear e0 e2 hb0;unfold zX at *
 go_enter Tryz.func98,Tryz.ntmps98
 refine wp_seq_cut (fun K0 hK0=>?_)
 go_wp2_with fail
 refine hK0.out _ _ ?_
 rw [<-E0.out,<-E2.out];clear E0 hK0 K0;go_wp2_with fail
 refine (tskip gc ⟨rs,d,b⟩ _ H0.out).mono ?_
 rintro e w1 ⟨rfl,hrd,hbar⟩;rw [hs] at hrd;obtain ⟨s,hsl,hblk⟩:=hrd.open
 simp only [Rd.go] at hsl hblk
 have H1:=h_ hblk;have HX1:=h_ (hbar.blk HX0.out hn2g);have HB1:=h_ (HB0.out.trans hbar);have k0:=hblk.cell;have f0:=hblk.frozen;have l0:=hblk.lt;have k2:=HX1.out.cell;have f2:=HX1.out.frozen;have l2:=HX1.out.lt;have HV1:=h_ (HV0.out.bar hbar hg);clear hblk hbar hrd H0 HX0 HB0;obtain ⟨h0,hs0,hsz,hem⟩:=byte_head hsl
 have h0i:(0:Int) < s.size:=by omega
 have h256:=UInt8.toNat_lt s[0]
 have hd9:(48<=c.toNat/\c.toNat<=57)\/c.toNat=45:=by rcases hc with rfl | hc;exact .inr rfl;exact .inl (of_decide_eq_true hc)
 have g34:((c.toNat:Int)==34)=false:=bf_ (by omega)
 have ht:((c.toNat:Int)==45)=true\/(((c.toNat:Int)==45)=false/\(48:Int)<=c.toNat/\(c.toNat:Int)<=57):=by
  rcases hd9 with hd9 | hd9
  ·exact .inr ⟨bf_ (by omega),by omega,by omega⟩
  ·exact .inl (by rw [hd9];rfl)
 have hl9:(c::l).length<=1000000:=by have h1:=skip_len rs;rw [hs] at h1;omega
 have CN:=tnumberP gc ⟨c::l,d,b⟩ w1 (RdAt.of H1.out (show s=bs (c::l) from by rw [hsl]) rfl rfl) hl9 (by simp) HV1.out
 simp only at CN
 rw [hn] at CN
 simp only at CN
 have CNH:=h_ CN;clear CN hd9 hc hn hl9;have HSL:=h_ hsl;clear hsl
 rcases ht with g45 | ⟨g45,g48,g57⟩
 ·go_wp2_with fail
  refine CNH.out.mono ?_
  rintro e w2 ⟨cs,rfl,hx,hrd2,hbar2⟩;obtain ⟨la,lc,ma,mc,sa,sc,aa,ac,rfl, -⟩:=hx.1.inv;have HX2:=h_ (hbar2.blk HX1.out hn2g);have HR2:=h_ hrd2;have HB2:=h_ (HB1.out.trans hbar2);have HXX:=h_ hx;have HN9:=h_ HX1.out.lt;clear hrd2 hbar2 hx;clear k0 f0 l0 k2 f2 l2;have k2:=HX2.out.cell;have f2:=HX2.out.frozen;have l2:=HX2.out.lt;go_wp2_with fail
  refine ret_cell2 (p:=2) (q:=3) (g:=n2) rfl rfl rfl (blk_set10 (w:=w2) HX2.out) Tryz.underlying50 (by kernel_rfl) rfl ?_
  exact ⟨_,rfl,(HXX.out.mono (by have h1:=HN9.out;have h2:=HN2.out;omega) (fun b hb hlt=>Bar.block (bar_set10 _ _ _ _ _ _ _ _ _ _ _ _) b hlt (by have h1:=HN9.out;omega))),HR2.out.bar (bar_set10 _ _ _ _ _ _ _ _ _ _ _ _) (Ne.symm hn2g),Bar.join HB2.out (bar_set10 _ _ _ _ _ _ _ _ _ _ _ _) HN2.out⟩
 ·go_wp2_with fail
  refine CNH.out.mono ?_
  rintro e w2 ⟨cs,rfl,hx,hrd2,hbar2⟩;obtain ⟨la,lc,ma,mc,sa,sc,aa,ac,rfl, -⟩:=hx.1.inv;have HX2:=h_ (hbar2.blk HX1.out hn2g);have HR2:=h_ hrd2;have HB2:=h_ (HB1.out.trans hbar2);have HXX:=h_ hx;have HN9:=h_ HX1.out.lt;clear hrd2 hbar2 hx;clear k0 f0 l0 k2 f2 l2;have k2:=HX2.out.cell;have f2:=HX2.out.frozen;have l2:=HX2.out.lt;go_wp2_with fail
  refine ret_cell2 (p:=2) (q:=3) (g:=n2) rfl rfl rfl (blk_set10 (w:=w2) HX2.out) Tryz.underlying50 (by kernel_rfl) rfl ?_
  exact ⟨_,rfl,(HXX.out.mono (by have h1:=HN9.out;have h2:=HN2.out;omega) (fun b hb hlt=>Bar.block (bar_set10 _ _ _ _ _ _ _ _ _ _ _ _) b hlt (by have h1:=HN9.out;omega))),HR2.out.bar (bar_set10 _ _ _ _ _ _ _ _ _ _ _ _) (Ne.symm hn2g),Bar.join HB2.out (bar_set10 _ _ _ _ _ _ _ _ _ _ _ _) HN2.out⟩
theorem steps_len:∀ (n:Nat) (l:LB_),2*(stepsL n l).1.length+(stepsL n l).2.length<=l.length
 | 0,l=>by rw [stepsL];simp
 | n+1,l=>by
  by_cases h:∃ c r,l=46::c::r/\nletB c=true
  ·obtain ⟨c,r,rfl,hc⟩:=h
   rw [stepsL_cons hc];have h1:=steps_len n (nameD (c::r));have h2:=nameD_len (c::r)
   have h3:0 < nameK (c::r):=by rw [nameK,if_pos hc];omega
   simp only [List.length_cons] at*
   omega
  ·rw [stepsL_stop (n+1) (fun c r e=>by
    cases hc:nletB c with
    | false=>rfl
    | true=>exact absurd ⟨c,r,e,hc⟩ h)]
   simp
theorem steps_none {n:Nat} {l:LB_} (h:(stepsL n l).1=[]):(stepsL n l).2=l:=by
 cases n with
 | zero=>rfl
 | succ n=>
  by_cases h2:∃ c r,l=46::c::r/\nletB c=true
  ·obtain ⟨c,r,rfl,hc⟩:=h2
   rw [stepsL_cons hc] at h;cases h
  ·rw [stepsL_stop (n+1) (fun c r e=>by
    cases hc:nletB c with
    | false=>rfl
    | true=>exact absurd ⟨c,r,e,hc⟩ h2)]
theorem repX_steps {w:World} {S:Nat->Prop} {k:Int} {nm:ByteArray} {A:OA_} {c:Nat} {l:List ByteArray} (hk:i64ok k) (hn:nm.size<=140737488351232) (hs:RepS w S A l) (hr:Room l.length c 16):RepX w S [.int .i64 k,.int .i64 0,.bool false,.int .i64 0,.string ⟨#[]⟩,.slice none 0 0,.slice none 0 0,.string nm,.slice A l.length c,.slice none 0 0] (.mk k T.zero nm l []):=
 RepX.of (x:=.mk k T.zero nm l []) (la:=none) (lc:=0) (ma:=none) (mc:=0) (sa:=A) (sc:=c) (aa:=none) (ac:=0) ⟨hk,rep_zero _ _,hn,hs,hr,Room.nil _,RepXs.nil⟩
theorem own_room {w:World} {B:Nat} {S:Nat->Prop} {A:OA_} {c:Nat} {l:List ByteArray} (h:OwnE eltS w B S A c l) (hl:l.length<=1000000):Room l.length c 16:=⟨h.len.1,h.len.2,by omega⟩
theorem op_dot (gc:Nat) (r:Rd) (w:World) (h:RdAt w gc r) (hl:r.s.length<=1000000) {l rest:LB_} {y:ByteArray} {st:List ByteArray} (hs:skipB r.s=46::l) (hst:stepsL (l.length+1) (46::l)=(y::st,rest)):Calls Tryz.prog 98 #[.pointer (some ⟨gc,0,none⟩)] w (OpPost gc (.mk 1 T.zero ⟨#[]⟩ (y::st) []) true (r.go rest) w):=by
 obtain ⟨rs,d,b⟩:=r
 simp only at hs hl
 have hgc:=Blk.lt h;have hb0:Below w.heap.size w (w.alloc (.cells zX 50)):=Below.new _ _;have H0:=h_ (RdAt.keep h hb0);have HX0:=h_ (show Blk (w.alloc (.cells zX 50)) w.heap.size 50 zX from Blk.new _ _ _);have HB0:=h_ (Bar.of (gc:=gc) hb0);clear h;obtain ⟨W0,e0⟩:∃ z,z=w.alloc (.cells zX 50):=⟨_,rfl⟩;obtain ⟨n2,e2⟩:∃ z,z=w.heap.size:=⟨_,rfl⟩;rw [<-e0] at H0 HX0 HB0;rw [<-e2] at HX0
 have hn2g:n2≠gc:=by omega
 have E0:=h_ e0;have E2:=h_ e2;have HN2:=h_ (show w.heap.size<=n2 from Nat.le_of_eq e2.symm);clear e0 e2 hb0;unfold zX at *
 go_enter Tryz.func98,Tryz.ntmps98
 refine wp_seq_cut (fun K0 hK0=>?_)
 go_wp2_with fail
 refine hK0.out _ _ ?_
 rw [<-E0.out,<-E2.out];clear E0 hK0 K0;go_wp2_with fail
 refine (tskip gc ⟨rs,d,b⟩ _ H0.out).mono ?_
 rintro e w1 ⟨rfl,hrd,hbar⟩;rw [hs] at hrd;obtain ⟨s,hsl,hblk⟩:=hrd.open
 simp only [Rd.go] at hsl hblk
 have H1:=h_ hblk;have HX1:=h_ (hbar.blk HX0.out hn2g);have HB1:=h_ (HB0.out.trans hbar);have k0:=hblk.cell;have f0:=hblk.frozen;have l0:=hblk.lt;have k2:=HX1.out.cell;have f2:=HX1.out.frozen;have l2:=HX1.out.lt;clear hblk hbar hrd H0 HX0 HB0;obtain ⟨h0,hs0,hsz,hem⟩:=byte_head hsl
 have h0i:(0:Int) < s.size:=by omega
 have h256:=UInt8.toNat_lt s[0]
 have g34:((s[0].toNat:Int)==34)=false:=by rw [hs0];rfl
 have g45:((s[0].toNat:Int)==45)=false:=by rw [hs0];rfl
 have g48:¬ (48:Int)<=(s[0].toNat:Int):=by rw [hs0];decide
 have g46:((s[0].toNat:Int)==46)=true:=by rw [hs0];rfl
 have hl9:(46::l).length<=1000000:=by have h1:=skip_len rs;rw [hs] at h1;omega
 have HRD:=h_ (show RdAt w1 gc ⟨46::l,d,b⟩ from RdAt.of H1.out (show s=bs (46::l) from by rw [hsl]) rfl rfl);have HSL:=h_ hsl;clear hsl;go_wp2_with fail
 refine (tsteps gc ⟨46::l,d,b⟩ (l.length+1) _ HRD.out hl9 (by simp)).mono ?_
 rintro e w2 ⟨A2,c2,rfl,ho2,hrd2,hbar2⟩
 simp only at ho2 hrd2
 have hsl2:=steps_len (l.length+1) (46::l);rw [hst] at ho2 hrd2 hsl2;rw [hst];obtain ⟨L,hL⟩:∃ z,z=y::st:=⟨_,rfl⟩;rw [<-hL] at ho2 hsl2 ⊢
 simp only
 have gL:((L.length:Int)==0)=false:=by rw [hL];exact bf_ (by simp only [List.length_cons];omega)
 have HLQ:=h_ hL;clear hL;have hroom:=own_room ho2 (by simp only [List.length_cons] at*;omega);have HO2:=h_ ho2;have HR2:=h_ hrd2;have HX2:=h_ (hbar2.blk HX1.out hn2g);have HB2:=h_ (HB1.out.trans hbar2);have HRM:=h_ hroom;have HN1:=h_ (Nat.lt_of_lt_of_le HX1.out.lt (Nat.le_refl _));have HS1:=h_ hbar2.size;clear ho2 hbar2 hroom hsl2 hrd2;clear k0 f0 l0 k2 f2 l2;have k2:=HX2.out.cell;have f2:=HX2.out.frozen;have l2:=HX2.out.lt;have H2:=h_ (show Blk w2 gc 112 #[.string (bs rest),.int .i64 d,.int .i64 b] from HR2.out);have k0:=H2.out.cell;have f0:=H2.out.frozen;have l0:=H2.out.lt;go_wp2_with fail
 refine ret_cell2 (p:=2) (q:=3) (g:=n2) rfl rfl rfl ((blk_set10 (w:=w2) HX2.out).alloc _) Tryz.underlying50 (by kernel_rfl) rfl ?_
 refine ⟨_,rfl,?_,(HR2.out.bar (bar_set10 _ _ _ _ _ _ _ _ _ _ _ _) (Ne.symm hn2g)).keep (Below.new _ _),(Bar.join HB2.out (bar_set10 _ _ _ _ _ _ _ _ _ _ _ _) HN2.out).trans (Bar.of (Below.new _ _))⟩
 rw [<-HLQ.out]
 refine RepO.leaf ?_ rfl rfl
 refine (repX_steps (S:=fun b=>False\/w1.heap.size<=b) (k:=1) (nm:=⟨#[]⟩) (by unfold i64ok;omega) (by simp [ByteArray.size]) (repS_of HO2.out.rep) HRM.out).mono (fun b hb _=>?_) (fun b o hb hlt=>?_)
 ·rcases hb with hb | hb
  ·exact hb.elim
  ·have h1:=HN1.out;have h2:=HN2.out;show w.heap.size<=b;omega
 ·have hne:b≠n2:=by have h1:=HN1.out;rcases hb with hb | hb;exact hb.elim;omega
  exact ((Below.new _ _).cell (Nat.lt_of_lt_of_le hlt (bar_set10 _ _ _ _ _ _ _ _ _ _ _ _).size)).trans (Bar.cell (bar_set10 _ _ _ _ _ _ _ _ _ _ _ _) hlt hne)
theorem op_dot0 (gc:Nat) (r:Rd) (w:World) (h:RdAt w gc r) (hl:r.s.length<=1000000) {l rest:LB_} (hs:skipB r.s=46::l) (hst:stepsL (l.length+1) (46::l)=([],rest)):Calls Tryz.prog 98 #[.pointer (some ⟨gc,0,none⟩)] w (OpPost gc (.mk 1 T.zero ⟨#[]⟩ [] []) true (r.go (rest.drop 1)) w):=by
 have hre:rest=46::l:=by have h1:=steps_none (n:=l.length+1) (l:=46::l) (by rw [hst]);rw [hst] at h1;exact h1
 subst hre;obtain ⟨rs,d,b⟩:=r
 simp only at hs hl
 have hgc:=Blk.lt h;have hb0:Below w.heap.size w (w.alloc (.cells zX 50)):=Below.new _ _;have H0:=h_ (RdAt.keep h hb0);have HX0:=h_ (show Blk (w.alloc (.cells zX 50)) w.heap.size 50 zX from Blk.new _ _ _);have HB0:=h_ (Bar.of (gc:=gc) hb0);clear h;obtain ⟨W0,e0⟩:∃ z,z=w.alloc (.cells zX 50):=⟨_,rfl⟩;obtain ⟨n2,e2⟩:∃ z,z=w.heap.size:=⟨_,rfl⟩;rw [<-e0] at H0 HX0 HB0;rw [<-e2] at HX0
 have hn2g:n2≠gc:=by omega
 have E0:=h_ e0;have E2:=h_ e2;have HN2:=h_ (show w.heap.size<=n2 from Nat.le_of_eq e2.symm);clear e0 e2 hb0;unfold zX at *
 go_enter Tryz.func98,Tryz.ntmps98
 refine wp_seq_cut (fun K0 hK0=>?_)
 go_wp2_with fail
 refine hK0.out _ _ ?_
 rw [<-E0.out,<-E2.out];clear E0 hK0 K0;go_wp2_with fail
 refine (tskip gc ⟨rs,d,b⟩ _ H0.out).mono ?_
 rintro e w1 ⟨rfl,hrd,hbar⟩;rw [hs] at hrd;obtain ⟨s,hsl,hblk⟩:=hrd.open
 simp only [Rd.go] at hsl hblk
 have H1:=h_ hblk;have HX1:=h_ (hbar.blk HX0.out hn2g);have HB1:=h_ (HB0.out.trans hbar);have k0:=hblk.cell;have f0:=hblk.frozen;have l0:=hblk.lt;have k2:=HX1.out.cell;have f2:=HX1.out.frozen;have l2:=HX1.out.lt;clear hblk hbar hrd H0 HX0 HB0;obtain ⟨h0,hs0,hsz,hem⟩:=byte_head hsl
 have h0i:(0:Int) < s.size:=by omega
 have h256:=UInt8.toNat_lt s[0]
 have g34:((s[0].toNat:Int)==34)=false:=by rw [hs0];rfl
 have g45:((s[0].toNat:Int)==45)=false:=by rw [hs0];rfl
 have g48:¬ (48:Int)<=(s[0].toNat:Int):=by rw [hs0];decide
 have g46:((s[0].toNat:Int)==46)=true:=by rw [hs0];rfl
 have hl9:(46::l).length<=1000000:=by have h1:=skip_len rs;rw [hs] at h1;omega
 have HRD:=h_ (show RdAt w1 gc ⟨46::l,d,b⟩ from RdAt.of H1.out (show s=bs (46::l) from by rw [hsl]) rfl rfl);have HSL:=h_ hsl;clear hsl;go_wp2_with fail
 refine (tsteps gc ⟨46::l,d,b⟩ (l.length+1) _ HRD.out hl9 (by simp)).mono ?_
 rintro e w2 ⟨A2,c2,rfl,ho2,hrd2,hbar2⟩
 simp only at ho2 hrd2
 have hsl2:=steps_len (l.length+1) (46::l);rw [hst] at ho2 hrd2 hsl2;rw [hst];have hroom:=own_room ho2 (by simp only [List.length_cons] at*;omega);have HO2:=h_ ho2;have HR2:=h_ hrd2;have HX2:=h_ (hbar2.blk HX1.out hn2g);have HB2:=h_ (HB1.out.trans hbar2);have HRM:=h_ hroom;have HN1:=h_ (Nat.lt_of_lt_of_le HX1.out.lt (Nat.le_refl _));have HS1:=h_ hbar2.size;clear ho2 hbar2 hroom hsl2 hrd2;clear k0 f0 l0 k2 f2 l2;have k2:=HX2.out.cell;have f2:=HX2.out.frozen;have l2:=HX2.out.lt;have H2:=h_ (show Blk w2 gc 112 #[.string (bs (46::l)),.int .i64 d,.int .i64 b] from HR2.out);have k0:=H2.out.cell;have f0:=H2.out.frozen;have l0:=H2.out.lt;have hz9:(bs (46::l)).size=l.length+1:=bs_size _;have HT9:=h_ (show (bs (46::l)).extract 1 (bs (46::l)).size=bs l from tail1 (s:=bs (46::l)) rfl);obtain ⟨s2,hs2⟩:∃ z,z=bs (46::l):=⟨_,rfl⟩;rw [<-hs2] at hz9 HT9 k0 H2
 have hz8:(1:Int)<=s2.size:=by omega
 clear hs2 hz9;go_wp2_with fail
 refine ret_cell2 (p:=2) (q:=3) (g:=n2) rfl rfl rfl ((blk_set10 (w:=w2.setCell ⟨gc,0,none⟩ (.string (s2.extract 1 s2.size))) (HX2.out.far (p:=⟨gc,0,none⟩) hn2g _)).alloc _) Tryz.underlying50 (by kernel_rfl) rfl ?_
 refine ⟨_,rfl,?_,((RdAt.of (r:=⟨l,d,b⟩) (H2.out.s0 (.string (s2.extract 1 s2.size))) HT9.out rfl rfl).bar (bar_set10 _ _ _ _ _ _ _ _ _ _ _ _) (Ne.symm hn2g)).keep (Below.new _ _),(Bar.join (HB2.out.trans (Bar.set gc 0 _)) (bar_set10 _ _ _ _ _ _ _ _ _ _ _ _) HN2.out).trans (Bar.of (Below.new _ _))⟩
 refine RepO.leaf ?_ rfl rfl
 refine (repX_steps (S:=fun b=>False\/w1.heap.size<=b) (k:=1) (nm:=⟨#[]⟩) (by unfold i64ok;omega) (by simp [ByteArray.size]) ((RepS.nil' (w:=w2.setCell ⟨gc,0,none⟩ (.string (s2.extract 1 s2.size))))) HRM.out).mono (fun b hb _=>?_) (fun b o hb hlt=>?_)
 ·rcases hb with hb | hb
  ·exact hb.elim
  ·have h1:=HN1.out;have h2:=HN2.out;show w.heap.size<=b;omega
 ·have hne:b≠n2:=by have h1:=HN1.out;rcases hb with hb | hb;exact hb.elim;omega
  exact ((Below.new _ _).cell (Nat.lt_of_lt_of_le hlt (bar_set10 _ _ _ _ _ _ _ _ _ _ _ _).size)).trans (Bar.cell (bar_set10 _ _ _ _ _ _ _ _ _ _ _ _) hlt hne)
theorem toList_is (s:ByteArray) (l:LB_):(s.toList==l)=decide (s.data.toList=l):=by rw [ByteArray.toList_eq,Bool.eq_iff_iff];simp
theorem op_baddollar (gc:Nat) (r:Rd) (w:World) (h:RdAt w gc r) (hl:r.s.length<=1000000) {l:LB_} (hs:skipB r.s=36::l) (hk:nameK l=0):Calls Tryz.prog 98 #[.pointer (some ⟨gc,0,none⟩)] w (OpPost gc Ex.zero true ((r.go l).fail 20) w):=by
 obtain ⟨rs,d,b⟩:=r
 simp only at hs hl
 have hgc:=Blk.lt h;have hb0:Below w.heap.size w (w.alloc (.cells zX 50)):=Below.new _ _;have H0:=h_ (RdAt.keep h hb0);have HX0:=h_ (show Blk (w.alloc (.cells zX 50)) w.heap.size 50 zX from Blk.new _ _ _);have HB0:=h_ (Bar.of (gc:=gc) hb0);clear h;obtain ⟨W0,e0⟩:∃ z,z=w.alloc (.cells zX 50):=⟨_,rfl⟩;obtain ⟨n2,e2⟩:∃ z,z=w.heap.size:=⟨_,rfl⟩;rw [<-e0] at H0 HX0 HB0;rw [<-e2] at HX0
 have hn2g:n2≠gc:=by omega
 have E0:=h_ e0;have E2:=h_ e2;have HN2:=h_ (show w.heap.size<=n2 from Nat.le_of_eq e2.symm);clear e0 e2 hb0;unfold zX at *
 go_enter Tryz.func98,Tryz.ntmps98
 refine wp_seq_cut (fun K0 hK0=>?_)
 go_wp2_with fail
 refine hK0.out _ _ ?_
 rw [<-E0.out,<-E2.out];clear E0 hK0 K0;go_wp2_with fail
 refine (tskip gc ⟨rs,d,b⟩ _ H0.out).mono ?_
 rintro e w1 ⟨rfl,hrd,hbar⟩;rw [hs] at hrd;obtain ⟨s,hsl,hblk⟩:=hrd.open
 simp only [Rd.go] at hsl hblk
 have H1:=h_ hblk;have HX1:=h_ (hbar.blk HX0.out hn2g);have HB1:=h_ (HB0.out.trans hbar);have k0:=hblk.cell;have f0:=hblk.frozen;have l0:=hblk.lt;have k2:=HX1.out.cell;have f2:=HX1.out.frozen;have l2:=HX1.out.lt;clear hblk hbar hrd H0 HX0 HB0;obtain ⟨h0,hs0,hsz,hem⟩:=byte_head hsl
 have h0i:(0:Int) < s.size:=by omega
 have h256:=UInt8.toNat_lt s[0]
 have g34:((s[0].toNat:Int)==34)=false:=by rw [hs0];rfl
 have g45:((s[0].toNat:Int)==45)=false:=by rw [hs0];rfl
 have g48:¬ (48:Int)<=(s[0].toNat:Int):=by rw [hs0];decide
 have g46:((s[0].toNat:Int)==46)=false:=by rw [hs0];rfl
 have g36:((s[0].toNat:Int)==36)=true:=by rw [hs0];rfl
 have hl9:l.length<=1000000:=by have h1:=skip_len rs;rw [hs] at h1;simp only [List.length_cons] at h1;omega
 have hz1:(1:Int)<=s.size:=by omega
 have HRD:=h_ (show RdAt (w1.setCell ⟨gc,0,none⟩ (.string (s.extract 1 s.size))) gc ⟨l,d,b⟩ from RdAt.of (H1.out.s0 _) (tail1 hsl) rfl rfl);clear hsz;have HSL:=h_ hsl;clear hsl;have hnz:=nameT_size hl9;obtain ⟨nm,hnm⟩:∃ z,z=nameT l:=⟨_,rfl⟩;rw [<-hnm] at hnz;have CN:=h_ (fun W (hW:RdAt W gc ⟨l,d,b⟩)=>show Calls Tryz.prog 79 #[.pointer (some ⟨gc,0,none⟩)] W (fun e w'=>e=.returned (.string nm)/\RdAt w' gc ⟨nameD l,d,b⟩/\Bar W w' gc) from by rw [hnm];exact tname gc ⟨l,d,b⟩ W hW hl9);have HN:=h_ hnm;clear hnm;go_wp2_with fail
 refine (CN.out _ HRD.out).mono ?_
 rintro e w2 ⟨rfl,hrd2,hbar2⟩;have hba:=Below.new w2 (.cells #[.int .i64 2,.int .i64 0,.bool false,.int .i64 0,.string ⟨#[]⟩,.slice none 0 0,.slice none 0 0,.string nm,.slice none 0 0,.slice none 0 0] 50);have HX2:=h_ ((hbar2.blk (HX1.out.far (p:=⟨gc,0,none⟩) hn2g _) hn2g).keep hba);have HB2:=h_ ((((HB1.out.trans (Bar.set gc 0 _)).trans hbar2)).trans (Bar.of hba));have HR2:=h_ (hrd2.keep hba);have HY2:=h_ (show Blk (w2.alloc (.cells #[.int .i64 2,.int .i64 0,.bool false,.int .i64 0,.string ⟨#[]⟩,.slice none 0 0,.slice none 0 0,.string nm,.slice none 0 0,.slice none 0 0] 50)) w2.heap.size 50 #[.int .i64 2,.int .i64 0,.bool false,.int .i64 0,.string ⟨#[]⟩,.slice none 0 0,.slice none 0 0,.string nm,.slice none 0 0,.slice none 0 0] from Blk.new _ _ _);have HN1:=h_ (Nat.lt_of_lt_of_le HX1.out.lt (Nat.le_trans (Bar.set gc 0 (.string (s.extract 1 s.size))).size hbar2.size));have hl0:gc < w2.heap.size:=Blk.lt hrd2;clear hba hrd2 hbar2;clear k0 f0 l0 k2 f2 l2;go_upto_region 21 with fail;obtain ⟨WA,eA⟩:∃ z,z=w2.alloc (.cells #[.int .i64 2,.int .i64 0,.bool false,.int .i64 0,.string ⟨#[]⟩,.slice none 0 0,.slice none 0 0,.string nm,.slice none 0 0,.slice none 0 0] 50):=⟨_,rfl⟩;obtain ⟨n9,e9⟩:∃ z,z=w2.heap.size:=⟨_,rfl⟩;rw [<-eA] at HX2 HB2 HR2 HY2;rw [<-e9] at HY2 HN1;rw [<-eA,<-e9]
 have hn9g:n9≠gc:=by omega
 have hn92:n9≠n2:=by have:=HN1.out;omega
 clear eA e9 hl0;have k9:=HY2.out.cell;have f9:=HY2.out.frozen;have l9:=HY2.out.lt;have k2:=HX2.out.cell;have f2:=HX2.out.frozen;have l2:=HX2.out.lt
 have hem2:nm.toList.isEmpty=true:=by rw [empty_eq,HN.out];unfold nameT;rw [hk];rfl
 have H9:=h_ (show Blk WA gc 112 #[.string (bs l),.int .i64 d,.int .i64 b] from by have h9:=HR2.out;unfold nameD at h9;rw [hk] at h9;exact h9);have k0:=H9.out.cell;have f0:=H9.out.frozen;have l0:=H9.out.lt;go_wp2_with fail
 refine (tfail gc ⟨l,d,b⟩ 20 _ (RdAt.of H9.out rfl rfl rfl)).mono ?_
 rintro e w8 ⟨rfl,hrd8,hbar8⟩;have HX8:=h_ (hbar8.blk HX2.out hn2g);have HR8:=h_ hrd8;have HB8:=h_ (HB2.out.trans hbar8);clear hrd8 hbar8;clear k0 f0 l0 k2 f2 l2;have k2:=HX8.out.cell;have f2:=HX8.out.frozen;have l2:=HX8.out.lt;go_wp2_with fail
 refine ret_cell2 (p:=2) (q:=3) (g:=n2) rfl rfl rfl (blk_set10 (w:=w8) HX8.out) Tryz.underlying50 (by kernel_rfl) rfl ?_
 exact ⟨_,rfl,repO_zero,HR8.out.bar (bar_set10 _ _ _ _ _ _ _ _ _ _ _ _) (Ne.symm hn2g),Bar.join HB8.out (bar_set10 _ _ _ _ _ _ _ _ _ _ _ _) HN2.out⟩
theorem op_dollar (gc:Nat) (r:Rd) (w:World) (h:RdAt w gc r) (hl:r.s.length<=1000000) {l:LB_} (hs:skipB r.s=36::l) (hk:¬ nameK l=0):Calls Tryz.prog 98 #[.pointer (some ⟨gc,0,none⟩)] w (OpPost gc (.mk 2 T.zero (nameT l) (stepsL (l.length+1) (nameD l)).1 []) true (r.go (stepsL (l.length+1) (nameD l)).2) w):=by
 obtain ⟨rs,d,b⟩:=r
 simp only at hs hl
 have hgc:=Blk.lt h;have hb0:Below w.heap.size w (w.alloc (.cells zX 50)):=Below.new _ _;have H0:=h_ (RdAt.keep h hb0);have HX0:=h_ (show Blk (w.alloc (.cells zX 50)) w.heap.size 50 zX from Blk.new _ _ _);have HB0:=h_ (Bar.of (gc:=gc) hb0);clear h;obtain ⟨W0,e0⟩:∃ z,z=w.alloc (.cells zX 50):=⟨_,rfl⟩;obtain ⟨n2,e2⟩:∃ z,z=w.heap.size:=⟨_,rfl⟩;rw [<-e0] at H0 HX0 HB0;rw [<-e2] at HX0
 have hn2g:n2≠gc:=by omega
 have E0:=h_ e0;have E2:=h_ e2;have HN2:=h_ (show w.heap.size<=n2 from Nat.le_of_eq e2.symm);clear e0 e2 hb0;unfold zX at *
 go_enter Tryz.func98,Tryz.ntmps98
 refine wp_seq_cut (fun K0 hK0=>?_)
 go_wp2_with fail
 refine hK0.out _ _ ?_
 rw [<-E0.out,<-E2.out];clear E0 hK0 K0;go_wp2_with fail
 refine (tskip gc ⟨rs,d,b⟩ _ H0.out).mono ?_
 rintro e w1 ⟨rfl,hrd,hbar⟩;rw [hs] at hrd;obtain ⟨s,hsl,hblk⟩:=hrd.open
 simp only [Rd.go] at hsl hblk
 have H1:=h_ hblk;have HX1:=h_ (hbar.blk HX0.out hn2g);have HB1:=h_ (HB0.out.trans hbar);have k0:=hblk.cell;have f0:=hblk.frozen;have l0:=hblk.lt;have k2:=HX1.out.cell;have f2:=HX1.out.frozen;have l2:=HX1.out.lt;clear hblk hbar hrd H0 HX0 HB0;obtain ⟨h0,hs0,hsz,hem⟩:=byte_head hsl
 have h0i:(0:Int) < s.size:=by omega
 have h256:=UInt8.toNat_lt s[0]
 have g34:((s[0].toNat:Int)==34)=false:=by rw [hs0];rfl
 have g45:((s[0].toNat:Int)==45)=false:=by rw [hs0];rfl
 have g48:¬ (48:Int)<=(s[0].toNat:Int):=by rw [hs0];decide
 have g46:((s[0].toNat:Int)==46)=false:=by rw [hs0];rfl
 have g36:((s[0].toNat:Int)==36)=true:=by rw [hs0];rfl
 have hl9:l.length<=1000000:=by have h1:=skip_len rs;rw [hs] at h1;simp only [List.length_cons] at h1;omega
 have hz1:(1:Int)<=s.size:=by omega
 have HRD:=h_ (show RdAt (w1.setCell ⟨gc,0,none⟩ (.string (s.extract 1 s.size))) gc ⟨l,d,b⟩ from RdAt.of (H1.out.s0 _) (tail1 hsl) rfl rfl);clear hsz;have HSL:=h_ hsl;clear hsl;have hnz:=nameT_size hl9;obtain ⟨nm,hnm⟩:∃ z,z=nameT l:=⟨_,rfl⟩;rw [<-hnm] at hnz ⊢;have CN:=h_ (fun W (hW:RdAt W gc ⟨l,d,b⟩)=>show Calls Tryz.prog 79 #[.pointer (some ⟨gc,0,none⟩)] W (fun e w'=>e=.returned (.string nm)/\RdAt w' gc ⟨nameD l,d,b⟩/\Bar W w' gc) from by rw [hnm];exact tname gc ⟨l,d,b⟩ W hW hl9);have HN:=h_ hnm;clear hnm;go_wp2_with fail
 refine (CN.out _ HRD.out).mono ?_
 rintro e w2 ⟨rfl,hrd2,hbar2⟩;have hba:=Below.new w2 (.cells #[.int .i64 2,.int .i64 0,.bool false,.int .i64 0,.string ⟨#[]⟩,.slice none 0 0,.slice none 0 0,.string nm,.slice none 0 0,.slice none 0 0] 50);have HX2:=h_ ((hbar2.blk (HX1.out.far (p:=⟨gc,0,none⟩) hn2g _) hn2g).keep hba);have HB2:=h_ ((((HB1.out.trans (Bar.set gc 0 _)).trans hbar2)).trans (Bar.of hba));have HR2:=h_ (hrd2.keep hba);have HY2:=h_ (show Blk (w2.alloc (.cells #[.int .i64 2,.int .i64 0,.bool false,.int .i64 0,.string ⟨#[]⟩,.slice none 0 0,.slice none 0 0,.string nm,.slice none 0 0,.slice none 0 0] 50)) w2.heap.size 50 #[.int .i64 2,.int .i64 0,.bool false,.int .i64 0,.string ⟨#[]⟩,.slice none 0 0,.slice none 0 0,.string nm,.slice none 0 0,.slice none 0 0] from Blk.new _ _ _);have HN1:=h_ (Nat.lt_of_lt_of_le HX1.out.lt (Nat.le_trans (Bar.set gc 0 (.string (s.extract 1 s.size))).size hbar2.size));have hl0:gc < w2.heap.size:=Blk.lt hrd2;clear hba hrd2 hbar2;clear k0 f0 l0 k2 f2 l2;go_upto_region 21 with fail;obtain ⟨WA,eA⟩:∃ z,z=w2.alloc (.cells #[.int .i64 2,.int .i64 0,.bool false,.int .i64 0,.string ⟨#[]⟩,.slice none 0 0,.slice none 0 0,.string nm,.slice none 0 0,.slice none 0 0] 50):=⟨_,rfl⟩;obtain ⟨n9,e9⟩:∃ z,z=w2.heap.size:=⟨_,rfl⟩;rw [<-eA] at HX2 HB2 HR2 HY2;rw [<-e9] at HY2 HN1;rw [<-eA,<-e9]
 have hn9g:n9≠gc:=by omega
 have hn92:n9≠n2:=by have:=HN1.out;omega
 clear eA e9 hl0;have k9:=HY2.out.cell;have f9:=HY2.out.frozen;have l9:=HY2.out.lt;have k2:=HX2.out.cell;have f2:=HX2.out.frozen;have l2:=HX2.out.lt
 have hem2:nm.toList.isEmpty=false:=by rw [empty_eq,HN.out];refine decide_eq_false (fun e=>?_);unfold nameT at e;rw [bs_list] at e;have h9:=congrArg List.length e;rw [List.length_take] at h9;have h8:=nameK_le l;simp only [List.length_nil] at h9;omega
 have hdl:=nameD_len l;obtain ⟨ST,hST⟩:∃ z,z=(stepsL (l.length+1) (nameD l)).1:=⟨_,rfl⟩;obtain ⟨RS,hRS⟩:∃ z,z=(stepsL (l.length+1) (nameD l)).2:=⟨_,rfl⟩;have hsl2:=steps_len (l.length+1) (nameD l);rw [<-hST] at hsl2
 skip
 go_wp2_with fail
 refine (tsteps gc ⟨nameD l,d,b⟩ (l.length+1) _ HR2.out (by simp only;omega) (by simp only;omega)).mono ?_
 rintro e w3 ⟨A3,c3,rfl,ho3,hrd3,hbar3⟩
 simp only at ho3 hrd3
 simp only
 rw [<-hST] at ho3 ⊢;rw [<-hRS] at hrd3;have hroom:=own_room ho3 (by omega);have HO3:=h_ ho3;have HR3:=h_ hrd3;have HX3:=h_ (hbar3.blk HX2.out hn2g);have HY3:=h_ (hbar3.blk HY2.out hn9g);have HB3:=h_ (HB2.out.trans hbar3);have HRM:=h_ hroom;have HSTE:=h_ hST;have HRSE:=h_ hRS;have HL9:=h_ l9;have HL2:=h_ l2;clear ho3 hrd3 hbar3 hroom hsl2 hST hRS hdl k9 f9 l9 k2 f2 l2;have k9:=HY3.out.cell;have f9:=HY3.out.frozen;have l9:=HY3.out.lt;have k2:=HX3.out.cell;have f2:=HX3.out.frozen;have l2:=HX3.out.lt;go_wp2_with fail
 refine ret_cell2 (p:=2) (q:=3) (g:=n2) rfl rfl rfl (blk_set10 (w:=w3.setCell ⟨n9,8,none⟩ (.slice A3 ST.length c3)) (HX3.out.far (p:=⟨n9,8,none⟩) (Ne.symm hn92) _)) Tryz.underlying50 (by kernel_rfl) rfl ?_
 rw [<-HSTE.out,<-HRSE.out]
 try rw [<-HN.out]
 refine ⟨_,rfl,?_,RdAt.bar (RdAt.bar HR3.out (Bar.set n9 8 _) (Ne.symm hn9g)) (bar_set10 _ _ _ _ _ _ _ _ _ _ _ _) (Ne.symm hn2g),Bar.join (Bar.join HB3.out (Bar.set n9 8 _) (by have h1:=HN1.out;have h2:=HN2.out;omega)) (bar_set10 _ _ _ _ _ _ _ _ _ _ _ _) HN2.out⟩
 refine RepO.leaf ?_ rfl rfl
 refine (repX_steps (S:=fun b=>False\/WA.heap.size<=b) (k:=2) (nm:=nm) (by unfold i64ok;omega) hnz (repS_of HO3.out.rep) HRM.out).mono (fun b hb _=>?_) (fun b o hb hlt=>?_)
 ·rcases hb with hb | hb
  ·exact hb.elim
  ·have h1:=HN2.out;have h2:=HL2.out;show w.heap.size<=b;omega
 ·have hne:b≠n2:=by have h1:=HL2.out;rcases hb with hb | hb;exact hb.elim;omega
  have hne2:b≠n9:=by have h1:=HL9.out;rcases hb with hb | hb;exact hb.elim;omega
  exact (Bar.cell (bar_set10 _ _ _ _ _ _ _ _ _ _ _ _) (Nat.lt_of_lt_of_le hlt (Bar.set n9 8 _).size) hne).trans (Bar.cell (Bar.set n9 8 _) hlt hne2)
theorem op_true (gc:Nat) (r:Rd) (w:World) (h:RdAt w gc r) (hl:r.s.length<=1000000) {c:UInt8} {l:LB_} (hs:skipB r.s=c::l) (hc:nletB c=true) (htrue:(c::l).take (nameK (c::l))=trueW):Calls Tryz.prog 98 #[.pointer (some ⟨gc,0,none⟩)] w (OpPost gc (Ex.lit (tB true)) true (r.go (nameD (c::l))) w):=by
 obtain ⟨rs,d,b⟩:=r
 simp only at hs hl
 have hgc:=Blk.lt h;have hb0:Below w.heap.size w (w.alloc (.cells zX 50)):=Below.new _ _;have H0:=h_ (RdAt.keep h hb0);have HX0:=h_ (show Blk (w.alloc (.cells zX 50)) w.heap.size 50 zX from Blk.new _ _ _);have HB0:=h_ (Bar.of (gc:=gc) hb0);clear h;obtain ⟨W0,e0⟩:∃ z,z=w.alloc (.cells zX 50):=⟨_,rfl⟩;obtain ⟨n2,e2⟩:∃ z,z=w.heap.size:=⟨_,rfl⟩;rw [<-e0] at H0 HX0 HB0;rw [<-e2] at HX0
 have hn2g:n2≠gc:=by omega
 have E0:=h_ e0;have E2:=h_ e2;have HN2:=h_ (show w.heap.size<=n2 from Nat.le_of_eq e2.symm);clear e0 e2 hb0;unfold zX at *
 go_enter Tryz.func98,Tryz.ntmps98
 refine wp_seq_cut (fun K0 hK0=>?_)
 go_wp2_with fail
 refine hK0.out _ _ ?_
 rw [<-E0.out,<-E2.out];clear E0 hK0 K0;go_wp2_with fail
 refine (tskip gc ⟨rs,d,b⟩ _ H0.out).mono ?_
 rintro e w1 ⟨rfl,hrd,hbar⟩;rw [hs] at hrd;obtain ⟨s,hsl,hblk⟩:=hrd.open
 simp only [Rd.go] at hsl hblk
 have H1:=h_ hblk;have HX1:=h_ (hbar.blk HX0.out hn2g);have HB1:=h_ (HB0.out.trans hbar);have k0:=hblk.cell;have f0:=hblk.frozen;have l0:=hblk.lt;have k2:=HX1.out.cell;have f2:=HX1.out.frozen;have l2:=HX1.out.lt;clear hblk hbar hrd H0 HX0 HB0;obtain ⟨h0,hs0,hsz,hem⟩:=byte_head hsl
 have h0i:(0:Int) < s.size:=by omega
 have h256:=UInt8.toNat_lt s[0]
 have hcn:(97<=c.toNat/\c.toNat<=122)\/(65<=c.toNat/\c.toNat<=90)\/c.toNat=95:=by
  have h9:=hc;unfold nletB letterB at h9
  simp only [Bool.or_eq_true,decide_eq_true_eq] at h9
  rcases h9 with (h9 | h9) | h9
  ·exact .inl h9
  ·exact .inr (.inl h9)
  ·exact .inr (.inr (by rw [h9];rfl))
 have g34:((c.toNat:Int)==34)=false:=bf_ (by omega);have g45:((c.toNat:Int)==45)=false:=bf_ (by omega);have g46:((c.toNat:Int)==46)=false:=bf_ (by omega);have g36:((c.toNat:Int)==36)=false:=bf_ (by omega);have g40:((c.toNat:Int)==40)=false:=bf_ (by omega)
 have g48:(48:Int)<=c.toNat:=by omega
 have g57:¬ (c.toNat:Int)<=57:=by omega
 clear hcn
 have hl9:(c::l).length<=1000000:=by have h1:=skip_len rs;rw [hs] at h1;omega
 have HRD:=h_ (show RdAt w1 gc ⟨c::l,d,b⟩ from RdAt.of H1.out (show s=bs (c::l) from by rw [hsl]) rfl rfl);have CL:=h_ (tletterP c w1);rw [hc] at CL;clear hc hsz;have HSL:=h_ hsl;clear hsl;obtain ⟨nm,hnm⟩:∃ z,z=nameT (c::l):=⟨_,rfl⟩;have CN:=h_ (fun W (hW:RdAt W gc ⟨c::l,d,b⟩)=>show Calls Tryz.prog 79 #[.pointer (some ⟨gc,0,none⟩)] W (fun e w'=>e=.returned (.string nm)/\RdAt w' gc ⟨nameD (c::l),d,b⟩/\Bar W w' gc) from by rw [hnm];exact tname gc ⟨c::l,d,b⟩ W hW hl9)
 have hnl:nm.data.toList=(c::l).take (nameK (c::l)):=by rw [hnm];rfl
 have qtrue:(nm.toList==[116,114,117,101])=true:=by rw [toList_is,hnl];exact decide_eq_true htrue
 have hc9:((c.toNat:Int)==116)=true:=by
  have h9:=congrArg List.head? htrue
  cases hk:nameK (c::l) with
  | zero=>rw [hk] at h9;cases h9
  | succ k=>rw [hk] at h9;simp only [List.take_succ_cons,List.head?_cons] at h9;injection h9 with h9;rw [h9];rfl
 clear hnm hnl hl9 htrue
 go_wp2_with (go_at_call 38;refine CL.out.mono ?_;rintro e w9 ⟨rfl,rfl⟩)
 refine (CN.out _ HRD.out).mono ?_
 rintro e w2 ⟨rfl,hrd2,hbar2⟩;have HX2:=h_ (hbar2.blk HX1.out hn2g);have HB2:=h_ (HB1.out.trans hbar2);have HR2:=h_ hrd2;have HK2:=h_ (show Blk w2 gc 112 #[.string (bs (nameD (c::l))),.int .i64 d,.int .i64 b] from hrd2);clear hrd2 hbar2;clear k0 f0 l0 k2 f2 l2;obtain ⟨sd,hsd⟩:∃ z,z=bs (nameD (c::l)):=⟨_,rfl⟩;rw [<-hsd] at HK2;clear hsd;have k0:=HK2.out.cell;have f0:=HK2.out.frozen;have l0:=HK2.out.lt;have k2:=HX2.out.cell;have f2:=HX2.out.frozen;have l2:=HX2.out.lt;go_wp2_with fail
 refine (tbool true _).mono ?_
 rintro e w3 ⟨vv,rfl,hr3,hb3⟩;obtain ⟨la,lc,ma,mc,rfl, -⟩:=hr3.inv;have HR3:=h_ (HR2.out.keep hb3);have HX3:=h_ (HX2.out.keep hb3);have HB3:=h_ (HB2.out.trans (Bar.of hb3));have HRT:=h_ hr3;clear hr3 hb3 k0 f0 l0 k2 f2 l2;have k2:=HX3.out.cell;have f2:=HX3.out.frozen;have l2:=HX3.out.lt;go_wp2_with fail
 refine ret_cell2 (p:=2) (q:=3) (g:=n2) rfl rfl rfl (blk_set10 (w:=w3) HX3.out) Tryz.underlying50 (by kernel_rfl) rfl ?_
 exact ⟨_,rfl,RepO.leaf (repX_lit (t:=.mk 1 true 0 ⟨#[]⟩ [] []) (leaf_any HRT.out)) rfl rfl,RdAt.bar HR3.out (bar_set10 _ _ _ _ _ _ _ _ _ _ _ _) (Ne.symm hn2g),Bar.join HB3.out (bar_set10 _ _ _ _ _ _ _ _ _ _ _ _) HN2.out⟩
theorem op_false (gc:Nat) (r:Rd) (w:World) (h:RdAt w gc r) (hl:r.s.length<=1000000) {c:UInt8} {l:LB_} (hs:skipB r.s=c::l) (hc:nletB c=true) (htrue:¬ (c::l).take (nameK (c::l))=trueW) (hfalse:(c::l).take (nameK (c::l))=falseW):Calls Tryz.prog 98 #[.pointer (some ⟨gc,0,none⟩)] w (OpPost gc (Ex.lit (tB false)) true (r.go (nameD (c::l))) w):=by
 obtain ⟨rs,d,b⟩:=r
 simp only at hs hl
 have hgc:=Blk.lt h;have hb0:Below w.heap.size w (w.alloc (.cells zX 50)):=Below.new _ _;have H0:=h_ (RdAt.keep h hb0);have HX0:=h_ (show Blk (w.alloc (.cells zX 50)) w.heap.size 50 zX from Blk.new _ _ _);have HB0:=h_ (Bar.of (gc:=gc) hb0);clear h;obtain ⟨W0,e0⟩:∃ z,z=w.alloc (.cells zX 50):=⟨_,rfl⟩;obtain ⟨n2,e2⟩:∃ z,z=w.heap.size:=⟨_,rfl⟩;rw [<-e0] at H0 HX0 HB0;rw [<-e2] at HX0
 have hn2g:n2≠gc:=by omega
 have E0:=h_ e0;have E2:=h_ e2;have HN2:=h_ (show w.heap.size<=n2 from Nat.le_of_eq e2.symm);clear e0 e2 hb0;unfold zX at *
 go_enter Tryz.func98,Tryz.ntmps98
 refine wp_seq_cut (fun K0 hK0=>?_)
 go_wp2_with fail
 refine hK0.out _ _ ?_
 rw [<-E0.out,<-E2.out];clear E0 hK0 K0;go_wp2_with fail
 refine (tskip gc ⟨rs,d,b⟩ _ H0.out).mono ?_
 rintro e w1 ⟨rfl,hrd,hbar⟩;rw [hs] at hrd;obtain ⟨s,hsl,hblk⟩:=hrd.open
 simp only [Rd.go] at hsl hblk
 have H1:=h_ hblk;have HX1:=h_ (hbar.blk HX0.out hn2g);have HB1:=h_ (HB0.out.trans hbar);have k0:=hblk.cell;have f0:=hblk.frozen;have l0:=hblk.lt;have k2:=HX1.out.cell;have f2:=HX1.out.frozen;have l2:=HX1.out.lt;clear hblk hbar hrd H0 HX0 HB0;obtain ⟨h0,hs0,hsz,hem⟩:=byte_head hsl
 have h0i:(0:Int) < s.size:=by omega
 have h256:=UInt8.toNat_lt s[0]
 have hcn:(97<=c.toNat/\c.toNat<=122)\/(65<=c.toNat/\c.toNat<=90)\/c.toNat=95:=by
  have h9:=hc;unfold nletB letterB at h9
  simp only [Bool.or_eq_true,decide_eq_true_eq] at h9
  rcases h9 with (h9 | h9) | h9
  ·exact .inl h9
  ·exact .inr (.inl h9)
  ·exact .inr (.inr (by rw [h9];rfl))
 have g34:((c.toNat:Int)==34)=false:=bf_ (by omega);have g45:((c.toNat:Int)==45)=false:=bf_ (by omega);have g46:((c.toNat:Int)==46)=false:=bf_ (by omega);have g36:((c.toNat:Int)==36)=false:=bf_ (by omega);have g40:((c.toNat:Int)==40)=false:=bf_ (by omega)
 have g48:(48:Int)<=c.toNat:=by omega
 have g57:¬ (c.toNat:Int)<=57:=by omega
 clear hcn
 have hl9:(c::l).length<=1000000:=by have h1:=skip_len rs;rw [hs] at h1;omega
 have HRD:=h_ (show RdAt w1 gc ⟨c::l,d,b⟩ from RdAt.of H1.out (show s=bs (c::l) from by rw [hsl]) rfl rfl);have CL:=h_ (tletterP c w1);rw [hc] at CL;clear hc hsz;have HSL:=h_ hsl;clear hsl;obtain ⟨nm,hnm⟩:∃ z,z=nameT (c::l):=⟨_,rfl⟩;have CN:=h_ (fun W (hW:RdAt W gc ⟨c::l,d,b⟩)=>show Calls Tryz.prog 79 #[.pointer (some ⟨gc,0,none⟩)] W (fun e w'=>e=.returned (.string nm)/\RdAt w' gc ⟨nameD (c::l),d,b⟩/\Bar W w' gc) from by rw [hnm];exact tname gc ⟨c::l,d,b⟩ W hW hl9)
 have hnl:nm.data.toList=(c::l).take (nameK (c::l)):=by rw [hnm];rfl
 have qtrue:(nm.toList==[116,114,117,101])=false:=by rw [toList_is,hnl];exact decide_eq_false htrue
 have qfalse:(nm.toList==[102,97,108,115,101])=true:=by rw [toList_is,hnl];exact decide_eq_true hfalse
 have hc9:((c.toNat:Int)==116)=false:=by
  have h9:=congrArg List.head? hfalse
  cases hk:nameK (c::l) with
  | zero=>rw [hk] at h9;cases h9
  | succ k=>rw [hk] at h9;simp only [List.take_succ_cons,List.head?_cons] at h9;injection h9 with h9;rw [h9];rfl
 clear hnm hnl hl9 htrue hfalse
 go_wp2_with (go_at_call 38;refine CL.out.mono ?_;rintro e w9 ⟨rfl,rfl⟩)
 refine (CN.out _ HRD.out).mono ?_
 rintro e w2 ⟨rfl,hrd2,hbar2⟩;have HX2:=h_ (hbar2.blk HX1.out hn2g);have HB2:=h_ (HB1.out.trans hbar2);have HR2:=h_ hrd2;have HK2:=h_ (show Blk w2 gc 112 #[.string (bs (nameD (c::l))),.int .i64 d,.int .i64 b] from hrd2);clear hrd2 hbar2;clear k0 f0 l0 k2 f2 l2;obtain ⟨sd,hsd⟩:∃ z,z=bs (nameD (c::l)):=⟨_,rfl⟩;rw [<-hsd] at HK2;clear hsd;have k0:=HK2.out.cell;have f0:=HK2.out.frozen;have l0:=HK2.out.lt;have k2:=HX2.out.cell;have f2:=HX2.out.frozen;have l2:=HX2.out.lt;go_wp2_with fail
 refine (tbool false _).mono ?_
 rintro e w3 ⟨vv,rfl,hr3,hb3⟩;obtain ⟨la,lc,ma,mc,rfl, -⟩:=hr3.inv;have HR3:=h_ (HR2.out.keep hb3);have HX3:=h_ (HX2.out.keep hb3);have HB3:=h_ (HB2.out.trans (Bar.of hb3));have HRT:=h_ hr3;clear hr3 hb3 k0 f0 l0 k2 f2 l2;have k2:=HX3.out.cell;have f2:=HX3.out.frozen;have l2:=HX3.out.lt;go_wp2_with fail
 refine ret_cell2 (p:=2) (q:=3) (g:=n2) rfl rfl rfl (blk_set10 (w:=w3) HX3.out) Tryz.underlying50 (by kernel_rfl) rfl ?_
 exact ⟨_,rfl,RepO.leaf (repX_lit (t:=.mk 1 false 0 ⟨#[]⟩ [] []) (leaf_any HRT.out)) rfl rfl,RdAt.bar HR3.out (bar_set10 _ _ _ _ _ _ _ _ _ _ _ _) (Ne.symm hn2g),Bar.join HB3.out (bar_set10 _ _ _ _ _ _ _ _ _ _ _ _) HN2.out⟩
theorem op_nil (gc:Nat) (r:Rd) (w:World) (h:RdAt w gc r) (hl:r.s.length<=1000000) {c:UInt8} {l:LB_} (hs:skipB r.s=c::l) (hc:nletB c=true) (htrue:¬ (c::l).take (nameK (c::l))=trueW) (hfalse:¬ (c::l).take (nameK (c::l))=falseW) (hnil:(c::l).take (nameK (c::l))=[110,105,108]):Calls Tryz.prog 98 #[.pointer (some ⟨gc,0,none⟩)] w (OpPost gc Ex.zero true (r.go (nameD (c::l))) w):=by
 obtain ⟨rs,d,b⟩:=r
 simp only at hs hl
 have hgc:=Blk.lt h;have hb0:Below w.heap.size w (w.alloc (.cells zX 50)):=Below.new _ _;have H0:=h_ (RdAt.keep h hb0);have HX0:=h_ (show Blk (w.alloc (.cells zX 50)) w.heap.size 50 zX from Blk.new _ _ _);have HB0:=h_ (Bar.of (gc:=gc) hb0);clear h;obtain ⟨W0,e0⟩:∃ z,z=w.alloc (.cells zX 50):=⟨_,rfl⟩;obtain ⟨n2,e2⟩:∃ z,z=w.heap.size:=⟨_,rfl⟩;rw [<-e0] at H0 HX0 HB0;rw [<-e2] at HX0
 have hn2g:n2≠gc:=by omega
 have E0:=h_ e0;have E2:=h_ e2;have HN2:=h_ (show w.heap.size<=n2 from Nat.le_of_eq e2.symm);clear e0 e2 hb0;unfold zX at *
 go_enter Tryz.func98,Tryz.ntmps98
 refine wp_seq_cut (fun K0 hK0=>?_)
 go_wp2_with fail
 refine hK0.out _ _ ?_
 rw [<-E0.out,<-E2.out];clear E0 hK0 K0;go_wp2_with fail
 refine (tskip gc ⟨rs,d,b⟩ _ H0.out).mono ?_
 rintro e w1 ⟨rfl,hrd,hbar⟩;rw [hs] at hrd;obtain ⟨s,hsl,hblk⟩:=hrd.open
 simp only [Rd.go] at hsl hblk
 have H1:=h_ hblk;have HX1:=h_ (hbar.blk HX0.out hn2g);have HB1:=h_ (HB0.out.trans hbar);have k0:=hblk.cell;have f0:=hblk.frozen;have l0:=hblk.lt;have k2:=HX1.out.cell;have f2:=HX1.out.frozen;have l2:=HX1.out.lt;clear hblk hbar hrd H0 HX0 HB0;obtain ⟨h0,hs0,hsz,hem⟩:=byte_head hsl
 have h0i:(0:Int) < s.size:=by omega
 have h256:=UInt8.toNat_lt s[0]
 have hcn:(97<=c.toNat/\c.toNat<=122)\/(65<=c.toNat/\c.toNat<=90)\/c.toNat=95:=by
  have h9:=hc;unfold nletB letterB at h9
  simp only [Bool.or_eq_true,decide_eq_true_eq] at h9
  rcases h9 with (h9 | h9) | h9
  ·exact .inl h9
  ·exact .inr (.inl h9)
  ·exact .inr (.inr (by rw [h9];rfl))
 have g34:((c.toNat:Int)==34)=false:=bf_ (by omega);have g45:((c.toNat:Int)==45)=false:=bf_ (by omega);have g46:((c.toNat:Int)==46)=false:=bf_ (by omega);have g36:((c.toNat:Int)==36)=false:=bf_ (by omega);have g40:((c.toNat:Int)==40)=false:=bf_ (by omega)
 have g48:(48:Int)<=c.toNat:=by omega
 have g57:¬ (c.toNat:Int)<=57:=by omega
 clear hcn
 have hl9:(c::l).length<=1000000:=by have h1:=skip_len rs;rw [hs] at h1;omega
 have HRD:=h_ (show RdAt w1 gc ⟨c::l,d,b⟩ from RdAt.of H1.out (show s=bs (c::l) from by rw [hsl]) rfl rfl);have CL:=h_ (tletterP c w1);rw [hc] at CL;clear hc hsz;have HSL:=h_ hsl;clear hsl;obtain ⟨nm,hnm⟩:∃ z,z=nameT (c::l):=⟨_,rfl⟩;have CN:=h_ (fun W (hW:RdAt W gc ⟨c::l,d,b⟩)=>show Calls Tryz.prog 79 #[.pointer (some ⟨gc,0,none⟩)] W (fun e w'=>e=.returned (.string nm)/\RdAt w' gc ⟨nameD (c::l),d,b⟩/\Bar W w' gc) from by rw [hnm];exact tname gc ⟨c::l,d,b⟩ W hW hl9)
 have hnl:nm.data.toList=(c::l).take (nameK (c::l)):=by rw [hnm];rfl
 have qtrue:(nm.toList==[116,114,117,101])=false:=by rw [toList_is,hnl];exact decide_eq_false htrue
 have qfalse:(nm.toList==[102,97,108,115,101])=false:=by rw [toList_is,hnl];exact decide_eq_false hfalse
 have qnil:(nm.toList==[110,105,108])=true:=by rw [toList_is,hnl];exact decide_eq_true hnil
 clear hnm hnl hl9 htrue hfalse hnil
 go_wp2_with (go_at_call 38;refine CL.out.mono ?_;rintro e w9 ⟨rfl,rfl⟩)
 refine (CN.out _ HRD.out).mono ?_
 rintro e w2 ⟨rfl,hrd2,hbar2⟩;have HX2:=h_ (hbar2.blk HX1.out hn2g);have HB2:=h_ (HB1.out.trans hbar2);have HR2:=h_ hrd2;have HK2:=h_ (show Blk w2 gc 112 #[.string (bs (nameD (c::l))),.int .i64 d,.int .i64 b] from hrd2);clear hrd2 hbar2;clear k0 f0 l0 k2 f2 l2;obtain ⟨sd,hsd⟩:∃ z,z=bs (nameD (c::l)):=⟨_,rfl⟩;rw [<-hsd] at HK2;clear hsd;have k0:=HK2.out.cell;have f0:=HK2.out.frozen;have l0:=HK2.out.lt;have k2:=HX2.out.cell;have f2:=HX2.out.frozen;have l2:=HX2.out.lt;go_wp2_with fail
 refine ret_cell2 (p:=2) (q:=3) (g:=n2) rfl rfl rfl (blk_set10 (w:=w2) HX2.out) Tryz.underlying50 (by kernel_rfl) rfl ?_
 exact ⟨_,rfl,repO_zero,RdAt.bar HR2.out (bar_set10 _ _ _ _ _ _ _ _ _ _ _ _) (Ne.symm hn2g),Bar.join HB2.out (bar_set10 _ _ _ _ _ _ _ _ _ _ _ _) HN2.out⟩
theorem op_word (gc:Nat) (r:Rd) (w:World) (h:RdAt w gc r) (hl:r.s.length<=1000000) {c:UInt8} {l:LB_} (hs:skipB r.s=c::l) (hc:nletB c=true) (htrue:¬ (c::l).take (nameK (c::l))=trueW) (hfalse:¬ (c::l).take (nameK (c::l))=falseW) (hnil:¬ (c::l).take (nameK (c::l))=[110,105,108]):Calls Tryz.prog 98 #[.pointer (some ⟨gc,0,none⟩)] w (OpPost gc Ex.zero false (r.go (c::l)) w):=by
 obtain ⟨rs,d,b⟩:=r
 simp only at hs hl
 have hgc:=Blk.lt h;have hb0:Below w.heap.size w (w.alloc (.cells zX 50)):=Below.new _ _;have H0:=h_ (RdAt.keep h hb0);have HX0:=h_ (show Blk (w.alloc (.cells zX 50)) w.heap.size 50 zX from Blk.new _ _ _);have HB0:=h_ (Bar.of (gc:=gc) hb0);clear h;obtain ⟨W0,e0⟩:∃ z,z=w.alloc (.cells zX 50):=⟨_,rfl⟩;obtain ⟨n2,e2⟩:∃ z,z=w.heap.size:=⟨_,rfl⟩;rw [<-e0] at H0 HX0 HB0;rw [<-e2] at HX0
 have hn2g:n2≠gc:=by omega
 have E0:=h_ e0;have E2:=h_ e2;have HN2:=h_ (show w.heap.size<=n2 from Nat.le_of_eq e2.symm);clear e0 e2 hb0;unfold zX at *
 go_enter Tryz.func98,Tryz.ntmps98
 refine wp_seq_cut (fun K0 hK0=>?_)
 go_wp2_with fail
 refine hK0.out _ _ ?_
 rw [<-E0.out,<-E2.out];clear E0 hK0 K0;go_wp2_with fail
 refine (tskip gc ⟨rs,d,b⟩ _ H0.out).mono ?_
 rintro e w1 ⟨rfl,hrd,hbar⟩;rw [hs] at hrd;obtain ⟨s,hsl,hblk⟩:=hrd.open
 simp only [Rd.go] at hsl hblk
 have H1:=h_ hblk;have HX1:=h_ (hbar.blk HX0.out hn2g);have HB1:=h_ (HB0.out.trans hbar);have k0:=hblk.cell;have f0:=hblk.frozen;have l0:=hblk.lt;have k2:=HX1.out.cell;have f2:=HX1.out.frozen;have l2:=HX1.out.lt;clear hblk hbar hrd H0 HX0 HB0;obtain ⟨h0,hs0,hsz,hem⟩:=byte_head hsl
 have h0i:(0:Int) < s.size:=by omega
 have h256:=UInt8.toNat_lt s[0]
 have hcn:(97<=c.toNat/\c.toNat<=122)\/(65<=c.toNat/\c.toNat<=90)\/c.toNat=95:=by
  have h9:=hc;unfold nletB letterB at h9
  simp only [Bool.or_eq_true,decide_eq_true_eq] at h9
  rcases h9 with (h9 | h9) | h9
  ·exact .inl h9
  ·exact .inr (.inl h9)
  ·exact .inr (.inr (by rw [h9];rfl))
 have g34:((c.toNat:Int)==34)=false:=bf_ (by omega);have g45:((c.toNat:Int)==45)=false:=bf_ (by omega);have g46:((c.toNat:Int)==46)=false:=bf_ (by omega);have g36:((c.toNat:Int)==36)=false:=bf_ (by omega);have g40:((c.toNat:Int)==40)=false:=bf_ (by omega)
 have g48:(48:Int)<=c.toNat:=by omega
 have g57:¬ (c.toNat:Int)<=57:=by omega
 clear hcn
 have hl9:(c::l).length<=1000000:=by have h1:=skip_len rs;rw [hs] at h1;omega
 have HRD:=h_ (show RdAt w1 gc ⟨c::l,d,b⟩ from RdAt.of H1.out (show s=bs (c::l) from by rw [hsl]) rfl rfl);have CL:=h_ (tletterP c w1);rw [hc] at CL;clear hc hsz;have HSL:=h_ hsl;clear hsl;obtain ⟨nm,hnm⟩:∃ z,z=nameT (c::l):=⟨_,rfl⟩;have CN:=h_ (fun W (hW:RdAt W gc ⟨c::l,d,b⟩)=>show Calls Tryz.prog 79 #[.pointer (some ⟨gc,0,none⟩)] W (fun e w'=>e=.returned (.string nm)/\RdAt w' gc ⟨nameD (c::l),d,b⟩/\Bar W w' gc) from by rw [hnm];exact tname gc ⟨c::l,d,b⟩ W hW hl9)
 have hnl:nm.data.toList=(c::l).take (nameK (c::l)):=by rw [hnm];rfl
 have qtrue:(nm.toList==[116,114,117,101])=false:=by rw [toList_is,hnl];exact decide_eq_false htrue
 have qfalse:(nm.toList==[102,97,108,115,101])=false:=by rw [toList_is,hnl];exact decide_eq_false hfalse
 have qnil:(nm.toList==[110,105,108])=false:=by rw [toList_is,hnl];exact decide_eq_false hnil
 clear hnm hnl hl9 htrue hfalse hnil
 go_wp2_with (go_at_call 38;refine CL.out.mono ?_;rintro e w9 ⟨rfl,rfl⟩)
 refine (CN.out _ HRD.out).mono ?_
 rintro e w2 ⟨rfl,hrd2,hbar2⟩;have HX2:=h_ (hbar2.blk HX1.out hn2g);have HB2:=h_ (HB1.out.trans hbar2);have HR2:=h_ hrd2;have HK2:=h_ (show Blk w2 gc 112 #[.string (bs (nameD (c::l))),.int .i64 d,.int .i64 b] from hrd2);clear hrd2 hbar2;clear k0 f0 l0 k2 f2 l2;obtain ⟨sd,hsd⟩:∃ z,z=bs (nameD (c::l)):=⟨_,rfl⟩;rw [<-hsd] at HK2;clear hsd;have k0:=HK2.out.cell;have f0:=HK2.out.frozen;have l0:=HK2.out.lt;have k2:=HX2.out.cell;have f2:=HX2.out.frozen;have l2:=HX2.out.lt;go_wp2_with fail
 refine ret_cell2 (p:=2) (q:=3) (g:=n2) rfl rfl rfl (blk_set10 (w:=w2.setCell ⟨gc,0,none⟩ (.string s)) (HX2.out.far (p:=⟨gc,0,none⟩) hn2g _)) Tryz.underlying50 (by kernel_rfl) rfl ?_
 exact ⟨_,rfl,repO_zero,RdAt.bar (RdAt.of (r:=⟨c::l,d,b⟩) (HK2.out.s0 (.string s)) (show s=bs (c::l) from by rw [HSL.out]) rfl rfl) (bar_set10 _ _ _ _ _ _ _ _ _ _ _ _) (Ne.symm hn2g),Bar.join (HB2.out.trans (Bar.set gc 0 _)) (bar_set10 _ _ _ _ _ _ _ _ _ _ _ _) HN2.out⟩
theorem op_other (gc:Nat) (r:Rd) (w:World) (h:RdAt w gc r) (hl:r.s.length<=1000000) {c:UInt8} {l:LB_} (hs:skipB r.s=c::l) (h34:c≠34) (h45:c≠45) (hd:digitB c=false) (h46:c≠46) (h36:c≠36) (h40:c≠40) (hc:nletB c=false):Calls Tryz.prog 98 #[.pointer (some ⟨gc,0,none⟩)] w (OpPost gc Ex.zero false (r.go (c::l)) w):=by
 obtain ⟨rs,d,b⟩:=r
 simp only at hs hl
 have hgc:=Blk.lt h;have hb0:Below w.heap.size w (w.alloc (.cells zX 50)):=Below.new _ _;have H0:=h_ (RdAt.keep h hb0);have HX0:=h_ (show Blk (w.alloc (.cells zX 50)) w.heap.size 50 zX from Blk.new _ _ _);have HB0:=h_ (Bar.of (gc:=gc) hb0);clear h;obtain ⟨W0,e0⟩:∃ z,z=w.alloc (.cells zX 50):=⟨_,rfl⟩;obtain ⟨n2,e2⟩:∃ z,z=w.heap.size:=⟨_,rfl⟩;rw [<-e0] at H0 HX0 HB0;rw [<-e2] at HX0
 have hn2g:n2≠gc:=by omega
 have E0:=h_ e0;have E2:=h_ e2;have HN2:=h_ (show w.heap.size<=n2 from Nat.le_of_eq e2.symm);clear e0 e2 hb0;unfold zX at *
 go_enter Tryz.func98,Tryz.ntmps98
 refine wp_seq_cut (fun K0 hK0=>?_)
 go_wp2_with fail
 refine hK0.out _ _ ?_
 rw [<-E0.out,<-E2.out];clear E0 hK0 K0;go_wp2_with fail
 refine (tskip gc ⟨rs,d,b⟩ _ H0.out).mono ?_
 rintro e w1 ⟨rfl,hrd,hbar⟩;rw [hs] at hrd;obtain ⟨s,hsl,hblk⟩:=hrd.open
 simp only [Rd.go] at hsl hblk
 have H1:=h_ hblk;have HX1:=h_ (hbar.blk HX0.out hn2g);have HB1:=h_ (HB0.out.trans hbar);have k0:=hblk.cell;have f0:=hblk.frozen;have l0:=hblk.lt;have k2:=HX1.out.cell;have f2:=HX1.out.frozen;have l2:=HX1.out.lt;clear hblk hbar hrd H0 HX0 HB0;obtain ⟨h0,hs0,hsz,hem⟩:=byte_head hsl
 have h0i:(0:Int) < s.size:=by omega
 have h256:=UInt8.toNat_lt s[0];have g34:((c.toNat:Int)==34)=false:=bf_ (fun e=>h34 (UInt8.toNat_inj.1 (by have:(34:UInt8).toNat=34:=rfl;omega)));have g45:((c.toNat:Int)==45)=false:=bf_ (fun e=>h45 (UInt8.toNat_inj.1 (by have:(45:UInt8).toNat=45:=rfl;omega)));have g46:((c.toNat:Int)==46)=false:=bf_ (fun e=>h46 (UInt8.toNat_inj.1 (by have:(46:UInt8).toNat=46:=rfl;omega)));have g36:((c.toNat:Int)==36)=false:=bf_ (fun e=>h36 (UInt8.toNat_inj.1 (by have:(36:UInt8).toNat=36:=rfl;omega)));have g40:((c.toNat:Int)==40)=false:=bf_ (fun e=>h40 (UInt8.toNat_inj.1 (by have:(40:UInt8).toNat=40:=rfl;omega)))
 have hd9:¬ (48:Int)<=c.toNat\/((48:Int)<=c.toNat/\¬ (c.toNat:Int)<=57):=by
  have h9:=of_decide_eq_false hd
  omega
 have CL:=h_ (tletterP c w1);rw [hc] at CL;have HRD:=h_ (show RdAt w1 gc ⟨c::l,d,b⟩ from RdAt.of H1.out (show s=bs (c::l) from by rw [hsl]) rfl rfl);clear hc hsz hd h34 h45 h46 h36 h40;have HSL:=h_ hsl;clear hsl
 rcases hd9 with hd9 | ⟨hd8,hd9⟩
 ·go_wp2_with (go_at_call 38;refine CL.out.mono ?_;rintro e w9 ⟨rfl,rfl⟩)
  refine ret_cell2 (p:=2) (q:=3) (g:=n2) rfl rfl rfl (blk_set10 (w:=w1) HX1.out) Tryz.underlying50 (by kernel_rfl) rfl ?_
  exact ⟨_,rfl,repO_zero,RdAt.bar HRD.out (bar_set10 _ _ _ _ _ _ _ _ _ _ _ _) (Ne.symm hn2g),Bar.join HB1.out (bar_set10 _ _ _ _ _ _ _ _ _ _ _ _) HN2.out⟩
 ·go_wp2_with (go_at_call 38;refine CL.out.mono ?_;rintro e w9 ⟨rfl,rfl⟩)
  refine ret_cell2 (p:=2) (q:=3) (g:=n2) rfl rfl rfl (blk_set10 (w:=w1) HX1.out) Tryz.underlying50 (by kernel_rfl) rfl ?_
  exact ⟨_,rfl,repO_zero,RdAt.bar HRD.out (bar_set10 _ _ _ _ _ _ _ _ _ _ _ _) (Ne.symm hn2g),Bar.join HB1.out (bar_set10 _ _ _ _ _ _ _ _ _ _ _ _) HN2.out⟩
end Go.Proofs.YtnblmhfgmehnnaaGreatDoor
