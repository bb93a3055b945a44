/- Several texts as one. -/
import Derived.Test.YtnblmhfgmehnnaaGreatDoorPeMv
import Derived.Test.YtnblmhfgmehnnaaGreatDoorRows
import Derived.Test.YtnblmhfgmehnnaaGreatDoorPeAA
import Derived.ProofKit
import Derived.OpenShut
import Derived.SizedLaws
import Derived.ChangeArms
import Derived.ChangeMaps5
import Derived.Deep.RegionHeld3
import Derived.Deep.RegionWith
import Derived.Deep.DrawnRows
import Derived.Deep.DeepCutAuto
import Derived.Deep.RegionLaw
import Derived.Test.YtnblmhfgmehnnaaGreatDoorShv
import Derived.Maps.AppendAt
import Derived.OwnWalk
import Derived.Shelf.Spec.SlicesInsertGrow
set_option maxRecDepth 100000
namespace Go.Proofs.YtnblmhfgmehnnaaGreatDoor
open Go.ChangeShapes Go.WideShapes Go.ChangeAt Go.RowKit
theorem own:ownKnob Tryz.prog.godebug=none:=by kernel_rfl
theorem laidOut:laidOutB Tryz.prog=true:=by kernel_rfl
section
variable {H:Type} {enc:TypeId × Value->H} {P:Program}
theorem trodAll_below (hl:laidOutB P=true) {W W':World} (hb:Below W.heap.size W W'):∀ {ts:List TypeId} {vs:List Value} {ds:List (DataW H)} {ps:List MemPlace},
  (∀ t ∈ ts,P.readableRec t=true/\t < P.types.size)->(∀ x ∈ ps,x.block < W.heap.size)->DataW.TrodAll enc P W 0 (fun _=>true) true ts vs ds ps->
  DataW.TrodAll enc P W' 0 (fun b=>decide (b < W.heap.size)) true ts vs ds ps:=by
 intro ts
 induction ts with
 | nil=>
  intro vs ds ps _ _ h
  match vs,ds,h with
  | [],[],h=>exact h
 | cons t ts ih=>
  intro vs ds ps hr hlt h
  match vs,ds,h with
  | v::vs,d::ds,h=>
   obtain ⟨p,q,h1,h2,rfl⟩:=h
   exact ⟨p,q,Below.trod hl (hr t (by simp)).1 (hr t (by simp)).2 h1 hb (fun x hx=>hlt x (by simp [hx])),ih (fun t ht=>hr t (by simp [ht])) (fun x hx=>hlt x (by simp [hx])) h2,rfl⟩
theorem spot_none {w:World} {a:Addr} {v:Value} (h:w.cell? a=some v):a=⟨a.block,a.off,none⟩:=by
 obtain ⟨b,o,s⟩:=a
 cases s with
 | none=>rfl
 | some k=>
  unfold World.cell? at h
  split at h <;>simp at h
theorem add_none (b o i:Nat):(⟨b,o,none⟩:Addr).add i=⟨b,o+i,none⟩:=by unfold Addr.add;split <;>simp_all
theorem post_law {f:Func} {s:ChangeSpec} {apart:Bool} {W W':World} {args:Array Value} {ds gs:List (DataW H)} {before:List MemPlace} {tb:TypeId}
  (hl:laidOutB P=true) (hr:∀ t ∈ f.params.toList,P.readableRec t=true/\t < P.types.size) (hv:s.vars=[]) (hb:f.resultTypes=#[tb]) (ub:P.underlying tb=some .bool)
  (hfn:s.fn H (ds++gs)={results:=[.lit (.bool true)],args:=ds})
  (hW:DataW.Whole enc P f.params.toList s.vars apart W args.toList ds gs before) (hbl:Below W.heap.size W W'):
  s.post enc P f apart true false false W args (.bool true) W':=by
 have hlt:∀ p ∈ before,p.block < W.heap.size:=fun p hp=>hW.lt p hp
 have hW':=hW;obtain ⟨p,q,hA,hV,rfl,hfz,hnd⟩:=hW;rw [hv] at hV;obtain ⟨rfl,rfl⟩:=trodVars_none hV;have hA':=trodAll_below hl hbl hr (fun x hx=>hlt x (by simp [hx])) hA
 refine ⟨ds,[],p++[],[],p,[],hW',?_,?_,?_,World.keptBut_mono (fun x hx=>⟨by simpa using hx,?_⟩) (hbl.frame (· ∈ p)),fun h=>by cases h⟩
 ·rw [hfn,hb]
  exact trodAll_cons_mk (shut_bool ub _) trodAll_mk0
 ·rw [hfn]
  exact hA'
 ·rw [hfn,hv]
  exact hV
 ·exact Or.inr (Or.inl hx)
end
def fieldsOf (P:Program) (t:TypeId):Option (List (TypeId × Nat)):=(P.underlying t).bind fun d=>match d with | .struct fs=>some (fs.toList.map fun f=>(f.type,f.offset)) | _=>none
theorem val_fields:fieldsOf Tryz.prog 41=some [(3,0),(4,1),(2,2),(9,3),(38,4),(39,5)]:=by kernel_rfl
theorem pair_fields:fieldsOf Tryz.prog 118=some [(9,0),(41,1)]:=by kernel_rfl
theorem val_cells:Tryz.prog.cellsOf 41=6:=by kernel_rfl
theorem pair_cells:Tryz.prog.cellsOf 118=7:=by kernel_rfl
theorem one_cells:Tryz.prog.cellsOf 3=1/\Tryz.prog.cellsOf 4=1/\Tryz.prog.cellsOf 2=1/\Tryz.prog.cellsOf 9=1/\Tryz.prog.cellsOf 38=1/\Tryz.prog.cellsOf 39=1:=
 ⟨by kernel_rfl,by kernel_rfl,by kernel_rfl,by kernel_rfl,by kernel_rfl,by kernel_rfl⟩
theorem val_bytes:Tryz.prog.bytesOf 41=88:=by kernel_rfl
theorem pair_bytes:Tryz.prog.bytesOf 118=104:=by kernel_rfl
theorem und_vals:Tryz.prog.underlying 38=some (.slice 41):=by kernel_rfl
theorem und_prs:Tryz.prog.underlying 39=some (.slice 118):=by kernel_rfl
theorem und_i:Tryz.prog.underlying 3=some (.int .i64):=by kernel_rfl
theorem und_i64:Tryz.prog.underlying 2=some (.int .i64):=by kernel_rfl
theorem und_b:Tryz.prog.underlying 4=some .bool:=by kernel_rfl
theorem und_s:Tryz.prog.underlying 9=some .string:=by kernel_rfl
section
variable {H:Type} {enc:TypeId × Value->H} {W:World}
theorem trod_fields {P:Program} {t:TypeId} {l:List (TypeId × Nat)} {fuel:Nat} {cs:List Value} {x:DataW H × List MemPlace} (hf:fieldsOf P t=some l) (h:DataW.trod enc P W 0 (fun _=>true) true fuel t cs=some x):
  ∃ (xs:List (DataW H × List MemPlace)) (n:Nat),fuel=n+1/\x.1=.agg (xs.map (·.1))/\x.1.weights P t=DataW.weightsEach P (l.map (·.1)) (xs.map (·.1))/\cs.length=P.cellsOf t/\xs.length=l.length/\
   ∀ (i:Nat) (y:TypeId × Nat),l[i]? =some y->DataW.trod enc P W 0 (fun _=>true) true n y.1 ((cs.drop y.2).take (P.cellsOf y.1))=xs[i]? :=by
 unfold fieldsOf at hf
 cases hu:P.underlying t with
 | none=>rw [hu] at hf;cases hf
 | some d=>
  rw [hu] at hf
  cases d with
  | struct fs=>
   simp only [Option.bind_some,Option.some.injEq] at hf
   subst hf;obtain ⟨xs,n,h1,h2,h3,h4,h5⟩:=DataW.trod_struct hu h
   refine ⟨xs,n,h1,by rw [h2],?_,h3,by simpa using h4,fun i y hy=>?_⟩
   ·rw [h2]
    simp only [DataW.weights,hu,List.map_map]
    rfl
   ·rw [List.getElem?_map] at hy
    cases hfi:fs.toList[i]? with
    | none=>rw [hfi] at hy;cases hy
    | some f=>
     rw [hfi] at hy
     injection hy with hy
     subst hy
     exact h5 i f (by simpa using hfi)
  | _=>simp at hf
theorem all_append {l m:List Nat} {p:Nat->Bool} (h:(l++m).all p=true):l.all p=true/\m.all p=true:=by simpa using h
theorem weightsAll_mem {P:Program} {e:TypeId} {l:List (DataW H)} (h:(DataW.weightsAll P e l).all (·<=reachBytes)=true):∀ d ∈ l,(d.weights P e).all (·<=reachBytes)=true:=by
 induction l with
 | nil=>simp
 | cons d r ih=>
  rw [DataW.weightsAll] at h;obtain ⟨h1,h2⟩:=all_append h;intro x hx
  rcases List.mem_cons.1 hx with rfl | hx
  ·exact h1
  ·exact ih h2 x hx
theorem trod_row {P:Program} {t e:TypeId} {sz:Nat} {fuel:Nat} {cs:List Value} {x:DataW H × List MemPlace} (hu:P.underlying t=some (.slice e)) (hc:P.cellsOf e=sz) (hpos:0 < sz)
  (h:DataW.trod enc P W 0 (fun _=>true) true fuel t cs=some x) (hw:(x.1.weights P t).all (·<=reachBytes)=true):
  ∃ (a:OA_) (n c:Nat) (k:Nat),cs=[.slice a n c]/\k < fuel/\n<=c/\c<=maxLen/\n*P.bytesOf e<=reachBytes/\
   ∀ i,i < n->∃ b o es y,a=some ⟨b,o,none⟩/\es.length=sz/\cellsAt W b (o+i*sz) es/\DataW.trod enc P W 0 (fun _=>true) true k e es=some y/\(y.1.weights P e).all (·<=reachBytes)=true:=by
 have hf0:0 < fuel:=by
  cases fuel with
  | zero=>simp [DataW.trod] at h
  | succ n=>omega
 rcases DataW.trod_slice hu h with ⟨rfl,_⟩ | ⟨a,len,cap,elems,rest,n,rfl,rfl,rfl,hb,hl,hm,hlen,hel,hsp,hns⟩
 ·exact ⟨none,0,0,0,rfl,hf0,by omega,by unfold maxLen;omega,by omega,fun i hi=>by omega⟩
 ·simp only [DataW.weights,hu,List.all_cons,List.length_map,Bool.and_eq_true,decide_eq_true_eq] at hw
  obtain ⟨hw1,hw2⟩:=hw;have hwe:=weightsAll_mem (all_append hw2).1
  refine ⟨some a,len,cap,n,rfl,by omega,hl,hm,Nat.le_trans (Nat.mul_le_mul_right _ (by omega)) hw1,fun i hi=>?_⟩
  have hi2:=hel i hi
  have hie:i < elems.length:=by omega
  rw [List.getElem?_eq_getElem hie,Option.bind_eq_some_iff] at hi2;obtain ⟨es,he1,he2⟩:=hi2;rw [hc] at he1;obtain ⟨-,hes,hcell⟩:=World.cells?_some he1
  have ha:a=⟨a.block,a.off,none⟩:=by
   have hi0:=hel 0 (by omega);rw [List.getElem?_eq_getElem (show 0 < elems.length by omega),Option.bind_eq_some_iff] at hi0;obtain ⟨es0,he0, -⟩:=hi0;rw [hc] at he0;obtain ⟨-,hes0,hcell0⟩:=World.cells?_some he0;have h0:=hcell0 0 hpos;rw [List.getElem?_eq_getElem (by omega),Nat.zero_mul] at h0
   have:(a.add 0).add 0=a:=by simp [Addr.add]
   rw [this] at h0
   exact spot_none h0
  refine ⟨a.block,a.off,es,elems[i],by rw [<-ha],hes,fun j v hv=>?_,he2,hwe _ (List.mem_map_of_mem (List.getElem_mem hie))⟩
  have hj:j < sz:=by
   have:=(List.getElem?_eq_some_iff.1 hv).1
   omega
  have:=hcell j hj
  rw [ha,add_none,add_none,hv] at this
  exact this
theorem wf64 {n:Int} (h:(Lit.int .i64 n).wf=true):i64ok n:=by
 exact bounds_i64 h
theorem open_tree (fuel:Nat):∀ (cs:List Value) (x:DataW H × List MemPlace),DataW.trod enc Tryz.prog W 0 (fun _=>true) true fuel 41 cs=some x->(x.1.weights Tryz.prog 41).all (·<=reachBytes)=true->
  ∃ t,RepT W (fun _=>True) (.agg cs.toArray) t:=by
 induction fuel using Nat.strongRecOn with
 | _ fuel ih=>
 intro cs x h hw;obtain ⟨xs,n,rfl, -,hwe,hlen,hxl,hx⟩:=trod_fields val_fields h;rw [val_cells] at hlen;rw [hwe] at hw
 match cs,hlen with
 | [c0,c1,c2,c3,c4,c5],_=>
 match xs,hxl with
 | [y0,y1,y2,y3,y4,y5],_=>
 obtain ⟨q0,q1,q2,q3,q4,q5⟩:=one_cells;have h0:=hx 0 _ rfl;have h1:=hx 1 _ rfl;have h2:=hx 2 _ rfl;have h3:=hx 3 _ rfl;have h4:=hx 4 _ rfl;have h5:=hx 5 _ rfl
 simp only [q0,q1,q2,q3,q4,q5] at h0 h1 h2 h3 h4 h5
 obtain ⟨k,hk, -,hkw⟩:=DataW.trod_int und_i h0;obtain ⟨b,hb, -⟩:=DataW.trod_bool und_b h1;obtain ⟨m,hm, -,hmw⟩:=DataW.trod_int und_i64 h2;obtain ⟨s,hs,hy3, -⟩:=DataW.trod_string und_s h3
 simp only [List.map_cons,List.map_nil,DataW.weightsEach] at hw
 obtain ⟨-,hw⟩:=all_append hw;obtain ⟨-,hw⟩:=all_append hw;obtain ⟨-,hw⟩:=all_append hw;obtain ⟨hw3,hw⟩:=all_append hw;obtain ⟨hw4,hw⟩:=all_append hw;obtain ⟨hw5, -⟩:=all_append hw;rw [hy3] at hw3
 simp [DataW.weights,reachBytes] at hw3
 obtain ⟨la,ln,lc,k4,hl,hk4,hl1,hl2,hl3,hle⟩:=trod_row und_vals val_cells (by omega) h4 hw4;obtain ⟨ma,mn,mc,k5,hmm,hk5,hm1,hm2,hm3,hme⟩:=trod_row und_prs pair_cells (by omega) h5 hw5
 simp at hk hb hm hs hl hmm
 subst hk hb hm hs hl hmm;rw [val_bytes] at hl3;rw [pair_bytes] at hm3
 have hL:∀ i,∃ t,i < ln->∃ b o es,la=some ⟨b,o,none⟩/\cellsAt W b (o+i*6) es/\RepT W (fun _=>True) (.agg es.toArray) t:=fun i=>by
  by_cases hi:i < ln
  ·obtain ⟨b,o,es,y,e1,e2,e3,e4,e5⟩:=hle i hi
   obtain ⟨t,ht⟩:=ih k4 (by omega) es y e4 e5
   exact ⟨t,fun _=>⟨b,o,es,e1,e3,ht⟩⟩
  ·exact ⟨T.zero,fun h=>absurd h hi⟩
 have hM:∀ i,∃ (p:ByteArray × T),i < mn->∃ b o es,ma=some ⟨b,o,none⟩/\p.1.size<=140737488351232/\cellsAt W b (o+i*7) (.string p.1::es)/\RepT W (fun _=>True) (.agg es.toArray) p.2:=fun i=>by
  by_cases hi:i < mn
  ·obtain ⟨b,o,es,y,e1,e2,e3,e4,e5⟩:=hme i hi
   obtain ⟨zs,n2,hn2, -,hwe2,hlen2,hzl,hz⟩:=trod_fields pair_fields e4;rw [hwe2] at e5
   match zs,hzl with
   | [z0,z1],_=>
   match es,e2 with
   | e0::es,e2=>
   have g0:=hz 0 _ rfl;have g1:=hz 1 _ rfl
   simp only [q3,val_cells] at g0 g1
   obtain ⟨ks,hks,hz0, -⟩:=DataW.trod_string und_s g0
   simp only [List.map_cons,List.map_nil,DataW.weightsEach] at e5
   obtain ⟨e50,e5⟩:=all_append e5;obtain ⟨e51, -⟩:=all_append e5;rw [hz0] at e50
   simp [DataW.weights,reachBytes] at e50
   simp at hks
   subst hks
   have g1':DataW.trod enc Tryz.prog W 0 (fun _=>true) true n2 41 es=some z1:=by
    have:List.take 6 (List.drop 1 (Value.string ks::es))=es:=by
     rw [List.drop_succ_cons,List.drop_zero,List.take_of_length_le]
     simp at e2;omega
    rw [this] at g1
    simpa using g1
   obtain ⟨t,ht⟩:=ih n2 (by omega) es z1 g1' e51
   exact ⟨(ks,t),fun _=>⟨b,o,es,e1,of_decide_eq_true e50,e3,ht⟩⟩
  ·exact ⟨(⟨#[]⟩,T.zero),fun h=>absurd h hi⟩
 have hLc:=fun i=>Classical.choose_spec (hL i)
 have hMc:=fun i=>Classical.choose_spec (hM i)
 refine ⟨.mk k b m s ((List.range ln).map fun i=>Classical.choose (hL i)) ((List.range mn).map fun i=>Classical.choose (hM i)),?_⟩
 have:=RepT.of (w:=W) (S:=fun _=>True) (t:=.mk k b m s ((List.range ln).map fun i=>Classical.choose (hL i)) ((List.range mn).map fun i=>Classical.choose (hM i))) (la:=la) (lc:=lc) (ma:=ma) (mc:=mc)
  ⟨wf64 hkw,wf64 hmw,of_decide_eq_true hw3,(by simp only [T.list,List.length_map,List.length_range];unfold reachBytes at hl3;omega),(by simp only [T.map,List.length_map,List.length_range];unfold reachBytes at hm3;omega),(by simp only [T.list,List.length_map,List.length_range];exact hl1),(by simp only [T.map,List.length_map,List.length_range];exact hm1),hl2,hm2,fun i hi=>?_,fun i hi=>?_⟩
 ·simpa [T.kind,T.bool,T.int,T.str,T.list,T.map] using this
 ·have hi':i < ln:=by simpa [T.list] using hi
  obtain ⟨b,o,es,e1,e2,e3⟩:=hLc i hi'
  exact ⟨b,o,es,e1,trivial,e2,by simpa [T.list] using e3⟩
 ·have hi':i < mn:=by simpa [T.map] using hi
  obtain ⟨b,o,es,e1,e2,e3,e4⟩:=hMc i hi'
  exact ⟨b,o,es,e1,trivial,by simpa [T.map] using e2,by simpa [T.map] using e3,by simpa [T.map] using e4⟩
theorem und_ss:Tryz.prog.underlying 42=some (.slice 9):=by kernel_rfl
def RepS (w:World) (S:Nat->Prop) (a:OA_) (l:List ByteArray):Prop:=
 ∀ i (h:i < l.length),∃ b o,a=some ⟨b,o,none⟩/\S b/\b < w.heap.size/\w.cell? ⟨b,o+i,none⟩=some (.string l[i])/\l[i].size<=140737488351232
theorem each_weights {P:Program} {t:TypeId} {ts:List TypeId} {d:DataW H} {ds:List (DataW H)} (h:(DataW.weightsEach P (t::ts) (d::ds)).all (·<=reachBytes)=true):(d.weights P t).all (·<=reachBytes)=true/\(DataW.weightsEach P ts ds).all (·<=reachBytes)=true:=by
 rw [DataW.weightsEach] at h
 exact all_append h
theorem open_text {r:Reach} {b0:Nat} {v:Value} {d:DataW H} {p:List MemPlace} (hv:Value.okWide Tryz.prog W r b0 9 v) (h:DataW.Trod enc Tryz.prog W 0 (fun _=>true) true 9 v d p)
  (hw:(d.weights Tryz.prog 9).all (·<=reachBytes)=true):∃ s:ByteArray,v=.string s/\s.size<=140737488351232:=by
 obtain ⟨s,rfl,rfl, -, -⟩:=Go.ChangeMaps.open_string und_s hv h
 simp only [DataW.weights,List.all_cons,List.all_nil,Bool.and_true] at hw
 have:=of_decide_eq_true hw
 exact ⟨s,rfl,by simpa [reachBytes] using this⟩
end
end Go.Proofs.YtnblmhfgmehnnaaGreatDoor
namespace Go.Proofs.YtnblmhfgmehnnaaGreatDoor
open Go.RowKit
section
variable {w w':World} {A:OA_} {g ty sz n lo:Nat} {E E':Nat->List Value->Prop}
end
def set6 (w:World) (g o:Nat) (c0 c1 c2 c3 c4 c5:Value):World:=
 (((((w.setCell ⟨g,o,none⟩ c0).setCell ⟨g,o+1,none⟩ c1).setCell ⟨g,o+2,none⟩ c2).setCell ⟨g,o+3,none⟩ c3).setCell ⟨g,o+4,none⟩ c4).setCell ⟨g,o+5,none⟩ c5
section
variable {w:World} {g o:Nat} {c0 c1 c2 c3 c4 c5:Value}
theorem set6_below {B:Nat} {a:World} (h:Below B a w) (hg:B<=g):Below B a (set6 w g o c0 c1 c2 c3 c4 c5):=
 (((((h.setCell (p:=⟨g,o,none⟩) hg _).setCell (p:=⟨g,o+1,none⟩) hg _).setCell (p:=⟨g,o+2,none⟩) hg _).setCell (p:=⟨g,o+3,none⟩) hg _).setCell (p:=⟨g,o+4,none⟩) hg _).setCell (p:=⟨g,o+5,none⟩) hg _
end
end Go.Proofs.YtnblmhfgmehnnaaGreatDoor
namespace Go.Proofs.YtnblmhfgmehnnaaGreatDoor
open Go.RowKit
attribute [local go_sem ↓] Go.wp_at_zero Go.wp_at_succ
def zcells:Array Value:=#[.int .i64 0,.bool false,.int .i64 0,.string ⟨#[]⟩,.slice none 0 0,.slice none 0 0]
def NewPost (w:World) (t:T) (e:Ending) (w':World):Prop:=∃ v,e=.returned v/\RepT w' (fun b=>w.heap.size<=b) v t/\Below w.heap.size w w'
theorem ret_cell {fn:Func} {R:Ending->World->Prop} {a:Act} {w:World} {p:Tmp} {ty g t:Nat} {cs:Array Value} {fs:Array Field} (h:fn.results=#[.cell p ty]) (hp:a.tmps.getD p undef=.pointer (some ⟨g,0,none⟩)) (hb:Blk w g t cs)
  (hu:Tryz.prog.underlying ty=some (.struct fs)) (hi:(Tryz.prog.info? ty).map (·.size)=some cs.size) (hdf:a.defers=[]) (hR:R (.returned (.agg cs)) w):bodyPost Tryz.prog fn R .ret a w:=
 bodyPost_ret (results_cell_row h _ w g t cs (0,0) (.struct fs) hp hb hu rfl hi) hdf hR
theorem val_size:(Tryz.prog.info? 41).map (·.size)=some 6:=by kernel_rfl
end Go.Proofs.YtnblmhfgmehnnaaGreatDoor
namespace Go.Proofs.YtnblmhfgmehnnaaGreatDoor
open Go.RowKit Go.Lib
theorem ownsRow_of {w w':World} {B sz n e:Nat} {v:Value} {xs:List Value} (h:w.ownsRow B e sz v n xs) (hw:∀ g,v.ownBlock=some g->w'.heap[g]? =w.heap[g]?):w'.ownsRow B e sz v n xs:=by
 obtain ⟨hl,hc⟩:=h
 refine ⟨hl,?_⟩
 rcases hc with h | ⟨g,cap,cur,rfl,h1,h2,h3⟩
 ·exact Or.inl h
 ·exact Or.inr ⟨g,cap,cur,rfl,h1,(hw g rfl).trans h2,h3⟩
structure Elt (α:Type) where
 ty:TypeId
 slt:TypeId
 sz:Nat
 bytes:Nat
 zero:Value
 R:World->(Nat->Prop)->List Value->α->Prop
 len:∀ {w S cs x},R w S cs x->cs.length=sz
 one:∀ {w S cs x},R w S cs x->∀ u ∈ cs,u.oneCell'=true
 mono:∀ {w w':World} {S S':Nat->Prop} {cs x},R w S cs x->(∀ b,S b->b < w.heap.size->S' b)->(∀ b o,S b->b < w.heap.size->w'.cell? ⟨b,o,none⟩=w.cell? ⟨b,o,none⟩)->R w' S' cs x
 pos:0 < sz
 hund:Tryz.prog.underlying slt=some (.slice ty)
 hinfo:(Tryz.prog.info? ty).map (fun i=>(i.zero,i.size,i.bytes))=some (some zero,sz,bytes)
 hzero:zero.cells.size=sz
section
variable {α:Type} (E:Elt α)
def RepE (w:World) (S:Nat->Prop) (a:OA_) (l:List α):Prop:=
 ∀ i (h:i < l.length),∃ b o cs,a=some ⟨b,o,none⟩/\S b/\cellsAt w b (o+i*E.sz) cs/\E.R w S cs l[i]
def OwnE (w:World) (B:Nat) (S:Nat->Prop) (A:OA_) (c:Nat) (l:List α):Prop:=
 ∃ xs,w.ownsRow B E.ty E.sz (.slice A l.length c) l.length xs/\(∀ u ∈ xs,u.oneCell'=true)/\
  ∀ i (hi:i < l.length),E.R w (fun b=>S b/\Value.ownBlock (.slice A l.length c)≠some b) ((xs.drop (i*E.sz)).take E.sz) l[i]
end
section
variable {α:Type} {E:Elt α} {w w':World} {S S':Nat->Prop} {a A:OA_} {B c:Nat} {l:List α}
theorem Elt.weak {cs:List Value} {x:α} (h:E.R w S cs x) (hS:∀ b,S b->b < w.heap.size->S' b):E.R w S' cs x:=E.mono h hS fun _ _ _ _=>rfl
theorem RepE.mono (h:RepE E w S a l) (hS:∀ b,S b->b < w.heap.size->S' b) (hw:∀ b o,S b->b < w.heap.size->w'.cell? ⟨b,o,none⟩=w.cell? ⟨b,o,none⟩):RepE E w' S' a l:=by
 intro i hi;obtain ⟨b,o,cs,e,hb,hc,hr⟩:=h i hi
 have hlt:b < w.heap.size:=by
  have hl:=E.len hr;have hp:=E.pos
  match cs,hl with
  | c::cs,_=>exact hc.lt
  | [],hl=>simp at hl;omega
 exact ⟨b,o,cs,e,hS b hb hlt,hc.keep fun i=>hw _ _ hb hlt,E.mono hr hS hw⟩
theorem RepE.weak (h:RepE E w S a l) (hS:∀ b,S b->b < w.heap.size->S' b):RepE E w S' a l:=h.mono hS fun _ _ _ _=>rfl
theorem OwnE.nil:OwnE E w B S none 0 []:=⟨[],⟨by simp,Or.inl ⟨rfl,rfl⟩⟩,by simp,fun i hi=>by simp at hi⟩
theorem OwnE.own (h:OwnE E w B S A c l):∀ g,Value.ownBlock (.slice A l.length c)=some g->B<=g/\g < w.heap.size:=by
 obtain ⟨xs,⟨_,hc⟩,_⟩:=h;intro g hg
 rcases hc with ⟨e,_⟩ | ⟨g',cap,cur,e,h1,h2,_⟩
 ·rw [e] at hg;cases hg
 ·rw [e] at hg
  simp [Value.ownBlock] at hg
  subst hg
  exact ⟨h1,Blk.lt h2⟩
theorem OwnE.mono (h:OwnE E w B S A c l) (hg:∀ g,Value.ownBlock (.slice A l.length c)=some g->w'.heap[g]? =w.heap[g]?) (hS:∀ b,S b->b < w.heap.size->Value.ownBlock (.slice A l.length c)≠some b->S' b)
  (hw:∀ b o,S b->b < w.heap.size->Value.ownBlock (.slice A l.length c)≠some b->w'.cell? ⟨b,o,none⟩=w.cell? ⟨b,o,none⟩):OwnE E w' B S' A c l:=by
 obtain ⟨xs,h1,h2,h3⟩:=h
 exact ⟨xs,ownsRow_of h1 hg,h2,fun i hi=>E.mono (h3 i hi) (fun b hb hlt=>⟨hS b hb.1 hlt hb.2,hb.2⟩) (fun b o hb hlt=>hw b o hb.1 hlt hb.2)⟩
theorem OwnE.keep (h:OwnE E w B S A c l) (hb:Below w.heap.size w w'):OwnE E w' B S A c l:=
 h.mono (fun g hg=>hb.block g (h.own g hg).2) (fun _ h _ _=>h) (fun _ _ _ hlt _=>hb.cell hlt)
theorem OwnE.weak (h:OwnE E w B S A c l) (hS:∀ b,S b->b < w.heap.size->S' b):OwnE E w B S' A c l:=
 h.mono (fun _ _=>rfl) (fun b hb hlt _=>hS b hb hlt) (fun _ _ _ _ _=>rfl)
theorem OwnE.far (h:OwnE E w B S A c l) {p:Addr} (u:Value) (hp:∀ g,Value.ownBlock (.slice A l.length c)=some g->g≠p.block) (hS:¬ S p.block):OwnE E (w.setCell p u) B S A c l:=
 h.mono (fun g hg=>Below.heap_setCell _ _ _ g (hp g hg)) (fun _ h _ _=>h) (fun b o hb _ _=>World.cell?_of_block (a:=⟨b,o,none⟩) (Below.heap_setCell _ _ _ b (fun e=>hS (e ▸ hb))))
theorem OwnE.len (h:OwnE E w B S A c l):l.length<=c/\c<=maxLen:=by
 obtain ⟨xs,⟨_,hc⟩,_⟩:=h
 rcases hc with ⟨e,h0⟩ | ⟨g,cap,cur,e,h1,h2,h3,h4,_⟩
 ·simp at e
  rw [e.2.2,h0]
  exact ⟨Nat.le_refl _,by unfold maxLen;omega⟩
 ·simp at e
  rw [e.2]
  exact ⟨h3,h4⟩
theorem OwnE.rep (h:OwnE E w B S A c l):RepE E w (fun b=>S b\/B<=b) A l:=by
 obtain ⟨xs,⟨hl,hc⟩,_,h3⟩:=h;intro i hi;have hr:=h3 i hi;have hlr:=E.len hr
 rcases hc with ⟨e',h0⟩ | ⟨g,cap,cur,e',h1,h2,hn,hm,hs,ht⟩
 ·omega
 ·simp at e'
  obtain ⟨rfl,rfl⟩:=e'
  refine ⟨g,0,_,rfl,.inr h1,fun j u hu=>?_,E.weak hr (fun b hb _=> .inl hb.1)⟩
  have hj:j < E.sz:=by
   have:=(List.getElem?_eq_some_iff.1 hu).1
   omega
  have hb:Blk w g E.ty cur:=h2;rw [hb.cell,Nat.zero_add];rw [List.getElem?_take_of_lt hj,List.getElem?_drop,<-ht,List.getElem?_take_of_lt] at hu
  ·simpa using hu
  ·have:(i+1)*E.sz<=l.length*E.sz:=Nat.mul_le_mul_right _ hi
   rw [Nat.add_mul,Nat.one_mul] at this
   omega
theorem drop_take_append {xs ys:List Value} {n sz i:Nat} (hx:xs.length=n*sz):(i < n->(((xs++ys).drop (i*sz)).take sz=(xs.drop (i*sz)).take sz))/\(n<=i->((xs++ys).drop (i*sz)).take sz=(ys.drop ((i - n)*sz)).take sz):=by
 constructor
 ·intro h
  have:(i+1)*sz<=n*sz:=Nat.mul_le_mul_right _ h
  rw [Nat.add_mul,Nat.one_mul] at this;rw [List.drop_append_of_le_length (by omega),List.take_append_of_le_length (by rw [List.length_drop];omega)]
 ·intro h
  have:n*sz<=i*sz:=Nat.mul_le_mul_right _ h
  rw [List.drop_append,List.drop_of_length_le (by omega),List.nil_append,hx,<-Nat.sub_mul]
theorem own_append {l2:List α} {es:List Value} {ad:Addr} {cc ty t:Nat} (ht:t=E.slt) (h:OwnE E w B S A c l) (hbig:(l.length+l2.length)*E.bytes<=140737488355328) (hmax:l.length+l2.length<=maxLen) (hB:B<=w.heap.size)
  (hlen:es.length=l2.length*E.sz) (hes:∀ j u,es[j]? =some u->w.cell? (ad.add j)=some u)
  (hx:∀ i (hi:i < l2.length),E.R w (fun b=>S b/\Value.ownBlock (.slice A l.length c)≠some b) ((es.drop (i*E.sz)).take E.sz) l2[i]):
  ∃ A' c' w',(Builtin.append_ #[t,t] ty #[.slice A l.length c,.slice (some ad) l2.length cc]).run Tryz.prog w=.ok (.slice A' (l++l2).length c') w'/\OwnE E w' B S A' c' (l++l2)/\w.grownBy w' (Value.ownBlock (.slice A l.length c)):=by
 subst ht;obtain ⟨i0,hi0,hz0,hz1,hz2⟩:=info_parts E.hinfo;obtain ⟨xs,h1,h2,h3⟩:=h
 have hone:∀ u ∈ es,u.oneCell'=true:=by
  intro u hu;obtain ⟨j,hj,rfl⟩:=List.getElem_of_mem hu;have hp:=E.pos
  have hq:j / E.sz < l2.length:=by rw [Nat.div_lt_iff_lt_mul hp];omega
  have:=E.one (hx (j / E.sz) hq) es[j] (by
   rw [List.mem_iff_getElem?]
   refine ⟨j % E.sz,?_⟩
   rw [List.getElem?_take_of_lt (Nat.mod_lt _ hp),List.getElem?_drop,Nat.div_add_mod' j E.sz,List.getElem?_eq_getElem hj])
  exact this
 obtain ⟨v',w',hr,hown,hgr,hnl,hat⟩:=run_append_own_at (P:=Tryz.prog) w B E.slt ty E.ty i0 E.zero E.sz E.bytes E.hund hi0 hz0 hz1 hz2 E.hzero E.pos (.slice A l.length c) l.length xs h1 ad l2.length cc es hlen hes hone hmax hbig hB;have hx1:=h1.1
 obtain ⟨A',c',rfl⟩:∃ A' c',v'=.slice A' (l++l2).length c':=by
  rcases hown.2 with ⟨e,h0⟩ | ⟨g',cap',cur',e,_⟩
  ·exact ⟨none,0,by rw [e,List.length_append,h0]⟩
  ·exact ⟨_,_,by rw [e,List.length_append]⟩
 have hS:∀ b,S b/\Value.ownBlock (.slice A l.length c)≠some b->b < w.heap.size->S b/\Value.ownBlock (.slice A' (l++l2).length c')≠some b:=fun b hb hlt=>by
  refine ⟨hb.1,fun e=>?_⟩
  rcases hat with h | h
  ·exact hb.2 (h.symm.trans e)
  ·rw [h] at e
   injection e with e
   omega
 have hcl:∀ b o,S b/\Value.ownBlock (.slice A l.length c)≠some b->b < w.heap.size->w'.cell? ⟨b,o,none⟩=w.cell? ⟨b,o,none⟩:=fun b o hb hlt=>
  World.cell?_of_block (hgr.block b hlt (fun e=>hb.2 e.symm))
 refine ⟨A',c',w',hr,⟨xs++es,by rw [<-List.length_append] at hown;exact hown,fun u hu=>?_,fun i hi=>?_⟩,hgr⟩
 ·rcases List.mem_append.1 hu with h | h
  ·exact h2 u h
  ·exact hone u h
 ·have hd:=drop_take_append (ys:=es) (i:=i) hx1
  by_cases h:i < l.length
  ·rw [hd.1 h,List.getElem_append_left h]
   exact E.mono (h3 i h) hS hcl
  ·rw [hd.2 (by omega),List.getElem_append_right (by omega)]
   exact E.mono (hx (i - l.length) (by rw [List.length_append] at hi;omega)) hS hcl
end
theorem step_append_run {P:Program} {ops:Array Oper} {o:Oper} {a:Act} {w:World} {K:Act->World->Prop} {Q:Exit->Act->World->Prop} {F:Prop}
  (hg:o.guard=none) (s x:Operand) (t:TypeId) (hop:o.op=Op.call {callee:=Callee.builtin Builtin.append,args:=#[s,x],argTypes:=#[t,t]})
  {v xv v':Value} {w':World} (hrun:(Builtin.append_ #[t,t] o.type #[v,xv]).run P w=.ok v' w') (hs:a.eval s=v) (hx:a.eval x=xv) (hK:K (a.put o.dst v') w'):
  if Region.wanted o (yielded ops a.tmps)=true then Oper.wp P o a w K Q else F:=by
 have hw:Region.wanted o (yielded ops a.tmps)=true:=by simp [Region.wanted,hg]
 rw [if_pos hw];unfold Oper.wp
 simp only [execOp,hop,resolve,invoke,builtin,Sem.run_bind,Sem.run_pure,Result.andThen_ok,List.map_toArray,List.map_cons,List.map_nil,hs,hx,hrun]
 exact hK
theorem wpList_append_run {P:Program} {ops:Array Oper} {rest:List Oper} {o:Oper} {a:Act} {w:World} {Q:Exit->Act->World->Prop}
  (hg:o.guard=none) (s x:Operand) (t:TypeId) (hop:o.op=Op.call {callee:=Callee.builtin Builtin.append,args:=#[s,x],argTypes:=#[t,t]})
  {v xv v':Value} {w':World} (hrun:(Builtin.append_ #[t,t] o.type #[v,xv]).run P w=.ok v' w') (hs:a.eval s=v) (hx:a.eval x=xv) (hK:wpList P ops Q rest (a.put o.dst v') w'):
  wpList P ops Q (o::rest) a w:=by
 refine wpList_plain hg fun K hk=>?_
 unfold Oper.wp
 simp only [execOp,hop,resolve,invoke,builtin,Sem.run_bind,Sem.run_pure,Result.andThen_ok,List.map_toArray,List.map_cons,List.map_nil,hs,hx,hrun]
 exact hk _ _ hK
section
variable {w:World} {S:Nat->Prop} {a:OA_}
end
theorem text_info:(Tryz.prog.info? 9).map (fun i=>(i.zero,i.size,i.bytes))=some (some (.string ⟨#[]⟩),1,16):=by kernel_rfl
def eltS:Elt ByteArray where
 ty:=9
 slt:=42
 sz:=1
 bytes:=16
 zero:=.string ⟨#[]⟩
 R _ _ cs s:=cs=[.string s]/\s.size<=140737488351232
 len h:=by rw [h.1];rfl
 one h:=by
  intro u hu;rw [h.1,List.mem_singleton] at hu;rw [hu];rfl
 mono h _ _:=h
 pos:=by decide
 hund:=und_ss
 hinfo:=text_info
 hzero:=rfl
theorem RepS.mono {w w':World} {S S':Nat->Prop} {a:OA_} {l:List ByteArray} (h:RepS w S a l) (hS:∀ b,S b->b < w.heap.size->S' b) (hw:∀ b o,S b->b < w.heap.size->w'.cell? ⟨b,o,none⟩=w.cell? ⟨b,o,none⟩):RepS w' S' a l:=fun i hi=>by
 obtain ⟨b,o,e,hs,hlt,hc,hz⟩:=h i hi;have hc2:=(hw b (o+i) hs hlt).trans hc
 exact ⟨b,o,e,hS b hs hlt,block_lt_of_cell (a:=⟨b,o+i,none⟩) hc2,hc2,hz⟩
theorem repS_of {w:World} {S:Nat->Prop} {a:OA_} {l:List ByteArray} (h:RepE eltS w S a l):RepS w S a l:=fun i hi=>by
 obtain ⟨b,o,cs,e,hS,hc,hr⟩:=h i hi;have h0:=hc 0 (.string l[i]) (by rw [hr.1];rfl);rw [show o+i*eltS.sz+0=o+i by show o+i*1+0=o+i;omega] at h0
 exact ⟨b,o,e,hS,block_lt_of_cell (a:=⟨b,o+i,none⟩) h0,h0,hr.2⟩
def Room (n c b:Nat):Prop:=n<=c/\c<=maxLen/\n*b<=140737488355328
inductive RepX (w:World) (S:Nat->Prop):List Value->Ex->Prop
 | mk (k:Int) (v:T) (nm:ByteArray) (st:List ByteArray) (ar:List Ex) (la:OA_) (lc:Nat) (ma:OA_) (mc:Nat) (sa:OA_) (sc:Nat) (aa:OA_) (ac:Nat) (C:Nat->List Value)
   (hk:i64ok k) (hv:RepT w S (.agg #[.int .i64 v.kind,.bool v.bool,.int .i64 v.int,.string v.str,.slice la v.list.length lc,.slice ma v.map.length mc]) v) (hn:nm.size<=140737488351232) (hs:RepS w S sa st) (hsr:Room st.length sc 16) (har:Room ar.length ac 160)
   (ha:∀ i,i < ar.length->∃ b o,aa=some ⟨b,o,none⟩/\S b/\cellsAt w b (o+i*10) (C i))
   (hr:∀ i (h:i < ar.length),RepX w S (C i) ar[i]):
   RepX w S [.int .i64 k,.int .i64 v.kind,.bool v.bool,.int .i64 v.int,.string v.str,.slice la v.list.length lc,.slice ma v.map.length mc,.string nm,.slice sa st.length sc,.slice aa ar.length ac] (.mk k v nm st ar)
def RepXs (w:World) (S:Nat->Prop) (a:OA_) (l:List Ex):Prop:=
 ∀ i (h:i < l.length),∃ b o cs,a=some ⟨b,o,none⟩/\S b/\cellsAt w b (o+i*10) cs/\RepX w S cs l[i]
structure PartsX (w:World) (S:Nat->Prop) (la:OA_) (lc:Nat) (ma:OA_) (mc:Nat) (sa:OA_) (sc:Nat) (aa:OA_) (ac:Nat) (x:Ex):Prop where
 kind:i64ok x.kind
 val:RepT w S (.agg #[.int .i64 x.val.kind,.bool x.val.bool,.int .i64 x.val.int,.string x.val.str,.slice la x.val.list.length lc,.slice ma x.val.map.length mc]) x.val
 name:x.name.size<=140737488351232
 steps:RepS w S sa x.steps
 sroom:Room x.steps.length sc 16
 aroom:Room x.args.length ac 160
 args:RepXs w S aa x.args
section
variable {w w':World} {S S':Nat->Prop} {cs:List Value} {x:Ex}
theorem RepX.inv (h:RepX w S cs x):∃ la lc ma mc sa sc aa ac,cs=[.int .i64 x.kind,.int .i64 x.val.kind,.bool x.val.bool,.int .i64 x.val.int,.string x.val.str,.slice la x.val.list.length lc,.slice ma x.val.map.length mc,.string x.name,.slice sa x.steps.length sc,.slice aa x.args.length ac]/\PartsX w S la lc ma mc sa sc aa ac x:=by
 cases h with
 | mk k v nm st ar la lc ma mc sa sc aa ac C hk hv hn hs hsr har ha hr=>
  exact ⟨la,lc,ma,mc,sa,sc,aa,ac,rfl,hk,hv,hn,hs,hsr,har,fun i hi=>by
   obtain ⟨b,o,e,hb,hc⟩:=ha i hi
   exact ⟨b,o,C i,e,hb,hc,hr i hi⟩⟩
theorem RepX.of {la:OA_} {lc:Nat} {ma:OA_} {mc:Nat} {sa:OA_} {sc:Nat} {aa:OA_} {ac:Nat} (h:PartsX w S la lc ma mc sa sc aa ac x):RepX w S [.int .i64 x.kind,.int .i64 x.val.kind,.bool x.val.bool,.int .i64 x.val.int,.string x.val.str,.slice la x.val.list.length lc,.slice ma x.val.map.length mc,.string x.name,.slice sa x.steps.length sc,.slice aa x.args.length ac] x:=by
 obtain ⟨hk,hv,hn,hs,hsr,har,hX⟩:=h
 cases x with
 | mk k v nm st ar=>
  have hX':∀ i,∃ cs,∀ h:i < ar.length,∃ b o,aa=some ⟨b,o,none⟩/\S b/\cellsAt w b (o+i*10) cs/\RepX w S cs ar[i]:=by
   intro i
   by_cases h:i < ar.length
   ·obtain ⟨b,o,cs,r⟩:=hX i h
    exact ⟨cs,fun _=>⟨b,o,r⟩⟩
   ·exact ⟨[],fun h'=>absurd h' h⟩
  refine .mk k v nm st ar la lc ma mc sa sc aa ac (fun i=>Classical.choose (hX' i)) hk hv hn hs hsr har (fun i h=>?_) (fun i h=>?_)
  ·obtain ⟨b,o,e,hb,hc,_⟩:=Classical.choose_spec (hX' i) h
   exact ⟨b,o,e,hb,hc⟩
  ·obtain ⟨_,_,_,_,_,hr⟩:=Classical.choose_spec (hX' i) h
   exact hr
theorem RepX.len (h:RepX w S cs x):cs.length=10:=by obtain ⟨_,_,_,_,_,_,_,_,rfl,_⟩:=h.inv;rfl
theorem RepX.one (h:RepX w S cs x):∀ u ∈ cs,u.oneCell'=true:=by
 obtain ⟨_,_,_,_,_,_,_,_,rfl,_⟩:=h.inv;intro u hu
 simp only [List.mem_cons,List.not_mem_nil,or_false] at hu
 rcases hu with rfl | rfl | rfl | rfl | rfl | rfl | rfl | rfl | rfl | rfl <;>rfl
theorem RepX.mono (h:RepX w S cs x) (hS:∀ b,S b->b < w.heap.size->S' b) (hw:∀ b o,S b->b < w.heap.size->w'.cell? ⟨b,o,none⟩=w.cell? ⟨b,o,none⟩):RepX w' S' cs x:=by
 induction h with
 | mk k v nm st ar la lc ma mc sa sc aa ac C hk hv hn hs hsr har ha hr ih=>
  refine .mk k v nm st ar la lc ma mc sa sc aa ac C hk (hv.mono hS hw) hn (hs.mono hS hw) hsr har (fun i hi=>?_) ih
  obtain ⟨b,o,e,hb,hc⟩:=ha i hi;have hl:=(hr i hi).len
  have hlt:b < w.heap.size:=by
   generalize C i=cs at hc hl
   cases cs with
   | nil=>simp at hl
   | cons c cs=>exact hc.lt
  exact ⟨b,o,e,hS b hb hlt,hc.keep fun i=>hw _ _ hb hlt⟩
theorem RepX.keep (h:RepX w S cs x) (hb:Below w.heap.size w w'):RepX w' S cs x:=h.mono (fun _ h _=>h) fun _ _ _ hlt=>hb.cell hlt
theorem RepX.weak (h:RepX w S cs x) (hS:∀ b,S b->b < w.heap.size->S' b):RepX w S' cs x:=h.mono hS fun _ _ _ _=>rfl
theorem RepXs.mono {a:OA_} {l:List Ex} (h:RepXs w S a l) (hS:∀ b,S b->b < w.heap.size->S' b) (hw:∀ b o,S b->b < w.heap.size->w'.cell? ⟨b,o,none⟩=w.cell? ⟨b,o,none⟩):RepXs w' S' a l:=by
 intro i hi;obtain ⟨b,o,cs,e,hb,hc,hr⟩:=h i hi;have hl:=hr.len
 have hlt:b < w.heap.size:=by
  cases cs with
  | nil=>simp at hl
  | cons c cs=>exact hc.lt
 exact ⟨b,o,cs,e,hS b hb hlt,hc.keep fun i=>hw _ _ hb hlt,hr.mono hS hw⟩
theorem RepXs.keep {a:OA_} {l:List Ex} (h:RepXs w S a l) (hb:Below w.heap.size w w'):RepXs w' S a l:=h.mono (fun _ h _=>h) fun _ _ _ hlt=>hb.cell hlt
theorem RepXs.nil {a:OA_}:RepXs w S a []:=fun _ hi=>absurd hi (Nat.not_lt_zero _)
theorem RepS.nil' {a:OA_}:RepS w S a []:=fun _ hi=>absurd hi (Nat.not_lt_zero _)
theorem Room.nil (b:Nat):Room 0 0 b:=⟨Nat.le_refl _,Nat.zero_le _,by omega⟩
end
def eltXof (ty slt:TypeId) (hund:Tryz.prog.underlying slt=some (.slice ty)) (hinfo:(Tryz.prog.info? ty).map (fun i=>(i.zero,i.size,i.bytes))=some (some (.agg #[.int .i64 0,.int .i64 0,.bool false,.int .i64 0,.string ⟨#[]⟩,.slice none 0 0,.slice none 0 0,.string ⟨#[]⟩,.slice none 0 0,.slice none 0 0]),10,160)):Elt Ex where
 ty:=ty
 slt:=slt
 sz:=10
 bytes:=160
 zero:=.agg #[.int .i64 0,.int .i64 0,.bool false,.int .i64 0,.string ⟨#[]⟩,.slice none 0 0,.slice none 0 0,.string ⟨#[]⟩,.slice none 0 0,.slice none 0 0]
 R:=RepX
 len h:=h.len
 one h:=h.one
 mono h hS hw:=h.mono hS hw
 pos:=by decide
 hund:=hund
 hinfo:=hinfo
 hzero:=rfl
def eltX:Elt Ex:=eltXof 50 48 Tryz.underlying48 (by kernel_rfl)
def eltXR:Elt Ex:=eltXof 45 43 Tryz.underlying43 (by kernel_rfl)
inductive RepN (w:World) (S:Nat->Prop):List Value->Nd->Prop
 | mk (k:Int) (t:ByteArray) (x:Ex) (ky nm:ByteArray) (bo el:List Nd) (la:OA_) (lc:Nat) (ma:OA_) (mc:Nat) (sa:OA_) (sc:Nat) (aa:OA_) (ac:Nat) (ba:OA_) (bc:Nat) (ea:OA_) (ec:Nat) (C D:Nat->List Value)
   (hk:i64ok k) (ht:t.size<=140737488351232) (hx:RepX w S [.int .i64 x.kind,.int .i64 x.val.kind,.bool x.val.bool,.int .i64 x.val.int,.string x.val.str,.slice la x.val.list.length lc,.slice ma x.val.map.length mc,.string x.name,.slice sa x.steps.length sc,.slice aa x.args.length ac] x) (hky:ky.size<=140737488351232) (hn:nm.size<=140737488351232) (hbr:Room bo.length bc 264) (her:Room el.length ec 264)
   (hb:∀ i,i < bo.length->∃ b o,ba=some ⟨b,o,none⟩/\S b/\cellsAt w b (o+i*16) (C i))
   (hc:∀ i (h:i < bo.length),RepN w S (C i) bo[i])
   (he:∀ i,i < el.length->∃ b o,ea=some ⟨b,o,none⟩/\S b/\cellsAt w b (o+i*16) (D i))
   (hd:∀ i (h:i < el.length),RepN w S (D i) el[i]):
   RepN w S [.int .i64 k,.string t,.int .i64 x.kind,.int .i64 x.val.kind,.bool x.val.bool,.int .i64 x.val.int,.string x.val.str,.slice la x.val.list.length lc,.slice ma x.val.map.length mc,.string x.name,.slice sa x.steps.length sc,.slice aa x.args.length ac,.string ky,.string nm,.slice ba bo.length bc,.slice ea el.length ec] (.mk k t x ky nm bo el)
def RepNs (w:World) (S:Nat->Prop) (a:OA_) (l:List Nd):Prop:=
 ∀ i (h:i < l.length),∃ b o cs,a=some ⟨b,o,none⟩/\S b/\cellsAt w b (o+i*16) cs/\RepN w S cs l[i]
structure PartsN (w:World) (S:Nat->Prop) (la:OA_) (lc:Nat) (ma:OA_) (mc:Nat) (sa:OA_) (sc:Nat) (aa:OA_) (ac:Nat) (ba:OA_) (bc:Nat) (ea:OA_) (ec:Nat) (n:Nd):Prop where
 kind:i64ok n.kind
 text:n.text.size<=140737488351232
 x:RepX w S [.int .i64 n.x.kind,.int .i64 n.x.val.kind,.bool n.x.val.bool,.int .i64 n.x.val.int,.string n.x.val.str,.slice la n.x.val.list.length lc,.slice ma n.x.val.map.length mc,.string n.x.name,.slice sa n.x.steps.length sc,.slice aa n.x.args.length ac] n.x
 key:n.key.size<=140737488351232
 name:n.name.size<=140737488351232
 broom:Room n.body.length bc 264
 eroom:Room n.els.length ec 264
 body:RepNs w S ba n.body
 els:RepNs w S ea n.els
section
variable {w w':World} {S S':Nat->Prop} {cs:List Value} {n:Nd}
theorem RepN.inv (h:RepN w S cs n):∃ la lc ma mc sa sc aa ac ba bc ea ec,cs=[.int .i64 n.kind,.string n.text,.int .i64 n.x.kind,.int .i64 n.x.val.kind,.bool n.x.val.bool,.int .i64 n.x.val.int,.string n.x.val.str,.slice la n.x.val.list.length lc,.slice ma n.x.val.map.length mc,.string n.x.name,.slice sa n.x.steps.length sc,.slice aa n.x.args.length ac,.string n.key,.string n.name,.slice ba n.body.length bc,.slice ea n.els.length ec]/\PartsN w S la lc ma mc sa sc aa ac ba bc ea ec n:=by
 cases h with
 | mk k t x ky nm bo el la lc ma mc sa sc aa ac ba bc ea ec C D hk ht hx hky hn hbr her hb hc he hd=>
  exact ⟨la,lc,ma,mc,sa,sc,aa,ac,ba,bc,ea,ec,rfl,hk,ht,hx,hky,hn,hbr,her,fun i hi=>by
   obtain ⟨b,o,e,hS,hcs⟩:=hb i hi
   exact ⟨b,o,C i,e,hS,hcs,hc i hi⟩,fun i hi=>by
   obtain ⟨b,o,e,hS,hcs⟩:=he i hi
   exact ⟨b,o,D i,e,hS,hcs,hd i hi⟩⟩
theorem RepN.of {la:OA_} {lc:Nat} {ma:OA_} {mc:Nat} {sa:OA_} {sc:Nat} {aa:OA_} {ac:Nat} {ba:OA_} {bc:Nat} {ea:OA_} {ec:Nat} (h:PartsN w S la lc ma mc sa sc aa ac ba bc ea ec n):RepN w S [.int .i64 n.kind,.string n.text,.int .i64 n.x.kind,.int .i64 n.x.val.kind,.bool n.x.val.bool,.int .i64 n.x.val.int,.string n.x.val.str,.slice la n.x.val.list.length lc,.slice ma n.x.val.map.length mc,.string n.x.name,.slice sa n.x.steps.length sc,.slice aa n.x.args.length ac,.string n.key,.string n.name,.slice ba n.body.length bc,.slice ea n.els.length ec] n:=by
 obtain ⟨hk,ht,hx,hky,hn,hbr,her,hB,hE⟩:=h
 cases n with
 | mk k t x ky nm bo el=>
  have go:∀ (a:OA_) (l:List Nd),RepNs w S a l->∃ C:Nat->List Value,∀ i (h:i < l.length),∃ b o,a=some ⟨b,o,none⟩/\S b/\cellsAt w b (o+i*16) (C i)/\RepN w S (C i) l[i]:=by
   intro a l hl
   have h1:∀ i,∃ cs,∀ h:i < l.length,∃ b o,a=some ⟨b,o,none⟩/\S b/\cellsAt w b (o+i*16) cs/\RepN w S cs l[i]:=by
    intro i
    by_cases h:i < l.length
    ·obtain ⟨b,o,cs,r⟩:=hl i h
     exact ⟨cs,fun _=>⟨b,o,r⟩⟩
    ·exact ⟨[],fun h'=>absurd h' h⟩
   exact ⟨fun i=>Classical.choose (h1 i),fun i h=>Classical.choose_spec (h1 i) h⟩
  obtain ⟨C,hC⟩:=go ba bo hB;obtain ⟨D,hD⟩:=go ea el hE
  refine .mk k t x ky nm bo el la lc ma mc sa sc aa ac ba bc ea ec C D hk ht hx hky hn hbr her (fun i h=>?_) (fun i h=>?_) (fun i h=>?_) (fun i h=>?_)
  ·obtain ⟨b,o,e,hb,hc,_⟩:=hC i h;exact ⟨b,o,e,hb,hc⟩
  ·obtain ⟨_,_,_,_,_,hr⟩:=hC i h;exact hr
  ·obtain ⟨b,o,e,hb,hc,_⟩:=hD i h;exact ⟨b,o,e,hb,hc⟩
  ·obtain ⟨_,_,_,_,_,hr⟩:=hD i h;exact hr
theorem RepN.len (h:RepN w S cs n):cs.length=16:=by obtain ⟨_,_,_,_,_,_,_,_,_,_,_,_,rfl,_⟩:=h.inv;rfl
theorem RepN.one (h:RepN w S cs n):∀ u ∈ cs,u.oneCell'=true:=by
 obtain ⟨_,_,_,_,_,_,_,_,_,_,_,_,rfl,_⟩:=h.inv;intro u hu
 simp only [List.mem_cons,List.not_mem_nil,or_false] at hu
 rcases hu with rfl | rfl | rfl | rfl | rfl | rfl | rfl | rfl | rfl | rfl | rfl | rfl | rfl | rfl | rfl | rfl <;>rfl
theorem RepN.mono (h:RepN w S cs n) (hS:∀ b,S b->b < w.heap.size->S' b) (hw:∀ b o,S b->b < w.heap.size->w'.cell? ⟨b,o,none⟩=w.cell? ⟨b,o,none⟩):RepN w' S' cs n:=by
 induction h with
 | mk k t x ky nm bo el la lc ma mc sa sc aa ac ba bc ea ec C D hk ht hx hky hn hbr her hb hc he hd ih1 ih2=>
  have go:∀ (E:Nat->List Value) (m:Nat) (a:OA_),(∀ i,i < m->(E i).length=16)->(∀ i,i < m->∃ b o,a=some ⟨b,o,none⟩/\S b/\cellsAt w b (o+i*16) (E i))->∀ i,i < m->∃ b o,a=some ⟨b,o,none⟩/\S' b/\cellsAt w' b (o+i*16) (E i):=by
   intro E m a hl h i hi;obtain ⟨b,o,e,hb,hc⟩:=h i hi;have hl:=hl i hi
   have hlt:b < w.heap.size:=by
    generalize E i=cs at hc hl
    cases cs with
    | nil=>simp at hl
    | cons c cs=>exact hc.lt
   exact ⟨b,o,e,hS b hb hlt,hc.keep fun i=>hw _ _ hb hlt⟩
  exact .mk k t x ky nm bo el la lc ma mc sa sc aa ac ba bc ea ec C D hk ht (hx.mono hS hw) hky hn hbr her (go C _ _ (fun i h=>(hc i h).len) hb) ih1 (go D _ _ (fun i h=>(hd i h).len) he) ih2
theorem RepN.keep (h:RepN w S cs n) (hb:Below w.heap.size w w'):RepN w' S cs n:=h.mono (fun _ h _=>h) fun _ _ _ hlt=>hb.cell hlt
theorem RepN.weak (h:RepN w S cs n) (hS:∀ b,S b->b < w.heap.size->S' b):RepN w S' cs n:=h.mono hS fun _ _ _ _=>rfl
theorem RepNs.mono {a:OA_} {l:List Nd} (h:RepNs w S a l) (hS:∀ b,S b->b < w.heap.size->S' b) (hw:∀ b o,S b->b < w.heap.size->w'.cell? ⟨b,o,none⟩=w.cell? ⟨b,o,none⟩):RepNs w' S' a l:=by
 intro i hi;obtain ⟨b,o,cs,e,hb,hc,hr⟩:=h i hi;have hl:=hr.len
 have hlt:b < w.heap.size:=by
  cases cs with
  | nil=>simp at hl
  | cons c cs=>exact hc.lt
 exact ⟨b,o,cs,e,hS b hb hlt,hc.keep fun i=>hw _ _ hb hlt,hr.mono hS hw⟩
theorem RepNs.keep {a:OA_} {l:List Nd} (h:RepNs w S a l) (hb:Below w.heap.size w w'):RepNs w' S a l:=h.mono (fun _ h _=>h) fun _ _ _ hlt=>hb.cell hlt
theorem RepNs.nil {a:OA_}:RepNs w S a []:=fun _ hi=>absurd hi (Nat.not_lt_zero _)
end
def eltNof (ty slt:TypeId) (hund:Tryz.prog.underlying slt=some (.slice ty)) (hinfo:(Tryz.prog.info? ty).map (fun i=>(i.zero,i.size,i.bytes))=some (some (.agg #[.int .i64 0,.string ⟨#[]⟩,.int .i64 0,.int .i64 0,.bool false,.int .i64 0,.string ⟨#[]⟩,.slice none 0 0,.slice none 0 0,.string ⟨#[]⟩,.slice none 0 0,.slice none 0 0,.string ⟨#[]⟩,.string ⟨#[]⟩,.slice none 0 0,.slice none 0 0]),16,264)):Elt Nd where
 ty:=ty
 slt:=slt
 sz:=16
 bytes:=264
 zero:=.agg #[.int .i64 0,.string ⟨#[]⟩,.int .i64 0,.int .i64 0,.bool false,.int .i64 0,.string ⟨#[]⟩,.slice none 0 0,.slice none 0 0,.string ⟨#[]⟩,.slice none 0 0,.slice none 0 0,.string ⟨#[]⟩,.string ⟨#[]⟩,.slice none 0 0,.slice none 0 0]
 R:=RepN
 len h:=h.len
 one h:=h.one
 mono h hS hw:=h.mono hS hw
 pos:=by decide
 hund:=hund
 hinfo:=hinfo
 hzero:=rfl
def eltN:Elt Nd:=eltNof 64 30 Tryz.underlying30 (by kernel_rfl)
def eltNR:Elt Nd:=eltNof 70 22 Tryz.underlying22 (by kernel_rfl)
end Go.Proofs.YtnblmhfgmehnnaaGreatDoor
namespace Go.Proofs.YtnblmhfgmehnnaaGreatDoor
open Go.RowKit
theorem rep_zero (w:World) (S:Nat->Prop):RepT w S (.agg zcells) T.zero:=
 RepT.of (t:=T.zero) (la:=none) (lc:=0) (ma:=none) (mc:=0) ⟨(show i64ok 0 by unfold i64ok;omega),(show i64ok 0 by unfold i64ok;omega),by show ByteArray.size ⟨#[]⟩<=_;simp [ByteArray.size],by simp [T.zero,T.list],by simp [T.zero,T.map],by simp [T.zero,T.list],by simp [T.zero,T.map],by unfold maxLen;omega,by unfold maxLen;omega,fun i hi=>by simp [T.zero,T.list] at hi,fun i hi=>by simp [T.zero,T.map] at hi⟩
theorem ret_cell2 {fn:Func} {R:Ending->World->Prop} {a:Act} {w:World} {p q:Tmp} {ty g t:Nat} {cs:Array Value} {v:Value} {fs:Array Field} (h:fn.results=#[.cell p ty,.tmp q]) (hp:a.tmps.getD p undef=.pointer (some ⟨g,0,none⟩)) (hq:a.tmps.getD q undef=v) (hb:Blk w g t cs)
  (hu:Tryz.prog.underlying ty=some (.struct fs)) (hi:(Tryz.prog.info? ty).map (·.size)=some cs.size) (hdf:a.defers=[]) (hR:R (.returned (.tuple #[.agg cs,v])) w):bodyPost Tryz.prog fn R .ret a w:=by
 refine bodyPost_ret ?_ hdf hR
 have hp':a.tmps[p]?.getD undef=.pointer (some ⟨g,0,none⟩):=by simpa using hp
 have hq':a.tmps[q]?.getD undef=v:=by simpa using hq
 simp [results,h,hp',hq',asAddr,run_loadVar_row w g t ty cs (0,0) (.struct fs) hb hu rfl hi]
end Go.Proofs.YtnblmhfgmehnnaaGreatDoor
