/- Several texts as one. -/
import Derived.Test.YtnblmhfgmehnnaaGreatDoorPeMv
import Derived.Test.YtnblmhfgmehnnaaGreatDoorPeAA
import Derived.Lib.Bytealg
import Derived.Test.YtnblmhfgmehnnaaGreatDoorShv
import Derived.Shelf.Strings.BuilderK
import Derived.Deep.RegionWith
import Derived.Lib.ItoaNum
import Derived.Lib.LaidTab
import Derived.Stop.LaidErr
import Derived.Lib.AppendIntMem
import Derived.Test.YtnblmhfgmehnnaaGreatDoorRows
import Derived.Lib.IndexBytes
import Derived.Test.YtnblmhfgmehnnaaGreatDoorPeAB
import Derived.Shelf.Strings.SlTrimAscii
import Derived.Deep.DrawnRows
import Derived.Deep.DeepCutAuto
import Derived.Deep.RegionHeld3
import Derived.Deep.Cut
set_option maxRecDepth 100000
set_option maxHeartbeats 8000000
namespace Go.Proofs.YtnblmhfgmehnnaaGreatDoor
open Go.RowKit
theorem rep_leaf (w:World) (S:Nat->Prop) (k:Int) (b:Bool) (n:Int) (s:ByteArray) (hk:i64ok k) (hn:i64ok n) (hs:s.size<=140737488351232):
  RepT w S (.agg #[.int .i64 k,.bool b,.int .i64 n,.string s,.slice none 0 0,.slice none 0 0]) (.mk k b n s [] []):=
 RepT.of (t:=.mk k b n s [] []) (la:=none) (lc:=0) (ma:=none) (mc:=0) ⟨hk,hn,hs,by simp [T.list],by simp [T.map],by simp [T.list],by simp [T.map],by unfold maxLen;omega,by unfold maxLen;omega,fun i hi=>by simp [T.list] at hi,fun i hi=>by simp [T.map] at hi⟩
theorem tnull (w:World):Calls Tryz.prog 115 #[] w (NewPost w T.zero):=by
 go_enter Tryz.func115,Tryz.ntmps115
 go_wp2_with fail
 exact ret_cell rfl rfl (Blk.new _ _ _) Tryz.underlying41 val_size rfl ⟨_,rfl,rep_zero _ _,Below.new _ _⟩
theorem tbool (b:Bool) (w:World):Calls Tryz.prog 108 #[.bool b] w (NewPost w (.mk 1 b 0 ⟨#[]⟩ [] [])):=by
 go_enter Tryz.func108,Tryz.ntmps108
 go_wp2_with fail
 exact ret_cell rfl rfl (Blk.new _ _ _) Tryz.underlying41 val_size rfl ⟨_,rfl,rep_leaf _ _ 1 b 0 ⟨#[]⟩ (by unfold i64ok;omega) (by unfold i64ok;omega) (by simp [ByteArray.size]),Below.new _ _⟩
theorem tint (n:Int) (hn:i64ok n) (w:World):Calls Tryz.prog 118 #[.int .i64 n] w (NewPost w (.mk 2 false n ⟨#[]⟩ [] [])):=by
 go_enter Tryz.func118,Tryz.ntmps118
 go_wp2_with fail
 exact ret_cell rfl rfl (Blk.new _ _ _) Tryz.underlying41 val_size rfl ⟨_,rfl,rep_leaf _ _ 2 false n ⟨#[]⟩ (by unfold i64ok;omega) hn (by simp [ByteArray.size]),Below.new _ _⟩
theorem tstr (s:ByteArray) (hs:s.size<=140737488351232) (w:World):Calls Tryz.prog 105 #[.string s] w (NewPost w (.mk 3 false 0 s [] [])):=by
 go_enter Tryz.func105,Tryz.ntmps105
 go_wp2_with fail
 exact ret_cell rfl rfl (Blk.new _ _ _) Tryz.underlying41 val_size rfl ⟨_,rfl,rep_leaf _ _ 3 false 0 s (by unfold i64ok;omega) (by unfold i64ok;omega) hs,Below.new _ _⟩
theorem word_eq (s:ByteArray) (l:LB_):(s.toList==l)=decide (s.data.toList=l):=by
 rw [ByteArray.toList_eq]
 by_cases h:s.data.toList=l
 ·rw [h];simp
 ·rw [bf_ h];simp [h]
theorem Leaf.any {t:T} {w w':World} {S S':Nat->Prop} {v:Value} (h:RepT w S v t) (hl:t.list=[]) (hm:t.map=[]):RepT w' S' v t:=by
 obtain ⟨la,lc,ma,mc,rfl,hk,hn,hs,h1,h2,h3,h4,h5,h6, -, -⟩:=h.inv
 exact RepT.of ⟨hk,hn,hs,h1,h2,h3,h4,h5,h6,fun i hi=>by rw [hl] at hi;simp at hi,fun i hi=>by rw [hm] at hi;simp at hi⟩
end Go.Proofs.YtnblmhfgmehnnaaGreatDoor
namespace Go.Proofs.YtnblmhfgmehnnaaGreatDoor
open Go.RowKit
attribute [local go_sem ↓] Go.wp_at_zero Go.wp_at_succ
theorem okL_snoc (l:LB_) (c:UInt8):okL (l++[c])=(okL l && (letterB c || (!l.isEmpty && moreB c))):=by
 cases l with
 | nil=>simp [okL]
 | cons d r=>simp [okL,List.all_append,Bool.and_assoc]
theorem okL_take:∀ (n:Nat) {l:LB_},okL l=true->okL (l.take n)=true
 | 0,l,_=>by simp [okL]
 | n+1,[],h=>by simp [okL]
 | n+1,c::r,h=>by
  rw [okL,Bool.and_eq_true] at h;rw [List.take_succ_cons,okL,h.1,Bool.true_and,List.all_eq_true];intro x hx
  exact List.all_eq_true.1 h.2 x (List.mem_of_mem_take hx)
theorem tdigit (c:UInt8) (w:World):Calls Tryz.prog 120 #[.int .u8 c.toNat] w fun e w'=>e=.returned (.bool (digitB c))/\w=w':=by
 have h256:=UInt8.toNat_lt c
 go_enter Tryz.func120,Tryz.ntmps120
 go_wp2
 all_goals (go_ret;refine ⟨congrArg Ending.returned (show Value.bool _=_ from congrArg Value.bool ?_),rfl⟩;rw [Bool.eq_iff_iff];simp [digitB];omega)
def okPos (q:Nat) (c:UInt8):Bool:=letterB c || (!(q==0) && moreB c)
theorem okL_at {s:ByteArray} {q:Nat} (h:q < s.size) (ho:okL (s.data.toList.take q)=true):okL (s.data.toList.take (q+1))=okPos q s[q]:=by
 rw [take_byte h,okL_snoc,ho,Bool.true_and,okPos]
 cases q with
 | zero=>simp
 | succ q=>
  have:(s.data.toList.take (q+1)).isEmpty=false:=by
   rw [Bool.eq_false_iff];intro e;rw [List.isEmpty_iff,List.take_eq_nil_iff] at e
   rcases e with e | e
   ·omega
   ·rw [size_list,e] at h;simp at h
  rw [this];simp
theorem okL_bad {s:ByteArray} {q:Nat} (h:okL (s.data.toList.take (q+1))=false):bareL s.data.toList=false:=by
 have:okL s.data.toList=false:=by
  cases ho:okL s.data.toList with
  | false=>rfl
  | true=>rw [okL_take (q+1) ho] at h;cases h
 rw [bareL,this];rfl
theorem bare_ends (s:ByteArray) (h:okL s.data.toList=true):bareL s.data.toList=!(s.toList.isEmpty || s.toList==nullW || s.toList==trueW || s.toList==falseW):=by
 rw [bareL,h,Bool.true_and,ByteArray.toList_eq]
 congr 4
 cases s.data.toList <;>rfl
theorem escL_snoc (l:LB_) (c:UInt8):escL (l++[c])=escL l++esc1 c:=by simp [escL]
theorem escL_len:∀ (l:LB_),(escL l).length<=2*l.length
 | []=>by simp [escL]
 | c::l=>by
  have ih:=escL_len l
  have e:escL (c::l)=esc1 c++escL l:=by simp [escL]
  have h1:(esc1 c).length<=2:=by unfold esc1;repeat (first | (split) | simp)
  rw [e,List.length_append,List.length_cons];omega
theorem rquote (s:ByteArray) (hs:s.size<=1000000) (w:World):Calls Tryz.prog 48 #[.string s] w fun e w'=>∃ v:ByteArray,e=.returned (.string v)/\v.data.toList=quoteL s.data.toList/\w=w':=by
 go_enter Tryz.func48,Tryz.ntmps48
 go_wp2_with fail
 go_loop [3,4] (fun x3 x4=>∃ (o:ByteArray) (q:Nat),x3=.string o/\x4=.int .i64 q/\q<=s.size/\Hid (o.data.toList=34::escL (s.data.toList.take q))) (fun _ x4=>s.size - (intOf x4).toNat)
 case atStart=>exact ⟨_,0,rfl,rfl,Nat.zero_le _,h_ (by simp [escL])⟩
 case round=>
  obtain ⟨o,q,rfl,rfl,hq,hr⟩:=hrel;have HR:=h_ hr.out;clear hr
  have hos:o.size<=2000001:=by
   have h1:=congrArg List.length HR.out;have h2:=escL_len (s.data.toList.take q);have h3:=List.length_take_le q s.data.toList;rw [<-size_list,List.length_cons] at h1
   omega
  by_cases hlt:q < s.size
  ·have hq2:(q:Int) < s.size:=by omega
   have h256:=UInt8.toNat_lt s[q];have HN:=h_ (show ∀ (o2 x:ByteArray),x.data.toList=esc1 s[q]->o2=o++x->o2.data.toList=34::escL (s.data.toList.take (q+1)) from fun o2 x h1 h2=>by rw [h2,app_list,HR.out,h1,take_byte hlt,escL_snoc];rfl);have HB:=h_ (one_byte hlt)
   by_cases c10:s[q]=10
   ·have d10:((s[q].toNat:Int)==10)=true:=by rw [c10];rfl
    have HC:=h_ (show esc1 s[q]=[92,110] from by rw [esc1,if_pos c10]);clear c10;go_wp2_with fail
    go_round
    case rel=>exact ⟨_,q+1,rfl,by go_num,by omega,h_ (HN.out _ _ HC.out.symm rfl)⟩
    case measure=>simp [intOf];omega
   ·have d10:((s[q].toNat:Int)==10)=false:=bf_ (fun h=>c10 (UInt8.toNat_inj.1 (by show _=10;omega)))
    by_cases c9:s[q]=9
    ·have d9:((s[q].toNat:Int)==9)=true:=by rw [c9];rfl
     have HC:=h_ (show esc1 s[q]=[92,116] from by rw [esc1,if_neg c10,if_pos c9]);clear c10 c9;go_wp2_with fail
     go_round
     case rel=>exact ⟨_,q+1,rfl,by go_num,by omega,h_ (HN.out _ _ HC.out.symm rfl)⟩
     case measure=>simp [intOf];omega
    ·have d9:((s[q].toNat:Int)==9)=false:=bf_ (fun h=>c9 (UInt8.toNat_inj.1 (by show _=9;omega)))
     by_cases c34:s[q]=34
     ·have d34:((s[q].toNat:Int)==34)=true:=by rw [c34];rfl
      have HC:=h_ (show esc1 s[q]=[92,s[q]] from by rw [esc1,if_neg c10,if_neg c9,if_pos (.inl c34)]);clear c10 c9 c34;go_wp2_with fail
      go_round
      case rel=>exact ⟨_,q+1,rfl,by go_num,by omega,h_ (HN.out _ (⟨#[92]⟩++s.extract q (q+1)) (by rw [app_list,HB.out,HC.out];rfl) (ByteArray.append_assoc ..))⟩
      case measure=>simp [intOf];omega
     ·have d34:((s[q].toNat:Int)==34)=false:=bf_ (fun h=>c34 (UInt8.toNat_inj.1 (by show _=34;omega)))
      by_cases c92:s[q]=92
      ·have d92:((s[q].toNat:Int)==92)=true:=by rw [c92];rfl
       have HC:=h_ (show esc1 s[q]=[92,s[q]] from by rw [esc1,if_neg c10,if_neg c9,if_pos (.inr c92)]);clear c10 c9 c34 c92;go_wp2_with fail
       go_round
       case rel=>exact ⟨_,q+1,rfl,by go_num,by omega,h_ (HN.out _ (⟨#[92]⟩++s.extract q (q+1)) (by rw [app_list,HB.out,HC.out];rfl) (ByteArray.append_assoc ..))⟩
       case measure=>simp [intOf];omega
      ·have d92:((s[q].toNat:Int)==92)=false:=bf_ (fun h=>c92 (UInt8.toNat_inj.1 (by show _=92;omega)))
       have HC:=h_ (show esc1 s[q]=[s[q]] from by rw [esc1,if_neg c10,if_neg c9,if_neg (by rintro (h | h) <;>contradiction)]);clear c10 c9 c34 c92;go_wp2_with fail
       go_round
       case rel=>exact ⟨_,q+1,rfl,by go_num,by omega,h_ (HN.out _ (s.extract q (q+1)) (by rw [HB.out,HC.out]) rfl)⟩
       case measure=>simp [intOf];omega
  ·have hq2:q=s.size:=by omega
   have HQ:=h_ (show o.data.toList=34::escL s.data.toList from by rw [HR.out,hq2,size_list,List.take_length]);clear hq2;go_wp2_with fail;go_ret
   exact ⟨_,rfl,by rw [app_list,HQ.out];rfl,rfl⟩
end Go.Proofs.YtnblmhfgmehnnaaGreatDoor
namespace Go.Proofs.YtnblmhfgmehnnaaGreatDoor
open Go.RowKit
def lb_ren:Go.Shelf.Ren:=⟨fun | 166=>42 | 167=>114 | 240=>68 | 276=>86 | n=>n,fun | 0=>0 | 3=>3 | 4=>4 | 5=>5 | 9=>9 | 20=>20 | 37=>23 | 70=>87 | 72=>89 | 75=>92 | 80=>81 | 164=>136 | n=>n,fun | n=>n⟩
theorem lb240:Go.Proofs.Lays.n240 Tryz.prog lb_ren:={
 mixed:=by kernel_rfl
 f240:=Tryz.func68.trans (congrArg some (by kernel_rfl))
 f276:=Tryz.func86.trans (congrArg some (by kernel_rfl))
 t0:=Tryz.underlying0
 a0:=Tryz.isAgg0
 z0:=Tryz.sizeOf0
 v0:=Tryz.zeroValue0
 t4:=Tryz.underlying4
 a4:=Tryz.isAgg4
 z4:=Tryz.sizeOf4
 v4:=Tryz.zeroValue4
 t9:=Tryz.underlying9
 a9:=Tryz.isAgg9
 z9:=Tryz.sizeOf9
 v9:=Tryz.zeroValue9
 t20:=Tryz.underlying20
 a20:=Tryz.isAgg20
 z20:=Tryz.sizeOf20
 v20:=Tryz.zeroValue20
 t70:=Tryz.underlying87
 a70:=Tryz.isAgg87
 z70:=Tryz.sizeOf87
 v70:=Tryz.zeroValue87
 t72:=Tryz.underlying89
 a72:=Tryz.isAgg89
 z72:=Tryz.sizeOf89
 v72:=Tryz.zeroValue89
 t164:=Tryz.underlying136
 a164:=Tryz.isAgg136
 z164:=Tryz.sizeOf136
 v164:=Tryz.zeroValue136}
theorem lb167:Go.Proofs.Lays.n167 Tryz.prog lb_ren:={lb240 with
 f167:=Tryz.func114.trans (congrArg some (by kernel_rfl))
 t5:=Tryz.underlying5
 a5:=Tryz.isAgg5
 z5:=Tryz.sizeOf5
 v5:=Tryz.zeroValue5
 t37:=Tryz.underlying23
 a37:=Tryz.isAgg23
 z37:=Tryz.sizeOf23
 v37:=Tryz.zeroValue23
 t75:=Tryz.underlying92
 a75:=Tryz.isAgg92
 z75:=Tryz.sizeOf92
 v75:=Tryz.zeroValue92}
theorem lbX:Builder.Extra Tryz.prog lb_ren:={
 sizeBuilder:=by kernel_rfl
 liesBuilder:=by kernel_rfl
 t5:=Tryz.underlying5
 a5:=Tryz.isAgg5
 z5:=Tryz.sizeOf5
 v5:=Tryz.zeroValue5
 infoByte:=by kernel_rfl
 cellsByte:=by kernel_rfl
 sizeByte:=by kernel_rfl
 neB5:=by decide}
def Bld (b:Nat) (l:LB_) (w:World):Prop:=Lib.IsBuilderF 89 5 b b (Lib.byteCells l) w
theorem Bld.new (w:World):Bld w.heap.size [] (w.alloc (.cells #[.pointer none,.slice none 0 0] 89)):=Lib.IsBuilderF.of (Lib.fresh_isBuilder _ _ w)
theorem byteCells_snoc (l:LB_) (c:UInt8):Lib.byteCells (l++[c])=Lib.byteCells l++[.int .u8 c.toNat]:=by simp [Lib.byteCells]
theorem byteCells_len (l:LB_):(Lib.byteCells l).length=l.length:=Lib.byteCells_length l
theorem wbyte {b:Nat} {l:LB_} {c:UInt8} {n:Int} {w:World} (h:Bld b l w) (hl:l.length<=100000000) (hb:b<=w.heap.size) (hn:n=c.toNat):
  Calls Tryz.prog 114 #[.pointer (some ⟨b,0,none⟩),.int .u8 n] w fun e w'=>e=.returned .nilIface/\Bld b (l++[c]) w'/\Below b w w':=by
 refine (Any.Builder_WriteByte_k lb167 lbX b b _ n w h (by rw [byteCells_len];omega) hb).mono ?_
 rintro e w' ⟨rfl,h1,h2, -⟩
 exact ⟨rfl,.inr (by rw [byteCells_snoc,<-hn];exact h1),h2⟩
theorem bstr {b:Nat} {l:LB_} {w:World} (h:Bld b l w) (hb:b<=w.heap.size):
  Calls Tryz.prog 44 #[.pointer (some ⟨b,0,none⟩)] w fun e w'=>e=.returned (.string ⟨l.toArray⟩)/\Bld b l w'/\Below b w w':=by
 refine (Tryz.Builder_String_any_k b b l w h hb).mono ?_
 rintro e w' ⟨rfl,h1,h2, -⟩
 exact ⟨rfl,h1,h2⟩
end Go.Proofs.YtnblmhfgmehnnaaGreatDoor
namespace Go.Proofs.YtnblmhfgmehnnaaGreatDoor
open Go.RowKit
attribute [local go_sem ↓] Go.wp_at_zero Go.wp_at_succ
def FreshPost (w:World) (l:LB_) (e:Ending) (w':World):Prop:=∃ v:ByteArray,e=.returned (.string v)/\v.data.toList=l/\Below w.heap.size w w'
theorem bstr_drew {b:Nat} {l:LB_} {w:World} (h:Bld b l w) (hb:b<=w.heap.size):
  Calls Tryz.prog 44 #[.pointer (some ⟨b,0,none⟩)] w.drew fun e w'=>e=.returned (.string ⟨l.toArray⟩)/\Below b w w':=by
 refine (bstr (w:=w.drew) (l:=l) h hb).mono ?_
 rintro e w' ⟨rfl, -,h2⟩
 exact ⟨rfl,(Below.refl b w).drew.trans h2⟩
end Go.Proofs.YtnblmhfgmehnnaaGreatDoor
namespace Go.Proofs.YtnblmhfgmehnnaaGreatDoor
open Go.RowKit
theorem var_keep {P:Program} {w w':World} {n:String} {cs:Array Value} (h:w.var? P n=some cs) (hb:Below w.heap.size w w'):w'.var? P n=some cs:=by
 unfold World.var? at h ⊢
 cases hg:P.globalNamed n with
 | none=>simp [hg] at h
 | some g=>
  simp only [hg,Option.bind_some] at h ⊢
  have hlt:g < w.heap.size:=by
   rcases Nat.lt_or_ge g w.heap.size with h' | h'
   ·exact h'
   ·simp [Array.getElem?_eq_none h'] at h
  rw [hb.block g hlt]
  exact h
def ScalV (w:World):Prop:=Lib.TabIs Tryz.prog w "internal/strconv.uint64pow10" .u64 Lib.pow10Tab/\∃ tp p,w.var? Tryz.prog "strconv.ErrRange" =some #[.iface tp p]
theorem ScalV.keep {w w':World} (h:ScalV w) (hb:Below w.heap.size w w'):ScalV w':=by
 obtain ⟨h1,tp,p,h2⟩:=h
 exact ⟨var_keep h1 hb,tp,p,var_keep h2 hb⟩
end Go.Proofs.YtnblmhfgmehnnaaGreatDoor
namespace Go.Proofs.YtnblmhfgmehnnaaGreatDoor
open Go.RowKit
attribute [local go_sem ↓] Go.wp_at_zero Go.wp_at_succ
theorem trim_mag (l:LB_):Lib.trimPrefix l [45]=mag l:=by
 cases l with
 | nil=>rfl
 | cons c r=>
  by_cases h:c=45
  ·subst h;simp [Lib.trimPrefix,Lib.hasPrefix,mag,minus]
  ·have h1:¬ (45:UInt8)=c:=fun e=>h e.symm
   simp [Lib.trimPrefix,Lib.hasPrefix,mag,minus,h1,h]
theorem mag_len (l:LB_):(mag l).length<=l.length:=by unfold mag;split <;>simp
theorem ttrimp (s:ByteArray) (w:World):Calls Tryz.prog 119 #[.string s,.string ⟨#[45]⟩] w fun e w'=>e=.returned (.string ⟨(mag s.data.toList).toArray⟩)/\w=w':=by
 refine (Tryz.strings_TrimPrefix s ⟨#[45]⟩ w).mono ?_
 rintro e w' ⟨rfl,rfl⟩
 exact ⟨by rw [show (⟨#[45]⟩:ByteArray).data.toList=[45] from rfl,trim_mag],rfl⟩
theorem tnumber (s:ByteArray) (hs:s.size<=140737488355328) (w:World):Calls Tryz.prog 116 #[.string s] w fun e w'=>e=.returned (.bool (numL s.data.toList))/\w=w':=by
 obtain ⟨m,hm⟩:∃ m:ByteArray,m=⟨(mag s.data.toList).toArray⟩:=⟨_,rfl⟩
 have hml:m.data.toList=mag s.data.toList:=by rw [hm]
 have hms:m.size<=140737488355328:=by rw [size_list,hml];have:=mag_len s.data.toList;rw [<-size_list] at this;omega
 have CT:=h_ (show Calls Tryz.prog 119 #[.string s,.string ⟨#[45]⟩] w (fun e w'=>e=.returned (.string m)/\w=w') from hm ▸ ttrimp s w);have HL:=h_ (show numL s.data.toList=(m.data.toList.all digitB && !m.data.toList.isEmpty) by rw [numL,hml])
 generalize numL s.data.toList=nb at HL ⊢
 clear hm hml
 go_enter Tryz.func116,Tryz.ntmps116
 go_wp2_with (go_at_call 119;refine CT.out.mono ?_;rintro e w9 ⟨rfl,rfl⟩)
 go_loop [8] (fun x8=>∃ (q:Nat),x8=.int .i64 q/\q<=m.size/\Hid ((m.data.toList.take q).all digitB=true)) (fun x8=>m.size - (intOf x8).toNat)
 case atStart=>exact ⟨0,rfl,Nat.zero_le _,h_ (by simp)⟩
 case round=>
  obtain ⟨q,rfl,hq,HR⟩:=hrel
  by_cases hlt:q < m.size
  ·have hq2:(q:Int) < m.size:=by omega
   have h256:=UInt8.toNat_lt m[q];obtain ⟨db,hdb⟩:∃ d,d=digitB m[q]:=⟨_,rfl⟩;have CD:=h_ (show Calls Tryz.prog 120 #[.int .u8 m[q].toNat] w (fun e w'=>e=.returned (.bool db)/\w=w') from hdb ▸ tdigit m[q] w);have HD:=h_ hdb;have HT:=h_ (take_byte hlt);clear hdb
   cases db
   case true=>
    go_wp2_with (go_at_call 120;refine CD.out.mono ?_;rintro e w9 ⟨rfl,rfl⟩)
    go_round
    case rel=>exact ⟨q+1,by go_num,by omega,h_ (by rw [HT.out,List.all_append,HR.out];simp [<-HD.out])⟩
    case measure=>simp [intOf];omega
   case false=>
    have HF:=h_ (show nb=false by
     rw [HL.out,Bool.and_eq_false_iff];left;rw [Bool.eq_false_iff];intro ha
     have:=List.all_eq_true.1 ha m[q] (List.getElem_mem (by simpa using hlt:q < m.data.toList.length))
     rw [<-HD.out] at this;cases this)
    go_wp2_with (go_at_call 120;refine CD.out.mono ?_;rintro e w9 ⟨rfl,rfl⟩)
    go_ret
    exact ⟨by rw [HF.out];rfl,rfl⟩
  ·have hq3:¬ (q:Int) < m.size:=by omega
   have HA:=h_ (show nb=!m.toList.isEmpty by
    rw [HL.out,ByteArray.toList_eq]
    have:=HR.out
    rw [List.take_of_length_le (by rw [<-size_list];omega)] at this
    rw [this];rfl)
   clear hlt hq
   cases h0:m.toList.isEmpty
   all_goals
    go_wp2_with fail;go_ret
    exact ⟨by rw [HA.out,h0];rfl,rfl⟩
def parseV (s:ByteArray):T:=(parseT s).getD T.zero
def parseE (s:ByteArray):Int:=if (parseT s).isSome then 0 else 9
def ParsePost (w:World) (t:T) (ec:Int) (e:Ending) (w':World):Prop:=∃ v,e=.returned (.tuple #[v,.int .i64 ec])/\(∀ w2 S,RepT w2 S v t)/\Below w.heap.size w w'
theorem parse_is {s:ByteArray} {t:T} (h:parseT s=some t):parseV s=t/\parseE s=0:=by simp [parseV,parseE,h]
theorem parse_over {s:ByteArray} (h:parseT s=none):parseV s=T.zero/\parseE s=9:=by simp [parseV,parseE,h]
theorem empty_eq (s:ByteArray):s.toList.isEmpty=decide (s.data.toList=[]):=by
 rw [ByteArray.toList_eq];cases s.data.toList <;>rfl
theorem tparseInt_ok (s:ByteArray) (hs:s.size<=140737488351232) (n:Int) (hn:numL s.data.toList=true) (hi:intL s.data.toList=some n) (w:World):
  Calls Tryz.prog 117 #[.string s,.int .i64 10,.int .i64 64] w fun e w'=>e=.returned (.tuple #[.int .i64 n,.nilIface])/\Below w.heap.size w w':=by
 refine (Tryz.strconv_ParseInt_10_at64_ok s (by omega) n (by rw [parse_num hn,hi]) w).mono ?_
 rintro e w' ⟨rfl,rfl | ⟨t,rfl⟩⟩
 ·exact ⟨rfl,Below.refl _ _⟩
 ·exact ⟨rfl,Lib.bytesWorld_below _ _ _⟩
theorem tparseInt_over (s:ByteArray) (hs:s.size<=140737488351232) (hn:numL s.data.toList=true) (hi:intL s.data.toList=none) (w:World) (hv:ScalV w):
  Calls Tryz.prog 117 #[.string s,.int .i64 10,.int .i64 64] w fun e w'=>∃ n N,e=.returned (.tuple #[.int .i64 n,.iface 170 (.pointer (some ⟨N,0,none⟩))])/\Below w.heap.size w w':=by
 obtain ⟨-,tp,p,h2⟩:=hv
 refine (Tryz.strconv_ParseInt_10_at64_range_var s (by omega) (by rw [parse_num hn,hi]) tp p w h2).mono ?_
 rintro e w' ⟨N,rfl, -, -,hb⟩
 exact ⟨_,N,rfl,hb⟩
theorem intL_ok {l:LB_} {n:Int} (h:intL l=some n):i64ok n:=by
 unfold intL at h;unfold i64ok
 split at h
 ·split at h
  ·injection h with h;omega
  ·cases h
 ·split at h
  ·injection h with h;omega
  ·cases h
theorem tparse (s:ByteArray) (hs:s.size<=140737488351232) (w:World) (hv:ScalV w):Calls Tryz.prog 113 #[.string s] w (ParsePost w (parseV s) (parseE s)):=by
 have HV:=h_ hv;clear hv;have e0:=empty_eq s;have e1:=word_eq s [126];have e2:=word_eq s [110,117,108,108];have e3:=word_eq s [116,114,117,101];have e4:=word_eq s [102,97,108,115,101]
 have Z:∀ {w0:World},Below w.heap.size w w0->Hid (Below w.heap.size w w0):=fun h=>h_ h
  -- nothing
 have nul:nullish s.data.toList->(s.toList.isEmpty=true\/(s.toList.isEmpty=false/\(s.toList==[126])=true)\/(s.toList.isEmpty=false/\(s.toList==[126])=false/\(s.toList==[110,117,108,108])=true)):=fun h=>by
  rw [e0,e1,e2]
  by_cases h1:s.data.toList=[]
  ·left;simp [h1]
  ·by_cases h2:s.data.toList=[126]
   ·right;left;simp [h2]
   ·right;right
    rcases h with h | h | h
    ·exact absurd h h1
    ·exact absurd h h2
    ·simp [h1,h2];exact h
 by_cases hz:nullish s.data.toList
 ·have HP:=h_ (parse_is (s:=s) (t:=T.zero) (by rw [parseT,if_pos hz]))
  rcases nul hz with f0 | ⟨f0,f1⟩ | ⟨f0,f1,f2⟩
  all_goals
   clear e0 e1 e2 e3 e4 nul hz
   go_enter Tryz.func113,Tryz.ntmps113
   go_wp2_with fail
   refine (tnull _).mono ?_
   rintro e w1 ⟨v,rfl,hr,hb1⟩;obtain ⟨la,lc,ma,mc,rfl, -⟩:=hr.inv;have HR:=h_ hr;have hk:=(Blk.new w 41 #[.int .i64 0,.bool false,.int .i64 0,.string ⟨#[]⟩,.slice none 0 0,.slice none 0 0]).keep hb1;have HK:=h_ hk;have k0:=((hk).cell 0:_=some _);have k1:=((hk).cell 1:_=some _);have k2:=((hk).cell 2:_=some _);have k3:=((hk).cell 3:_=some _);have k4:=((hk).cell 4:_=some _);have k5:=((hk).cell 5:_=some _);have f0:=(hk).frozen 0;have f1:=(hk).frozen 1;have f2:=(hk).frozen 2;have f3:=(hk).frozen 3;have f4:=(hk).frozen 4;have f5:=(hk).frozen 5;have HB:=h_ (Below.next (Below.new _ _) hb1);clear hr hb1 hk;go_wp2_with fail
   exact ret_cell2 rfl rfl rfl ((((((HK.out.set_ 0 _).set_ 1 _).set_ 2 _).set_ 3 _).set_ 4 _).set_ 5 _) Tryz.underlying41 val_size rfl ⟨_,by rw [HP.out.2];rfl,fun w2 S=>by rw [HP.out.1];exact Leaf.any HR.out rfl rfl,set6_below (o:=0) HB.out (by omega)⟩
 have f0:s.toList.isEmpty=false:=by rw [e0];exact decide_eq_false (fun e=>hz (.inl e))
 have f1:(s.toList==[126])=false:=by rw [e1];exact decide_eq_false (fun e=>hz (.inr (.inl e)))
 have f2:(s.toList==[110,117,108,108])=false:=by rw [e2];exact decide_eq_false (fun e=>hz (.inr (.inr e)))
 clear e0 e1 e2 nul
 by_cases ht:s.data.toList=trueW
 ·have f3:(s.toList==[116,114,117,101])=true:=by rw [e3];exact decide_eq_true ht
  have HP:=h_ (parse_is (s:=s) (t:=tB true) (by rw [parseT,if_neg hz,if_pos ht]));clear e3 e4 hz ht
  go_enter Tryz.func113,Tryz.ntmps113
  go_wp2_with fail
  refine (tbool true _).mono ?_
  rintro e w1 ⟨v,rfl,hr,hb1⟩;obtain ⟨la,lc,ma,mc,rfl, -⟩:=hr.inv;have HR:=h_ hr;have hk:=(Blk.new w 41 #[.int .i64 0,.bool false,.int .i64 0,.string ⟨#[]⟩,.slice none 0 0,.slice none 0 0]).keep hb1;have HK:=h_ hk;have k0:=((hk).cell 0:_=some _);have k1:=((hk).cell 1:_=some _);have k2:=((hk).cell 2:_=some _);have k3:=((hk).cell 3:_=some _);have k4:=((hk).cell 4:_=some _);have k5:=((hk).cell 5:_=some _);have f0:=(hk).frozen 0;have f1:=(hk).frozen 1;have f2:=(hk).frozen 2;have f3:=(hk).frozen 3;have f4:=(hk).frozen 4;have f5:=(hk).frozen 5;have HB:=h_ (Below.next (Below.new _ _) hb1);clear hr hb1 hk;go_wp2_with fail
  exact ret_cell2 rfl rfl rfl ((((((HK.out.set_ 0 _).set_ 1 _).set_ 2 _).set_ 3 _).set_ 4 _).set_ 5 _) Tryz.underlying41 val_size rfl ⟨_,by rw [HP.out.2];rfl,fun w2 S=>by rw [HP.out.1];exact Leaf.any HR.out rfl rfl,set6_below (o:=0) HB.out (by omega)⟩
 have f3:(s.toList==[116,114,117,101])=false:=by rw [e3];exact decide_eq_false ht
 by_cases hf:s.data.toList=falseW
 ·have f4:(s.toList==[102,97,108,115,101])=true:=by rw [e4];exact decide_eq_true hf
  have HP:=h_ (parse_is (s:=s) (t:=tB false) (by rw [parseT,if_neg hz,if_neg ht,if_pos hf]));clear e3 e4 hz ht hf
  go_enter Tryz.func113,Tryz.ntmps113
  go_wp2_with fail
  refine (tbool false _).mono ?_
  rintro e w1 ⟨v,rfl,hr,hb1⟩;obtain ⟨la,lc,ma,mc,rfl, -⟩:=hr.inv;have HR:=h_ hr;have hk:=(Blk.new w 41 #[.int .i64 0,.bool false,.int .i64 0,.string ⟨#[]⟩,.slice none 0 0,.slice none 0 0]).keep hb1;have HK:=h_ hk;have k0:=((hk).cell 0:_=some _);have k1:=((hk).cell 1:_=some _);have k2:=((hk).cell 2:_=some _);have k3:=((hk).cell 3:_=some _);have k4:=((hk).cell 4:_=some _);have k5:=((hk).cell 5:_=some _);have f0:=(hk).frozen 0;have f1:=(hk).frozen 1;have f2:=(hk).frozen 2;have f3:=(hk).frozen 3;have f4:=(hk).frozen 4;have f5:=(hk).frozen 5;have HB:=h_ (Below.next (Below.new _ _) hb1);clear hr hb1 hk;go_wp2_with fail
  exact ret_cell2 rfl rfl rfl ((((((HK.out.set_ 0 _).set_ 1 _).set_ 2 _).set_ 3 _).set_ 4 _).set_ 5 _) Tryz.underlying41 val_size rfl ⟨_,by rw [HP.out.2];rfl,fun w2 S=>by rw [HP.out.1];exact Leaf.any HR.out rfl rfl,set6_below (o:=0) HB.out (by omega)⟩
 have f4:(s.toList==[102,97,108,115,101])=false:=by rw [e4];exact decide_eq_false hf
 clear e3 e4;obtain ⟨nb,hnb⟩:∃ d,d=numL s.data.toList:=⟨_,rfl⟩;have CN:=h_ (fun w2=>show Calls Tryz.prog 116 #[.string s] w2 (fun e w'=>e=.returned (.bool nb)/\w2=w') from hnb ▸ tnumber s (by omega) w2)
 cases nb
 case false=>
  have HP:=h_ (parse_is (s:=s) (t:=tS s) (by rw [parseT,if_neg hz,if_neg ht,if_neg hf,<-hnb];rfl));clear hz ht hf hnb
  go_enter Tryz.func113,Tryz.ntmps113
  go_wp2_with fail
  refine (CN.out _).mono ?_
  rintro e w0 ⟨rfl,rfl⟩;go_wp2_with fail
  refine (tstr s hs _).mono ?_
  rintro e w1 ⟨v,rfl,hr,hb1⟩;obtain ⟨la,lc,ma,mc,rfl, -⟩:=hr.inv;have HR:=h_ hr;have hk:=(Blk.new w 41 #[.int .i64 0,.bool false,.int .i64 0,.string ⟨#[]⟩,.slice none 0 0,.slice none 0 0]).keep hb1;have HK:=h_ hk;have k0:=((hk).cell 0:_=some _);have k1:=((hk).cell 1:_=some _);have k2:=((hk).cell 2:_=some _);have k3:=((hk).cell 3:_=some _);have k4:=((hk).cell 4:_=some _);have k5:=((hk).cell 5:_=some _);have f0:=(hk).frozen 0;have f1:=(hk).frozen 1;have f2:=(hk).frozen 2;have f3:=(hk).frozen 3;have f4:=(hk).frozen 4;have f5:=(hk).frozen 5;have HB:=h_ (Below.next (Below.new _ _) hb1);clear hr hb1 hk;go_wp2_with fail
  exact ret_cell2 rfl rfl rfl ((((((HK.out.set_ 0 _).set_ 1 _).set_ 2 _).set_ 3 _).set_ 4 _).set_ 5 _) Tryz.underlying41 val_size rfl ⟨_,by rw [HP.out.2];rfl,fun w2 S=>by rw [HP.out.1];exact Leaf.any HR.out rfl rfl,set6_below (o:=0) HB.out (by omega)⟩
 case true=>
 cases hi:intL s.data.toList with
 | some n=>
  have HP:=h_ (parse_is (parse_int hnb.symm hi));have CI:=h_ (fun w2=>tparseInt_ok s hs n hnb.symm hi w2);have hn:=intL_ok hi;have HN:=h_ hn;clear hz ht hf hnb hi hn
  go_enter Tryz.func113,Tryz.ntmps113
  go_wp2_with fail
  refine (CN.out _).mono ?_
  rintro e w0 ⟨rfl,rfl⟩;go_wp2_with fail
  refine (CI.out _).mono ?_
  rintro e w0 ⟨rfl,hb0⟩;go_wp2_with fail
  refine (tint n HN.out _).mono ?_
  rintro e w1 ⟨v,rfl,hr,hb1⟩;obtain ⟨la,lc,ma,mc,rfl, -⟩:=hr.inv;have HR:=h_ hr;have hk:=((Blk.new w 41 #[.int .i64 0,.bool false,.int .i64 0,.string ⟨#[]⟩,.slice none 0 0,.slice none 0 0]).keep hb0).keep hb1;have HK:=h_ hk;have k0:=((hk).cell 0:_=some _);have k1:=((hk).cell 1:_=some _);have k2:=((hk).cell 2:_=some _);have k3:=((hk).cell 3:_=some _);have k4:=((hk).cell 4:_=some _);have k5:=((hk).cell 5:_=some _);have f0:=(hk).frozen 0;have f1:=(hk).frozen 1;have f2:=(hk).frozen 2;have f3:=(hk).frozen 3;have f4:=(hk).frozen 4;have f5:=(hk).frozen 5;have HB:=h_ (Below.next (Below.next (Below.new _ _) hb0) hb1);clear hr hb1 hk hb0;go_wp2_with fail
  exact ret_cell2 rfl rfl rfl ((((((HK.out.set_ 0 _).set_ 1 _).set_ 2 _).set_ 3 _).set_ 4 _).set_ 5 _) Tryz.underlying41 val_size rfl ⟨_,by rw [HP.out.2];rfl,fun w2 S=>by rw [HP.out.1];exact Leaf.any HR.out rfl rfl,set6_below (o:=0) HB.out (by omega)⟩
 | none=>
  have HP:=h_ (parse_over (s:=s) (by rw [parseT,if_neg hz,if_neg ht,if_neg hf,<-hnb,hi];rfl));have CI:=h_ (fun w2 h2=>tparseInt_over s hs hnb.symm hi w2 h2);clear hz ht hf hnb hi
  go_enter Tryz.func113,Tryz.ntmps113
  go_wp2_with fail
  refine (CN.out _).mono ?_
  rintro e w0 ⟨rfl,rfl⟩;go_wp2_with fail
  refine (CI.out _ (HV.out.keep (Below.new _ _))).mono ?_
  rintro e w0 ⟨n,N,rfl,hb0⟩;have hk:=(Blk.new w 41 #[.int .i64 0,.bool false,.int .i64 0,.string ⟨#[]⟩,.slice none 0 0,.slice none 0 0]).keep hb0;have HK:=h_ hk;have k0:=((hk).cell 0:_=some _);have k1:=((hk).cell 1:_=some _);have k2:=((hk).cell 2:_=some _);have k3:=((hk).cell 3:_=some _);have k4:=((hk).cell 4:_=some _);have k5:=((hk).cell 5:_=some _);have f0:=(hk).frozen 0;have f1:=(hk).frozen 1;have f2:=(hk).frozen 2;have f3:=(hk).frozen 3;have f4:=(hk).frozen 4;have f5:=(hk).frozen 5;have HB:=h_ (Below.next (Below.new _ _) hb0);clear hk hb0;go_wp2_with fail
  exact ret_cell2 rfl rfl rfl ((((((HK.out.set_ 0 _).set_ 1 _).set_ 2 _).set_ 3 _).set_ 4 _).set_ 5 _) Tryz.underlying41 val_size rfl ⟨_,by rw [HP.out.2];rfl,fun w2 S=>by rw [HP.out.1];exact rep_zero _ _,set6_below (o:=0) HB.out (by omega)⟩
end Go.Proofs.YtnblmhfgmehnnaaGreatDoor
namespace Go.Proofs.YtnblmhfgmehnnaaGreatDoor
open Go.RowKit
theorem clos_nil (q:Bool):clos q []=none:=by cases q <;>simp [clos]
theorem clos_q1 (r:LB_):clos false (34::r)=(clos true r).map (·+1):=by
 cases r with
 | nil=>simp [clos]
 | cons b l=>exact clos_quote (by simp)
theorem clos_q2 (r:LB_):clos true (34::r)=(clos false r).map (·+1):=by
 cases r with
 | nil=>simp [clos]
 | cons b l=>exact clos_unquote (by simp)
theorem clos_q3 {a:UInt8} (r:LB_) (h1:a≠34) (h2:a≠92):clos true (a::r)=(clos true r).map (·+1):=by
 cases r with
 | nil=>simp [clos]
 | cons b l=>exact clos_in h1 h2 (by simp)
theorem clos_q4 (r:LB_):clos true (92::r)=(clos true (r.drop 1)).map (·+2):=by
 cases r with
 | nil=>simp [clos]
 | cons b l=>exact clos_back
theorem clos_q5 {a:UInt8} (r:LB_) (h1:a≠34) (h2:Lib.hasPrefix (a::r) [125,125]=false):clos false (a::r)=(clos false r).map (·+1):=by
 cases r with
 | nil=>simp [clos]
 | cons b l=>
  rw [clos,if_neg,if_neg h1];rintro ⟨rfl,rfl⟩
  simp [Lib.hasPrefix,List.isPrefixOf] at h2
theorem clos_q6 {l:LB_} (h2:Lib.hasPrefix l [125,125]=true):clos false l=some 0:=by
 match l,h2 with
 | a::b::l,h2=>
  simp [Lib.hasPrefix,List.isPrefixOf] at h2
  rw [clos,if_pos ⟨h2.1.symm,h2.2.symm⟩]
 | [a],h2=>simp [Lib.hasPrefix,List.isPrefixOf] at h2
 | [],h2=>simp [Lib.hasPrefix,List.isPrefixOf] at h2
def closI (k:Nat):Option Nat->Int
 | none=> -1
 | some e=>((e+k:Nat):Int)
def ClosAt (s:ByteArray) (k i:Nat) (q:Bool):Prop:=k<=i/\clos false (s.data.toList.drop k)=(clos q (s.data.toList.drop i)).map (·+(i - k))
theorem ClosAt.step {s:ByteArray} {k i j:Nat} {q q':Bool} (h:ClosAt s k i q) (hj:i<=j) (e:clos q (s.data.toList.drop i)=(clos q' (s.data.toList.drop j)).map (·+(j - i))):ClosAt s k j q':=by
 refine ⟨by have:=h.1;omega,?_⟩
 have h1:=h.1;rw [h.2,e,map_map]
 congr 1;funext x;omega
theorem ClosAt.done {s:ByteArray} {k i:Nat} {q:Bool} (h:ClosAt s k i q) (hi:s.size<=i):closI k (clos false (s.data.toList.drop k))= -1:=by
 rw [h.2,drop_end hi,clos_nil];rfl
theorem ClosAt.found {s:ByteArray} {k i:Nat} (h:ClosAt s k i false) (hp:Lib.hasPrefix (s.data.toList.drop i) [125,125]=true):closI k (clos false (s.data.toList.drop k))=(i:Int):=by
 have h1:=h.1;rw [h.2,clos_q6 hp]
 show ((0+(i - k)+k:Nat):Int)=i
 omega
theorem ext_list {s:ByteArray} {k:Nat}:(s.extract k s.size).data.toList=s.data.toList.drop k:=Lib.extract_to_end s k
theorem tclosed (s:ByteArray) (k:Nat) (hk:k<=s.size) (hs:s.size<=1000000) (w:World):
  Calls Tryz.prog 52 #[.string s,.int .i64 k] w fun e w'=>e=.returned (.int .i64 (closI k (clos false (s.data.toList.drop k))))/\w=w':=by
 obtain ⟨r,hr⟩:∃ r,r=closI k (clos false (s.data.toList.drop k)):=⟨_,rfl⟩;rw [<-hr];have HR:=h_ hr;clear hr
 go_enter Tryz.func52,Tryz.ntmps52
 go_wp2_with fail
 go_loop [5] (fun i=>∃ q:Nat,q<=s.size+2/\i=.int .i64 q/\Hid (ClosAt s k q false)) (fun i=>s.size+2 - (intOf i).toNat)
 case atStart=>exact ⟨k,by omega,rfl,⟨Nat.le_refl _,by simp⟩⟩
 case round=>
  obtain ⟨q,hq,rfl,hc⟩:=hrel;have HC:=h_ hc.out;clear hc
  by_cases hlt:q < s.size
  ·have h0:(0:Int)<=q:=by omega
   have h1:(q:Int)<=s.size:=by omega
   go_wp2_with fail
   refine (Tryz.strings_HasPrefix _ _ _).mono ?_
   rintro e w' ⟨rfl,rfl⟩;rw [ext_list];have HB:=h_ (byte_list hlt)
   cases hp:Lib.hasPrefix (s.data.toList.drop q) [125,125] with
   | true=>
    have HF:=h_ (HC.out.found hp);clear hp;go_wp2_with fail;go_ret
    exact ⟨by rw [HR.out,HF.out];rfl,rfl⟩
   | false=>
    have HP:=h_ hp;clear hp
    have hq2:(q:Int) < s.size:=by omega
    have h256:=UInt8.toNat_lt s[q]
    by_cases h34:s[q]=34
    ·have g34:((s[q].toNat:Int)==34)=true:=by rw [h34];rfl
     have HI:=h_ (show ClosAt s k (q+1) true from HC.out.step (by omega) (by rw [HB.out,h34,clos_q1];congr 1;funext x;omega));clear h34;go_wp2_with fail
     go_loop [5] (fun i=>∃ j:Nat,q < j/\j<=s.size+1/\i=.int .i64 j/\Hid (ClosAt s k j true)) (fun i=>s.size+1 - (intOf i).toNat)
     case atStart=>exact ⟨q+1,by omega,by omega,by go_num,HI.out⟩
     case round=>
      obtain ⟨j,hqj,hj,rfl,hcj⟩:=hrel;have HJ:=h_ hcj.out;clear hcj HI HB HP
      by_cases hlj:j < s.size
      ·have hj2:(j:Int) < s.size:=by omega
       have h256j:=UInt8.toNat_lt s[j];have HBJ:=h_ (byte_list hlj)
       by_cases h3:s[j]=34
       ·have g3:((s[j].toNat:Int)==34)=true:=by rw [h3];rfl
        have g3':((s[j].toNat:Int) !=34)=false:=by rw [h3];rfl
        have HI:=h_ (show ClosAt s k (j+1) false from HJ.out.step (by omega) (by rw [HBJ.out,h3,clos_q2];congr 1;funext x;omega));clear h3;go_wp2_with fail
        go_round
        case rel=>exact ⟨j+1,by omega,by go_num,HI.out⟩
        case measure=>simp [intOf];omega
       ·have g3:((s[j].toNat:Int)==34)=false:=bf_ (fun h=>h3 (UInt8.toNat_inj.1 (by show _=34;omega)))
        have g3':((s[j].toNat:Int) !=34)=true:=bne_iff_ne.2 (fun h=>h3 (UInt8.toNat_inj.1 (by show _=34;omega)))
        by_cases h9:s[j]=92
        ·have g9:((s[j].toNat:Int)==92)=true:=by rw [h9];rfl
         have HI:=h_ (show ClosAt s k (j+2) true from HJ.out.step (by omega) (by rw [HBJ.out,h9,clos_q4,List.drop_drop];congr 1;funext x;omega));clear h3 h9;go_wp2_with fail
         go_round
         case rel=>exact ⟨j+2,by omega,by omega,by go_num,HI.out⟩
         case measure=>simp [intOf];omega
        ·have g9:((s[j].toNat:Int)==92)=false:=bf_ (fun h=>h9 (UInt8.toNat_inj.1 (by show _=92;omega)))
         have HI:=h_ (show ClosAt s k (j+1) true from HJ.out.step (by omega) (by rw [HBJ.out,clos_q3 _ h3 h9];congr 1;funext x;omega));clear h3 h9;go_wp2_with fail
         go_round
         case rel=>exact ⟨j+1,by omega,by omega,by go_num,HI.out⟩
         case measure=>simp [intOf];omega
      ·have HI:=h_ (show ClosAt s k (j+1) false from HJ.out.step (by omega) (by rw [drop_end (by omega),drop_end (by omega),clos_nil,clos_nil];rfl))
       go_wp2_with fail
       go_round
       case rel=>exact ⟨j+1,by omega,by go_num,HI.out⟩
       case measure=>simp [intOf];omega
    ·have g34:((s[q].toNat:Int)==34)=false:=bf_ (fun h=>h34 (UInt8.toNat_inj.1 (by show _=34;omega)))
     have HI:=h_ (show ClosAt s k (q+1) false from HC.out.step (by omega) (by rw [HB.out,clos_q5 _ h34 (by rw [<-HB.out];exact HP.out)];congr 1;funext x;omega));clear h34;go_wp2_with fail
     go_round
     case rel=>exact ⟨q+1,by omega,by go_num,HI.out⟩
     case measure=>simp [intOf];omega
  ·go_wp2_with fail
   go_ret
   exact ⟨by rw [HR.out,HC.out.done (by omega)];rfl,rfl⟩
end Go.Proofs.YtnblmhfgmehnnaaGreatDoor
namespace Go.Proofs.YtnblmhfgmehnnaaGreatDoor
open Go.RowKit
attribute [local go_sem ↓] Go.wp_at_zero Go.wp_at_succ
theorem tok_info:(Tryz.prog.info? 102).map (fun i=>(i.zero,i.size,i.bytes))=some (some (.agg #[.bool false,.string ⟨#[]⟩,.int .i64 0]),3,32):=by kernel_rfl
def eltK:Elt Tok where
 ty:=102
 slt:=71
 sz:=3
 bytes:=32
 zero:=.agg #[.bool false,.string ⟨#[]⟩,.int .i64 0]
 R _ _ cs x:=cs=[.bool x.act,.string ⟨x.s.toArray⟩,.int .i64 x.at_]/\x.s.length<=1000000
 len h:=by rw [h.1];rfl
 one h:=by
  intro u hu;rw [h.1] at hu
  simp only [List.mem_cons,List.not_mem_nil,or_false] at hu
  rcases hu with rfl | rfl | rfl <;>rfl
 mono h _ _:=h
 pos:=by decide
 hund:=Tryz.underlying71
 hinfo:=tok_info
 hzero:=rfl
theorem add_none' (b o i:Nat):(⟨b,o,none⟩:Addr).add i=⟨b,o+i,none⟩:=by unfold Addr.add;split <;>simp_all
def AddPost (w:World) (B:Nat) (l:List Tok) (e:Ending) (w':World):Prop:=
 ∃ A' c',e=.returned (.slice A' l.length c')/\OwnE eltK w' B (fun _=>False) A' c' l/\Below B w w'
theorem blanks_ascii:∀ (j:Nat) b,(⟨#[32,9,10]⟩:ByteArray).data.toList[j]? =some b->b.toNat < 128:=Go.Proofs.ascii_of_all (by decide)
theorem ttrim (s:ByteArray) (w:World) (hs:s.size<=1000000):Calls Tryz.prog 55 #[.string s,.string ⟨#[32,9,10]⟩] w fun e w'=>e=.returned (.string ⟨(Lib.trimS s.data.toList blanks).toArray⟩)/\Below w.heap.size w w':=
 Any.strings_Trim_laid Tryz.lays160 (by kernel_rfl) s _ w (by omega) (by decide) blanks_ascii
theorem ttrimL (s:ByteArray) (w:World):Calls Tryz.prog 50 #[.string s,.string ⟨#[32,9,10]⟩] w fun e w'=>e=.returned (.string ⟨(Lib.trimLeftS s.data.toList blanks).toArray⟩)/\Below w.heap.size w w':=
 Any.strings_TrimLeft_laid Tryz.lays161 (by kernel_rfl) s _ w (by decide) blanks_ascii
theorem ttrimR (s:ByteArray) (w:World) (hs:s.size<=1000000):Calls Tryz.prog 53 #[.string s,.string ⟨#[32,9,10]⟩] w fun e w'=>e=.returned (.string ⟨(Lib.trimRightS s.data.toList blanks).toArray⟩)/\Below w.heap.size w w':=
 Any.strings_TrimRight_laid Tryz.lays162 (by kernel_rfl) s _ w (by omega) (by decide) blanks_ascii
theorem tok_append {w:World} {B:Nat} {A:OA_} {c:Nat} {l:List Tok} {x:Tok} (hl:OwnE eltK w B (fun _=>False) A c l) (hn:l.length<=1000000) (hs:x.s.length<=1000000) (hB:B<=w.heap.size):
  ∃ A' c' w',(Builtin.append_ #[71,71] 71 #[.slice A l.length c,.slice (some ⟨w.heap.size+1,0,none⟩) 1 1]).run Tryz.prog ((w.alloc (.cells #[.bool x.act,.string ⟨x.s.toArray⟩,.int .i64 x.at_] 102)).alloc (.cells #[.bool x.act,.string ⟨x.s.toArray⟩,.int .i64 x.at_] 102))=.ok (.slice A' (l++[x]).length c') w'/\
   OwnE eltK w' B (fun _=>False) A' c' (l++[x])/\Below B w w':=by
 have hb2:=(Below.new w (.cells #[.bool x.act,.string ⟨x.s.toArray⟩,.int .i64 x.at_] 102)).alloc (by simp) (.cells #[.bool x.act,.string ⟨x.s.toArray⟩,.int .i64 x.at_] 102)
 obtain ⟨A',c',w',h1,h2,h3⟩:=own_append (l2:=[x]) (es:=[.bool x.act,.string ⟨x.s.toArray⟩,.int .i64 x.at_]) (ad:=⟨w.heap.size+1,0,none⟩) (cc:=1) (ty:=71) (t:=71) rfl (hl.keep hb2) (by show (l.length+1)*32<=_;omega) (by show l.length+1<=_;unfold maxLen;omega) (by have:=hb2.size;omega) rfl
  (fun j u hu=>by
   rw [add_none'];rw [(Blk.new_at (w.alloc (.cells #[.bool x.act,.string ⟨x.s.toArray⟩,.int .i64 x.at_] 102)) 102 #[.bool x.act,.string ⟨x.s.toArray⟩,.int .i64 x.at_] (n:=w.heap.size+1) (by simp)).cell]
   simpa using hu)
  (fun i hi=>by
   have:i=0:=by simpa using hi
   subst this
   exact ⟨rfl,hs⟩)
 refine ⟨A',c',w',h1,h2,?_⟩
 have hg:∀ g,Value.ownBlock (.slice A l.length c)=some g->B<=g:=fun g e=>(hl.own g e).1
 exact (hb2.mono hB).trans ⟨h3.os,h3.tape,h3.output,h3.size,fun b hb=>h3.block b (by have:=hb2.size;omega) (fun e=>by have:=hg b e.symm;omega)⟩
theorem tadd (B:Nat) (A:OA_) (c:Nat) (l:List Tok) (s:LB_) (k:Nat) (w:World) (hl:OwnE eltK w B (fun _=>False) A c l) (hn:l.length<=1000000) (hs:s.length<=1000000) (hB:B<=w.heap.size):
  Calls Tryz.prog 51 #[.slice A l.length c,.agg #[.bool false,.string ⟨s.toArray⟩,.int .i64 k]] w (AddPost w B (l++txt s k)):=by
 by_cases h0:s=[]
 ·subst h0
  have HL:=h_ hl;clear hl
  have e0:((⟨#[]⟩:ByteArray)==⟨#[]⟩)=true:=by decide
  go_enter Tryz.func51,Tryz.ntmps51
  go_wp2_with fail;go_ret
  exact ⟨A,c,by simp [txt],by simpa [txt] using HL.out.keep (Below.new _ _),(Below.refl _ _).alloc hB _⟩
 ·have HL:=h_ hl
  clear hl
  have e0:s.toArray.toList.isEmpty=false:=by simpa using h0
  have HS:=h_ h0;clear h0;obtain ⟨A',c',w',hrun,hown,hgr⟩:=tok_append (x:=⟨false,s,k⟩) HL.out hn hs hB;have HO:=h_ hown;have HG:=h_ hgr;clear hown hgr
  go_enter Tryz.func51,Tryz.ntmps51
  go_wp2_with (at_builtin;refine wpList_append_run rfl (.tmp 9) (.tmp 11) 71 rfl hrun rfl rfl ?_)
  go_ret
  exact ⟨A',c',by simp [txt,HS.out],by simpa [txt,HS.out] using HO.out,HG.out⟩
def StrPost (w:World) (l:LB_) (e:Ending) (w':World):Prop:=∃ v:ByteArray,e=.returned (.string v)/\v.data.toList=l/\Below w.heap.size w w'
theorem strPost {p:Program} {n:Nat} {args:Array Value} {w:World} {l:LB_} (h:Calls p n args w fun e w'=>e=.returned (.string ⟨l.toArray⟩)/\Below w.heap.size w w'):Calls p n args w (StrPost w l):=
 h.mono fun _ _ ⟨he,hb⟩=>⟨_,he,rfl,hb⟩
theorem addv (B:Nat) (A:OA_) (c:Nat) (l:List Tok) (v:ByteArray) (k:Nat) (w:World) (hl:OwnE eltK w B (fun _=>False) A c l) (hn:l.length<=1000000) (hs:v.size<=1000000) (hB:B<=w.heap.size):
  Calls Tryz.prog 51 #[.slice A l.length c,.agg #[.bool false,.string v,.int .i64 k]] w (AddPost w B (l++txt v.data.toList k)):=tadd B A c l v.data.toList k w hl hn (by simpa using hs) hB
theorem tprefix (s p:ByteArray) (w:World):Calls Tryz.prog 40 #[.string s,.string p] w fun e w'=>e=.returned (.bool (Lib.hasPrefix s.data.toList p.data.toList))/\w=w':=(Tryz.strings_HasPrefix s p w).mono fun _ _ h=>⟨h.1,h.2.symm⟩
theorem tsuffix (s p:ByteArray) (w:World) (hs:s.size<=1000000):Calls Tryz.prog 54 #[.string s,.string p] w fun e w'=>e=.returned (.bool (Lib.hasSuffix s.data.toList p.data.toList))/\w=w':=(Tryz.strings_HasSuffix s p w (by omega)).mono fun _ _ h=>⟨h.1,h.2.symm⟩
def braceI:Option Nat->Int
 | none=> -1
 | some o=>o
theorem tindex (s:ByteArray) (m:Int) (w:World) (hs:s.size<=1000000) (hm:w.cell? ⟨0,0,none⟩=some (.int .i64 m)):
  Calls Tryz.prog 49 #[.string s,.string ⟨#[123,123]⟩] w fun e w'=>e=.returned (.int .i64 (braceI (find2 123 s.data.toList)))/\w=w':=by
 have h:=Tryz.strings_Index s ⟨#[123,123]⟩ m w (by omega) hm;have e:Lib.index s.data.toList (⟨#[123,123]⟩:ByteArray).data.toList=braceI (find2 123 s.data.toList):=(find2_index 123 _).trans (by cases find2 123 s.data.toList <;>rfl);rw [e] at h
 exact h.mono fun _ _ h=>⟨h.1,h.2.symm⟩
end Go.Proofs.YtnblmhfgmehnnaaGreatDoor
namespace Go.Proofs.YtnblmhfgmehnnaaGreatDoor
open Go.RowKit
section
variable {P:Program} {ops:Array Oper} {Q:Exit->Act->World->Prop} {md:Region.Mode}
def got (listed:Array Bool) (j:Nat):Bool:=listed.getD j false
def backward (ops:Array Oper):Bool:=(List.range ops.size).all fun i=>((ops[i]?).map fun o=>o.after.all fun e=>decide (e.on < i)).getD true
theorem all_done {listed:Array Bool} (hz:listed.size=ops.size) (hb:backward ops=true) (hr:Region.ready md ops listed=[]):∀ j,j < ops.size->got listed j=true:=by
 intro j
 induction j using Nat.strongRecOn with
 | _ j ih=>
  intro hj
  cases hg:got listed j with
  | true=>rfl
  | false=>
   have ho:ops[j]? =some ops[j]:=Array.getElem?_eq_getElem hj;have hback:=List.all_eq_true.1 hb j (List.mem_range.2 hj);rw [ho] at hback
   have hmem:j ∈ Region.ready md ops listed:=mem_ready.2 ⟨by
    unfold got at hg;rw [Array.getD_eq_getD_getElem?] at hg ⊢;rw [Array.getElem?_eq_getElem (by omega)] at hg ⊢
    exact hg,_,ho,fun e he _=>by
     have h1:e.on < j:=by
      simp only [Option.map_some,Option.getD_some] at hback
      exact of_decide_eq_true (Array.all_eq_true_iff_forall_mem.1 hback e he)
     exact ih _ h1 (by omega)⟩
   rw [hr] at hmem
   cases hmem
end
section
variable {O O':Nat->Nat} {w w':World} {g:Option Nat}
end
section
variable {P:Program} {ops:Array Oper} {Q:Exit->Act->World->Prop} {md:Region.Mode} {S:World->Prop}
def lastWaits (md:Region.Mode) (ops:Array Oper) (o:Oper):Bool:=(List.range ops.size).all fun j=>(o.after.any fun e=>Region.binds md e && e.on==j) ||
 (List.range ops.size).any fun i=>decide (j < i) && ((ops[i]?).map fun oi=>oi.after.any fun e=>Region.binds md e && e.on==j).getD false
def Closed (md:Region.Mode) (ops:Array Oper) (listed:Array Bool):Prop:=∀ (i:Nat) (oi:Oper),ops[i]? =some oi->listed.getD i false=true->∀ e ∈ oi.after,Region.binds md e=true->listed.getD e.on false=true
def guardsLow (n:Nat) (l:List Oper):Bool:=l.all fun o=>match o.guard with | some (j,_)=>decide (j < n) | none=>true
def LastQ (P:Program) (ops:Array Oper) (n:Nat) (Q:Exit->Act->World->Prop):Exit->Act->World->Prop
 | .normal,a,w=>wpOp P ops Q n (Q .normal) a w
 | e,a,w=>Q e a w
theorem wpAny_nil {f:Nat} {listed:Array Bool} {a:Act} {w:World} (h:Region.ready md ops listed=[]) (hq:Q .normal a w):wpAny P md ops Q f listed a w:=by
 cases f with
 | zero=>exact ⟨h,hq⟩
 | succ f=>exact ⟨fun _=>hq,by rw [h];simp⟩
theorem Oper.wp_lastQ {o:Oper} {K:Act->World->Prop} {a:Act} {w:World} {ops':Array Oper} {n:Nat} (h:o.wp P a w K (LastQ P ops' n Q)):o.wp P a w K Q:=by
 unfold Oper.wp at*
 generalize (execOp a.eval o).run P w=r at*
 have lets:LetsOut (LastQ P ops' n Q)->LetsOut Q:=fun ⟨a,w,h⟩=>⟨a,w,h⟩
 cases r with
 | ok n w'=>
  cases n <;>simp only [Oper.upon] at h ⊢ <;>
   first
    | exact h
    | exact Calls.mono h (fun e w'' he=>by cases e <;>first | exact he | exact lets he)
    | exact lets h
 | halt x w'=>cases x <;>simp only [Oper.upon] at h ⊢ <;>first | exact h | exact lets h
theorem yielded_push {o:Oper} {t:Array Value} {j:Nat} (h:j < ops.size):yielded (ops.push o) t j=yielded ops t j:=by
 unfold yielded;rw [Array.getElem?_push_lt h,Array.getElem?_eq_getElem h]
theorem ready_push {o:Oper} {listed:Array Bool} (hz:listed.size=ops.size) (hb:backward ops=true) {i:Nat} (hi:i < ops.size):
  i ∈ Region.ready md (ops.push o) (listed.push false) ↔ i ∈ Region.ready md ops listed:=by
 have hgt:∀ j,j < ops.size->∀ b,(listed.push false).getD j b=listed.getD j b:=fun j hj b=>by
  rw [Array.getD_eq_getD_getElem?,Array.getD_eq_getD_getElem?,Array.getElem?_push_lt (by omega),Array.getElem?_eq_getElem (by omega)]
 have hback:∀ oj,ops[i]? =some oj->∀ e ∈ oj.after,e.on < i:=fun oj ho e he=>by
  have h:=List.all_eq_true.1 hb i (List.mem_range.2 hi);rw [ho] at h
  simp only [Option.map_some,Option.getD_some] at h
  exact of_decide_eq_true (Array.all_eq_true_iff_forall_mem.1 h e he)
 rw [mem_ready,mem_ready,hgt i hi,Array.getElem?_push_lt hi,Array.getElem?_eq_getElem hi]
 constructor
 ·rintro ⟨h1,oj,ho,h⟩
  refine ⟨h1,oj,ho,fun e he hbd=>?_⟩
  have:=h e he hbd
  rwa [hgt e.on (by have:=hback oj (by rw [Array.getElem?_eq_getElem hi];exact ho) e he;omega)] at this
 ·rintro ⟨h1,oj,ho,h⟩
  refine ⟨h1,oj,ho,fun e he hbd=>?_⟩
  rw [hgt e.on (by have:=hback oj (by rw [Array.getElem?_eq_getElem hi];exact ho) e he;omega)]
  exact h e he hbd
theorem backward_of_push {o:Oper} (h:backward (ops.push o)=true):backward ops=true:=by
 refine List.all_eq_true.2 fun i hi=>?_
 have hi:=List.mem_range.1 hi
 have:=List.all_eq_true.1 h i (List.mem_range.2 (by rw [Array.size_push];omega))
 rwa [Array.getElem?_push_lt hi,<-Array.getElem?_eq_getElem hi] at this
theorem wpAny_last {o:Oper} (hbp:backward (ops.push o)=true) (hl:lastWaits md ops o=true) (hg:guardsLow ops.size ops.toList=true):
  ∀ (fuel:Nat) (listed:Array Bool) (a:Act) (w:World),listed.size=ops.size->Closed md ops listed->wpAny P md ops (LastQ P (ops.push o) ops.size Q) fuel listed a w->
   wpAny P md (ops.push o) Q (fuel+1) (listed.push false) a w:=by
 have hb:=backward_of_push hbp
 have hwait:∀ (listed:Array Bool),Closed md ops listed->(∀ e ∈ o.after,Region.binds md e=true->listed.getD e.on false=true)->∀ k j,ops.size - j<=k->j < ops.size->listed.getD j false=true:=by
  intro listed hc ho k
  induction k with
  | zero=>intro j hk hj;omega
  | succ k ih=>
   intro j hk hj;have h:=List.all_eq_true.1 hl j (List.mem_range.2 hj);rw [Bool.or_eq_true] at h
   rcases h with h | h
   ·rw [Array.any_eq_true'] at h
    obtain ⟨e,he,h⟩:=h
    simp only [Bool.and_eq_true,beq_iff_eq] at h
    have:=ho e he h.1
    rwa [h.2] at this
   ·obtain ⟨i,hi,h⟩:=List.any_eq_true.1 h
    have hi:=List.mem_range.1 hi
    simp only [Bool.and_eq_true,decide_eq_true_eq] at h
    obtain ⟨hji,h⟩:=h;have hoi:ops[i]? =some ops[i]:=Array.getElem?_eq_getElem hi;rw [hoi] at h
    simp only [Option.map_some,Option.getD_some] at h
    rw [Array.any_eq_true'] at h;obtain ⟨e,he,h⟩:=h
    simp only [Bool.and_eq_true,beq_iff_eq] at h
    have:=hc i _ hoi (ih i (by omega) hi) e he h.1
    rwa [h.2] at this
 have hon:(ops.push o)[ops.size]? =some o:=by simp
  -- all others have come up
 have fin:∀ (fuel:Nat) (listed:Array Bool) (a:Act) (w:World),listed.size=ops.size->Region.ready md ops listed=[]->LastQ P (ops.push o) ops.size Q .normal a w->
   wpAny P md (ops.push o) Q (fuel+1) (listed.push false) a w:=by
  intro fuel listed a w hz hr hq;have hd:=all_done hz hb hr
  have hmem:∀ i,i ∈ Region.ready md (ops.push o) (listed.push false)->i=ops.size:=fun i hi=>by
   obtain ⟨h1,oi,ho, -⟩:=mem_ready.1 hi;have hlt:=(Array.getElem?_eq_some_iff.1 ho).1;rw [Array.size_push] at hlt
   rcases Nat.lt_or_ge i ops.size with h | h
   ·have:=hd i h
    unfold got at this;rw [Array.getD_eq_getD_getElem?] at this h1;rw [Array.getElem?_push_lt (by omega)] at h1;rw [Array.getElem?_eq_getElem (by omega)] at this
    simp at h1 this
    rw [h1] at this;cases this
   ·omega
  refine ⟨fun h=>?_,fun i hi=>?_⟩
  ·exfalso
   have:ops.size ∈ Region.ready md (ops.push o) (listed.push false):=mem_ready.2 ⟨by
    rw [Array.getD_eq_getD_getElem?,<-hz];simp,o,hon,fun e he hbd=>?_⟩
   ·rw [h] at this;cases this
   ·rcases Nat.lt_or_ge e.on ops.size with hlt | hge
    ·have hx:=hd e.on hlt
     unfold got at hx;rw [Array.getD_eq_getD_getElem?] at hx ⊢;rw [Array.getElem?_push_lt (by omega)];rw [Array.getElem?_eq_getElem (by omega)] at hx
     simpa using hx
    ·exfalso
     have hbo:=List.all_eq_true.1 hbp ops.size (List.mem_range.2 (by simp));rw [hon] at hbo
     simp only [Option.map_some,Option.getD_some] at hbo
     have:=of_decide_eq_true (Array.all_eq_true_iff_forall_mem.1 hbo e he)
     omega
  ·obtain rfl:=hmem i hi
   refine wpOp_mono (fun a' w' hq'=>wpAny_nil ?_ hq') hq
   refine List.eq_nil_iff_forall_not_mem.2 fun i hi=>?_
   obtain ⟨h1,oi,ho, -⟩:=mem_ready.1 hi;have hlt:=(Array.getElem?_eq_some_iff.1 ho).1;rw [Array.size_push] at hlt
   rcases Nat.lt_or_ge i ops.size with h | h
   ·have:=hd i h
    unfold got at this;rw [Array.getD_eq_getD_getElem?] at this h1;rw [Array.getElem?_setIfInBounds_ne (by omega),Array.getElem?_push_lt (by omega)] at h1;rw [Array.getElem?_eq_getElem (by omega)] at this
    simp at h1 this
    rw [h1] at this;cases this
   ·obtain rfl:i=ops.size:=by omega
    rw [Array.getD_eq_getD_getElem?,Array.getElem?_setIfInBounds_self] at h1
    simp [hz] at h1
 intro fuel
 induction fuel with
 | zero=>intro listed a w hz _ h;exact fin 0 listed a w hz h.1 h.2
 | succ fuel ih=>
  intro listed a w hz hcl h
  by_cases hr:Region.ready md ops listed=[]
  ·exact fin _ listed a w hz hr (h.1 hr)
  ·refine ⟨fun h0=>?_,fun i hi=>?_⟩
   ·obtain ⟨x,hx⟩:=List.exists_mem_of_ne_nil _ hr
    have hlt:x < ops.size:=by
     obtain ⟨-,oi,ho, -⟩:=mem_ready.1 hx
     exact (Array.getElem?_eq_some_iff.1 ho).1
    have:=(ready_push (o:=o) hz hb hlt).2 hx
    rw [h0] at this;cases this
   ·obtain ⟨h1,oi,ho,hall⟩:=mem_ready.1 hi
    have hlt:=(Array.getElem?_eq_some_iff.1 ho).1;rw [Array.size_push] at hlt
    rcases Nat.lt_or_ge i ops.size with hi' | hi'
    ·have hx:=h.2 i ((ready_push hz hb hi').1 hi)
     unfold wpOp at hx ⊢;rw [Array.getElem?_push_lt hi'] at ho ⊢
     simp only [Option.some.injEq] at ho
     rw [Array.getElem?_eq_getElem hi'] at hx;rw [ho] at hx ⊢
     simp only [] at hx ⊢
     have hwd:Region.wanted oi (yielded (ops.push o) a.tmps)=Region.wanted oi (yielded ops a.tmps):=by
      have hgl:=List.all_eq_true.1 hg oi (by rw [<-ho];exact Array.getElem_mem_toList hi');unfold Region.wanted
      cases hgd:oi.guard with
      | none=>rfl
      | some p=>
       obtain ⟨j,b⟩:=p;rw [hgd] at hgl
       simp only [] at hgl ⊢
       rw [yielded_push (of_decide_eq_true hgl)]
     have hset:(listed.push false).setIfInBounds i true=(listed.setIfInBounds i true).push false:=by
      apply Array.ext_getElem?
      intro k
      rcases Nat.lt_trichotomy k listed.size with hk | hk | hk
      ·by_cases hki:k=i
       ·subst hki
        rw [Array.getElem?_setIfInBounds_self,Array.getElem?_push_lt (by simpa using hk)]
        simp
        omega
       ·rw [Array.getElem?_setIfInBounds_ne (Ne.symm hki),Array.getElem?_push_lt hk,Array.getElem?_push_lt (by simpa using hk)]
        rw [Array.getElem_setIfInBounds_ne (by simpa using hk) (Ne.symm hki)]
      ·subst hk
       rw [Array.getElem?_setIfInBounds_ne (by omega),Array.getElem?_push_size];rw [show listed.size=(listed.setIfInBounds i true).size by simp,Array.getElem?_push_size]
      ·rw [Array.getElem?_eq_none (by simp;omega),Array.getElem?_eq_none (by simp;omega)]
     have hcl2:Closed md ops (listed.setIfInBounds i true):=fun j oj hj hg e he hbd=>by
      by_cases hei:e.on=i
      ·rw [hei,Array.getD_eq_getD_getElem?,Array.getElem?_setIfInBounds_self];simp [hz,hi']
      ·have hold:listed.getD e.on false=true:=by
        by_cases hji:j=i
        ·subst hji
         rw [Array.getElem?_eq_getElem hi'] at hj
         injection hj with hj
         have hall2:=(mem_ready.1 ((ready_push hz hb hi').1 hi)).2;obtain ⟨oi2,hoi2,hall2⟩:=hall2;rw [Array.getElem?_eq_getElem hi'] at hoi2
         injection hoi2 with hoi2
         subst hj;subst hoi2
         exact hall2 e he hbd
        ·refine hcl j oj hj ?_ e he hbd
         rwa [Array.getD_eq_getD_getElem?,Array.getElem?_setIfInBounds_ne (Ne.symm hji),<-Array.getD_eq_getD_getElem?] at hg
       rw [Array.getD_eq_getD_getElem?,Array.getElem?_setIfInBounds_ne (Ne.symm hei),<-Array.getD_eq_getD_getElem?]
       exact hold
     rw [hset,hwd]
     split
     ·rename_i hw
      rw [if_pos hw] at hx
      rcases hx with hx | hx
      ·exact .inl (Oper.wp_mono (fun a' w' h'=>ih _ a' w' (by simpa using hz) hcl2 h') (Oper.wp_lastQ hx))
      ·exact .inr ⟨hx.1,by obtain ⟨a,w,h⟩:=hx.2;exact ⟨a,w,h⟩⟩
     ·rename_i hw
      rw [if_neg hw] at hx
      exact ih _ _ _ (by simpa using hz) hcl2 hx
    ·exfalso
     obtain rfl:i=ops.size:=by omega
     rw [hon] at ho
     injection ho with ho
     subst ho
     have hall3:∀ e ∈ o.after,Region.binds md e=true->listed.getD e.on false=true:=fun e he hbd=>by
      have hx:=hall e he hbd
      have hlt2:e.on < ops.size:=by
       have hbo:=List.all_eq_true.1 hbp ops.size (List.mem_range.2 (by simp));rw [hon] at hbo
       simp only [Option.map_some,Option.getD_some] at hbo
       exact of_decide_eq_true (Array.all_eq_true_iff_forall_mem.1 hbo e he)
      rw [Array.getD_eq_getD_getElem?] at hx ⊢
      rwa [Array.getElem?_push_lt (by omega),<-Array.getElem?_eq_getElem (by omega)] at hx
     apply hr
     refine List.eq_nil_iff_forall_not_mem.2 fun j hj=>?_
     obtain ⟨g1,oj,hoj, -⟩:=mem_ready.1 hj;have hjl:=(Array.getElem?_eq_some_iff.1 hoj).1;have hx:=hwait listed hcl hall3 ops.size j (by omega) hjl;rw [Array.getD_eq_getD_getElem?] at hx g1;rw [Array.getElem?_eq_getElem (by omega)] at g1 hx
     simp at hx g1
     rw [hx] at g1;cases g1
def tailOk (n:Nat) (l:List Oper):Bool:=decide (l.length=n+1) && (backward l.toArray && (lastWaits .any l.dropLast.toArray (l.getLastD default) && guardsLow n l.dropLast))
theorem wp_region_tail {id:Nat} {l:List Oper} {a:Act} {w:World} (n:Nat) (ht:tailOk n l=true) (hm:P.follows .mixedOrders=true) (hS:S w.drew)
  (h:S w.drew->wpAnyH P .any l.dropLast.toArray (LastQ P l.toArray n Q) S n (Array.replicate n false) a w.drew):(Code.region id l.toArray true).wp P Q a w:=by
 unfold tailOk at ht
 simp only [Bool.and_eq_true] at ht
 obtain ⟨h1,hb,hl,hg⟩:=ht;have h1:=of_decide_eq_true h1
 have hne:l≠[]:=fun e=>by rw [e] at h1;simp at h1
 obtain ⟨ops,o,rfl⟩:∃ ops o,l=ops++[o]:=⟨l.dropLast,l.getLast hne,(List.dropLast_concat_getLast hne).symm⟩;rw [List.dropLast_concat] at h hg hl
 obtain rfl:n=ops.length:=by simpa using h1.symm
 rw [show (ops++[o]).getLastD default=o by simp [List.getLastD_eq_getLast?]] at hl
 refine wp_region_any hm ?_
 have hsz:(ops++[o]).toArray=ops.toArray.push o:=by simp
 rw [hsz] at hb h ⊢
 have:=wpAny_last (P:=P) (Q:=Q) (md:=.any) hb (by simpa using hl) (by simpa using hg) ops.length (Array.replicate ops.length false) a w.drew (by simp) (fun i oi _ hg _ _ _=>by rw [Array.getD_eq_getD_getElem?,Array.getElem?_replicate] at hg;split at hg <;>simp at hg) (wpAny_of_held _ _ _ _ (by simpa using h hS))
 rw [Array.size_push,List.size_toArray,show Array.replicate (ops.length+1) false=(Array.replicate ops.length false).push false from Array.replicate_succ]
 exact this
theorem LastQ.step {n:Nat} {o:Oper} {a:Act} {w:World} (ho:ops[n]? =some o)
  (h:∀ K:Act->World->Prop,Shut (∀ a w,Q .normal a w->K a w)->if Region.wanted o (yielded ops a.tmps)=true then Oper.wp P o a w K Q else K (a.put o.dst undef) w):LastQ P ops n Q .normal a w:=
 wpOp_step ho (fun K hK=>h K hK)
end
end Go.Proofs.YtnblmhfgmehnnaaGreatDoor
namespace Go.Proofs.YtnblmhfgmehnnaaGreatDoor
theorem wp_seq_cut {P:Program} {x y:Code} {Q:Exit->Act->World->Prop} {a:Act} {w:World} (h:∀ K:Act->World->Prop,Shut (∀ a w,y.wp P Q a w->K a w)->x.wp P (Exit.then K Q) a w):(Code.seq x y).wp P Q a w:=
 wp_seq (h _ (fun _ _ h=>h))
end Go.Proofs.YtnblmhfgmehnnaaGreatDoor
