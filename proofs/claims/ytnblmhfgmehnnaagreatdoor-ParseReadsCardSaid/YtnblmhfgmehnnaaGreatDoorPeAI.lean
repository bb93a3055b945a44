/- Several texts as one. -/
import Derived.Test.YtnblmhfgmehnnaaGreatDoorPeMv
import Derived.Test.YtnblmhfgmehnnaaGreatDoorPeAG
namespace Go.Proofs.YtnblmhfgmehnnaaGreatDoor
open Go.RowKit Go.Lib
theorem nameT_len (l:LB_):(nameT l).size<=l.length:=by unfold nameT;rw [bs_size,List.length_take];omega
theorem varL_len (s:LB_):(varL s).2.1.length<=s.length/\(varL s).1.size<=s.length:=by
 have h1:=skip_len s;unfold varL
 split
 ·next l hl=>
  rw [hl,List.length_cons] at h1;have h2:=nameT_len l;have h3:=skip_len (nameD l);have h4:=nameD_le l
  exact ⟨by show (skipB (nameD l)).length<=_;omega,by show (nameT l).size<=_;omega⟩
 ·exact ⟨Nat.zero_le _,by show ByteArray.size ⟨#[]⟩<=_;simp [ByteArray.size]⟩
theorem setL_len (s:LB_):(setL s).2.1.length<=s.length/\(setL s).1.size<=s.length:=by
 have h1:=varL_len s
 cases hb:(varL s).2.2 with
 | false=>rw [setL_false hb];exact h1
 | true=>
  rw [setL_true hb]
  refine ⟨?_,h1.2⟩
  show (Lib.trimPrefix (varL s).2.1 [58,61]).length<=_
  unfold Lib.trimPrefix
  split
  ·rw [List.length_drop];omega
  ·exact h1.1
structure Mk.Le (k:Int) (m m':Mk):Prop where
 len:m'.rest.length<=m.rest.length
 low:m.deep<=m'.deep
 sum:m'.deep+m'.rest.length<=m.deep+m.rest.length+k
theorem Mk.Le.refl (m:Mk):Mk.Le 0 m m:=⟨Nat.le_refl _,Int.le_refl _,by omega⟩
theorem Mk.Le.trans {a b c:Mk} {j k:Int} (h:Mk.Le j a b) (g:Mk.Le k b c):Mk.Le (j+k) a c:=⟨Nat.le_trans g.len h.len,Int.le_trans h.low g.low,by have h1:=h.sum;have h2:=g.sum;omega⟩
theorem Mk.Le.fail (m:Mk) (e:Int):Mk.Le 0 m (m.fail e):=⟨by simp [Mk.fail],by simp [Mk.fail],by simp [Mk.fail];omega⟩
theorem mpipe_le (m:Mk) (s:LB_):Mk.Le 0 m (mpipe m s).2:=by
 unfold mpipe
 simp only
 split
 ·exact Mk.Le.refl m
 ·exact Mk.Le.fail m _
theorem headF_le (w s:LB_) (m:Mk):Mk.Le 0 m (headF w s m).2:=by
 unfold headF
 split
 ·exact mpipe_le m s
 ·split
  ·exact mpipe_le m s
  ·split
   ·simp only
    split
    ·exact Mk.Le.fail m _
    ·exact Mk.Le.refl m
   ·simp only
    split
    ·split
     ·exact mpipe_le m _
     ·exact mpipe_le m s
    ·split
     ·exact mpipe_le m _
     ·exact mpipe_le m s
theorem nodes_le (n:Nat):(∀ (out:List Nd) (m:Mk),Mk.Le 0 m (nodesF n out m).2/\((nodesF n out m).1.stop≠[]->(nodesF n out m).2.rest.length < m.rest.length))/\(∀ (w s:LB_) (m:Mk),Mk.Le 1 m (blockF n w s m).2):=by
 induction n with
 | zero=>exact ⟨fun out m=>by rw [nodesF];exact ⟨Mk.Le.refl m,fun h=>absurd rfl h⟩,fun w s m=>by rw [blockF];exact ⟨Nat.le_refl _,Int.le_refl _,by simp only;omega⟩⟩
 | succ n ih=>
  obtain ⟨hn,hb⟩:=ih
  refine ⟨fun out m=>?_,fun w s m=>?_⟩
  ·obtain ⟨rest,d,b⟩:=m
   rw [nodesF]
   simp only
   cases rest with
   | nil=>exact ⟨Mk.Le.refl _,fun h=>absurd rfl h⟩
   | cons t ts=>
    simp only
    have go:∀ (out:List Nd) (m2:Mk),Mk.Le 1 ⟨ts,d,b⟩ m2->Mk.Le 0 ⟨t::ts,d,b⟩ (nodesF n out m2).2/\((nodesF n out m2).1.stop≠[]->(nodesF n out m2).2.rest.length < (t::ts).length):=fun out m2 h2=>by
     have h3:=(hn out m2).1;have h4:=h2.len;have h5:=h2.low;have h6:=h2.sum;have h7:=h3.len;have h8:=h3.low;have h9:=h3.sum
     simp only at h4 h5 h6
     exact ⟨⟨by simp only [List.length_cons];omega,by simp only;omega,by simp only [List.length_cons];omega⟩,fun _=>by simp only [List.length_cons];omega⟩
    have up:∀ m2,Mk.Le 0 ⟨ts,d,b⟩ m2->Mk.Le 1 ⟨ts,d,b⟩ m2:=fun m2 h2=>⟨h2.len,h2.low,by have:=h2.sum;omega⟩
    split
    ·exact go _ _ (up _ (Mk.Le.refl _))
    ·split
     ·exact ⟨⟨by simp,by simp,by simp only [List.length_cons];omega⟩,fun _=>by simp⟩
     ·split
      ·exact go _ _ (hb _ _ _)
      ·split
       ·exact go _ _ (up _ (mpipe_le _ _))
       ·exact go _ _ (up _ (mpipe_le _ _))
  ·obtain ⟨rest,d,b⟩:=m
   rw [blockF]
   simp only
   split
   ·exact ⟨by simp [Mk.fail],by simp [Mk.fail];omega,by simp [Mk.fail];omega⟩
   ·have h1:=headF_le w s ⟨rest,d+1,b⟩
    have h2:=(hn [] (headF w s ⟨rest,d+1,b⟩).2).1;obtain ⟨m3,hm3⟩:∃ z,z=(nodesF n [] (headF w s ⟨rest,d+1,b⟩).2).2:=⟨_,rfl⟩
    have h3:Mk.Le 0 ⟨rest,d+1,b⟩ m3:=by rw [hm3];exact h1.trans h2
    rw [<-hm3]
    have up:∀ m4 k,k<=1->Mk.Le k m3 m4->Mk.Le 1 ⟨rest,d,b⟩ m4.up:=fun m4 k hk h4=>by
     have a1:=h3.len;have a2:=h3.low;have a3:=h3.sum;have a4:=h4.len;have a5:=h4.low;have a6:=h4.sum
     simp only at a1 a2 a3
     exact ⟨by show m4.rest.length<=rest.length;omega,by show d<=m4.deep - 1;omega,by show m4.deep - 1+m4.rest.length<=d+rest.length+1;omega⟩
    split
    ·exact up _ 1 (Int.le_refl _) (hb _ _ _)
    ·split
     ·refine up _ 0 (by omega) ?_
      split
      ·exact ((hn [] m3).1.trans (Mk.Le.fail _ _))
      ·exact (hn [] m3).1
     ·refine up _ 0 (by omega) ?_
      split
      ·exact Mk.Le.fail _ _
      ·exact Mk.Le.refl _
end Go.Proofs.YtnblmhfgmehnnaaGreatDoor
