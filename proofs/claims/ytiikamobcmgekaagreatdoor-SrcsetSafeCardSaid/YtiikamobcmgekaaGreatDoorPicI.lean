/- The walk of a list's pictures, one behind the other: what it leans on. -/
import Derived.Lib.Join
import Derived.Test.YtiikamobcmgekaaGreatDoorShelf
import Derived.Test.YtiikamobcmgekaaGreatDoorPicB
import Derived.Test.YtiikamobcmgekaaGreatDoorPicH
namespace Go.Proofs.YtiikamobcmgekaaGreatDoor
open Go.RowKit Go.Shelf
theorem join_bs (us:List Bs) (sep:Bs):Lib.join us sep=joinBs sep us:=by
 induction us with
 |nil=>rfl
 |cons u us ih=>
  cases us with
  |nil=>simp[Lib.join,List.intercalate,joinBs]
  |cons v vs=>
   rw[joinBs,<-ih]
   simp[Lib.join,List.intercalate]
theorem strjoin_any {W:World} {A:Option Addr} {n c:Nat} (us:List Bs) (sep:Bs) (h:Rd W (.slice A n c) us.length 1 (us.map sv)) (hc:us.length<=c) (hl:(joinBs sep us).length<=140737488355328) (hn:us.length<=140737488355328):
  Calls Tryz.prog 43 #[.slice A n c,.string ⟨sep.toArray⟩] W (Ret (.string ⟨(joinBs sep us).toArray⟩) W):=by
 obtain⟨h1,h2,A',c',he,h4⟩:=h
 cases he
 by_cases h0:us.length=0
 ·obtain rfl:us=[]:=List.eq_nil_of_length_eq_zero h0
  refine(Tryz.strings_Join_none A c _ W).mono ?_
  rintro e w' ⟨rfl,rfl⟩
  exact Ret.same rfl
 ·obtain⟨b,off,rfl,hb,hcell⟩:=h4 (by omega)
  have e1:(us.map fun u=>(⟨u.toArray⟩:ByteArray)).length=us.length:=by simp
  have e2:(us.map fun u=>(⟨u.toArray⟩:ByteArray)).map (·.data.toList)=us:=by
   rw[List.map_map]
   conv=>rhs;rw[<-List.map_id us]
   apply List.map_congr_left
   intro u _
   rfl
  have key:=Tryz.strings_Join b off c (us.map fun u=>(⟨u.toArray⟩:ByteArray)) ⟨sep.toArray⟩ W (fun j x hx=>by
   have hx2:(us.map sv)[j]? =some (.string x):=by
    rw[List.getElem?_map]at hx ⊢
    cases hj:us[j]? with
    |none=>rw[hj]at hx;cases hx
    |some u=>rw[hj]at hx;cases hx;rfl
   exact hcell j _ hx2) hb (by rw[e1];exact hn) (by rw[e1];exact hc) (by rw[e2,join_bs];exact hl)
  rw[e1,e2]at key
  refine key.mono ?_
  rintro e w' ⟨rfl,hB⟩
  refine⟨?_,grow_of_below hB⟩
  show Ending.returned (.string ⟨(Lib.join us sep).toArray⟩)=_
  rw[join_bs]
theorem trimC_lib (l:Bs):Lib.trimRightB l 44=trimC l:=by
 unfold Lib.trimRightB trimC
 congr 2
 funext c
 rw[Bool.eq_iff_iff];simp[<-UInt8.toNat_inj]
theorem trimC_len (l:Bs):(trimC l).length<=l.length:=by
 unfold trimC
 have:=drop_while_len (fun c=>decide (c.toNat=44)) l.reverse
 simp at*;omega
theorem trimC_ends (l:Bs):endsC l=decide (trimC l≠l):=by
 rw[Bool.eq_iff_iff,decide_eq_true_iff]
 unfold endsC trimC
 rw[<-List.head?_reverse]
 have e: ∀m:Bs,(match m.head? with|some c=>decide (c.toNat=44)|none=>false)=true↔(m.dropWhile (fun c=>decide (c.toNat=44))).length≠m.length:=by
  intro m
  cases m with
  |nil=>simp
  |cons c m=>
   have:=drop_while_len (fun c=>decide (c.toNat=44)) m
   by_cases h:c.toNat=44
   ·rw[List.dropWhile_cons_of_pos (by simp[h])];simp[h];omega
   ·rw[List.dropWhile_cons_of_neg (by simp[h])];simp[h]
 refine(e _).trans ?_
 constructor
 ·intro h h2
  apply h
  have:=congrArg List.length h2
  simpa using this
 ·intro h h2
  apply h
  have h3:l.reverse.dropWhile (fun c=>decide (c.toNat=44))=l.reverse:=(List.dropWhile_suffix _).eq_of_length h2
  rw[h3,List.reverse_reverse]
theorem pic_drop (l:Bs):picL (l.dropWhile sepB)=picL l:=by
 induction l with
 |nil=>rfl
 |cons c l ih=>
  cases h:sepB c
  ·rw[List.dropWhile_cons_of_neg (by simp[h])]
  ·rw[List.dropWhile_cons_of_pos h,ih,pic_sep h]
theorem wordsJ_len (l:Bs):(joinBs [32] (wordsL l)).length<=l.length:=by
 suffices H: ∀l acc,(joinBs [32] (wordsA acc l)).length<=l.length+acc.length by
  have:=H l [];simpa[wordsL]using this
 intro l
 induction l with
 |nil=>intro acc;rw[wordsA];split<;>simp_all [joinBs]
 |cons c l ih=>
  intro acc
  rw[wordsA]
  have h1:=ih []
  have h2:=ih (acc++[c])
  split
  ·split
   ·simp at h1 ⊢;omega
   ·cases hw:wordsA [] l with
    |nil=>simp[joinBs]
    |cons y r=>rw[hw]at h1;simp[joinBs]at h1 ⊢;omega
  ·simp at h2 ⊢;omega
end Go.Proofs.YtiikamobcmgekaaGreatDoor

