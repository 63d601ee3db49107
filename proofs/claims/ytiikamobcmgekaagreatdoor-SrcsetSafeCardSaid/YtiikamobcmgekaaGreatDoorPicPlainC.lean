/- Plain laws: the words of a text, one behind the other. -/
import Derived.Test.YtiikamobcmgekaaGreatDoorPicPlainB
import Derived.Test.YtiikamobcmgekaaGreatDoorClsD
namespace Go.Proofs.YtiikamobcmgekaaGreatDoor
open Go.RowKit Go.Shelf
def rtrim (l:Bs):Bs:=(l.reverse.dropWhile spB).reverse
theorem rtrim_sp (l:Bs) (c:UInt8) (h:spB c=true):rtrim (l++[c])=rtrim l:=by
 unfold rtrim
 rw[List.reverse_append,List.reverse_singleton,List.singleton_append,List.dropWhile_cons_of_pos h]
theorem rtrim_no (l:Bs) (c:UInt8) (h:spB c=false):rtrim (l++[c])=l++[c]:=by
 unfold rtrim
 rw[List.reverse_append,List.reverse_singleton,List.singleton_append,List.dropWhile_cons_of_neg (by simp[h])];simp
def trimSL (l:Bs):Bs:=rtrim (l.dropWhile spB)
theorem cut_snoc (l:Bs) (k h:Nat) (hk:k<=h) (hh:h<l.length):(l.take (h+1)).drop k=(l.take h).drop k++[l[h]]:=by
 rw[List.take_succ_eq_append_getElem hh,List.drop_append_of_le_length (by simp;omega)]
set_option maxHeartbeats 1600000 in
theorem trim_any (s:ByteArray) (w:World) (hm:s.size<=9223372036854775807):
  Calls Tryz.prog 225 #[.string s] w fun e w'=>e= .returned (.string ⟨(trimSL s.data.toList).toArray⟩)/\w=w':=by
 obtain⟨T,hT⟩: ∃T,trimSL s.data.toList=T:=⟨_,rfl⟩
 have HT:=Lib.hid hT
 rw[hT]
 clear hT
 have HL:=Lib.hid (len_data s)
 go_enter Tryz.func225,Tryz.ntmps225
 go_wp2_with fail
 go_loop [3] (fun i=> ∃k:Nat,k<=s.size/\i= .int .i64 k/\Hid ((s.data.toList.drop k).dropWhile spB=s.data.toList.dropWhile spB)) (fun i=>s.size-(intOf i).toNat)
 case atStart=>exact⟨0,by omega,rfl,rfl⟩
 case round=>
  obtain⟨k,hk,rfl,HK⟩:=hrel
  by_cases hlt:k<s.size
  ·have HD:=Lib.hid (drop_at s k hlt)
   cases hs:spB s[k]
   ·have HR:Hid (rtrim (s.data.toList.drop k)=T):=by
     show _=_
     rw[<-HT.out,trimSL,<-HK.out,HD.out,List.dropWhile_cons_of_neg (by simp[hs])]
    go_wp2_with(go_at_call 33;(with_reducible refine(space_any _ _).mono ?_);rintro e w' ⟨rfl,rfl⟩;rw[hs])
    go_loop [4] (fun i=> ∃h:Nat,k<=h/\h<=s.size/\i= .int .i64 h/\Hid (rtrim ((s.data.toList.take h).drop k)=T)) (fun i=>(intOf i).toNat)
    case atStart=>exact⟨s.size,hk,Nat.le_refl _,rfl,by show _=_;rw[<-HL.out,List.take_length];exact HR.out⟩
    case round=>
     obtain⟨h,hkh,hh,rfl,HJ⟩:=hrel
     by_cases hlt2:k<h
     ·obtain⟨j,rfl⟩: ∃j,h=j+1:=⟨h-1,by omega⟩
      have HC:Hid ((s.data.toList.take (j+1)).drop k=(s.data.toList.take j).drop k++[s[j]]):=by
       show _=_
       exact cut_snoc s.data.toList k j (by omega) (by rw[len_data];omega)
      have ej:((j+1:Nat):Int)-1=j:=by omega
      cases hs2:spB s[j]
      ·have HX:Hid (s.extract k (j+1)=⟨T.toArray⟩):=by
        show _=_
        rw[str_cut,<-HJ.out,HC.out,rtrim_no _ _ hs2]
       go_wp2_with(go_at_call 33;(with_reducible refine(space_any _ _).mono ?_);rintro e w' ⟨rfl,rfl⟩)
       go_ret
       exact⟨by rw[<-HX.out];rfl,rfl⟩
      ·have HX:Hid (rtrim ((s.data.toList.take j).drop k)=T):=by
        show _=_
        rw[<-HJ.out,HC.out,rtrim_sp _ _ hs2]
       go_wp2_with(go_at_call 33;(with_reducible refine(space_any _ _).mono ?_);rintro e w' ⟨rfl,rfl⟩)
       go_round
       case rel=>exact⟨j,by omega,by omega,by go_num,HX⟩
       case measure=>simp[intOf]
     ·obtain rfl:h=k:=by omega
      have HX:Hid (T=[]):=by
       show _=_
       rw[<-HJ.out,List.drop_eq_nil_of_le (by simp;omega)];rfl
      go_wp2
      go_ret
      exact⟨by rw[HX.out];rfl,rfl⟩
   ·have HN:Hid ((s.data.toList.drop (k+1)).dropWhile spB=s.data.toList.dropWhile spB):=by
     show _=_
     rw[<-HK.out,HD.out,List.dropWhile_cons_of_pos hs]
    go_wp2_with(go_at_call 33;(with_reducible refine(space_any _ _).mono ?_);rintro e w' ⟨rfl,rfl⟩;rw[hs])
    go_round
    case rel=>exact⟨k+1,by omega,by go_num,HN⟩
    case measure=>simp[intOf];omega
  ·obtain rfl:k=s.size:=by omega
   have HX:Hid (T=[]):=by
    show _=_
    rw[<-HT.out,trimSL,<-HK.out,List.drop_eq_nil_of_le (Nat.le_of_eq (len_data s))];rfl
   go_wp2_with fail
   go_loop [4] (fun i=>i= .int .i64 s.size) (fun _=>0)
   case atStart=>rfl
   case round=>
    obtain rfl:=hrel
    go_wp2
    go_ret
    exact⟨by rw[HX.out];rfl,rfl⟩
theorem words_tail (l:Bs): ∀(acc:Bs) (c:UInt8),spB c=true->wordsA acc (l++[c])=wordsA acc l:=by
 induction l with
 |nil=>
  intro acc c h
  show(if spB c=true then(if acc=[]then wordsA [] []else acc::wordsA [] [])else wordsA (acc++[c]) [])=(if acc=[]then []else [acc])
  rw[if_pos h]
  split<;>rfl
 |cons d l ih=>
  intro acc c h
  rw[List.cons_append,wordsA,wordsA,ih _ c h,ih _ c h]
theorem words_rtrim (l:Bs):wordsL (rtrim l)=wordsL l:=by
 suffices H: ∀m:Bs,wordsL (rtrim m.reverse)=wordsL m.reverse by simpa using H l.reverse
 intro m
 induction m with
 |nil=>rfl
 |cons c m ih=>
  rw[List.reverse_cons]
  cases h:spB c
  ·rw[rtrim_no _ _ h]
  ·rw[rtrim_sp _ _ h,ih];unfold wordsL;rw[words_tail _ _ _ h]
theorem words_skip (l:Bs):wordsL (l.dropWhile spB)=wordsL l:=by
 induction l with
 |nil=>rfl
 |cons c l ih=>
  cases h:spB c
  ·rw[List.dropWhile_cons_of_neg (by simp[h])]
  ·rw[List.dropWhile_cons_of_pos h,ih,words_sp _ _ h]
theorem words_trim (l:Bs):wordsL (trimSL l)=wordsL l:=by
 unfold trimSL;rw[words_rtrim,words_skip]
theorem words_round {c:UInt8} {r:Bs} (h:spB c=false):wordsL (c::r)=(c::r).takeWhile (fun c=> !spB c)::wordsL ((c::r).dropWhile (fun c=> !spB c)):=by
 have hu:((c::r).takeWhile (fun c=> !spB c)).all (fun c=> !spB c)=true:=List.all_takeWhile
 have hn:(c::r).takeWhile (fun c=> !spB c)≠[]:=by rw[List.takeWhile_cons_of_pos (by simp[h])];simp
 conv=>lhs;rw[<-List.takeWhile_append_dropWhile (p:=fun c=> !spB c) (l:=c::r)]
 have e:wordsL ((c::r).takeWhile (fun c=> !spB c)++(c::r).dropWhile (fun c=> !spB c))=wordsA ((c::r).takeWhile (fun c=> !spB c)) ((c::r).dropWhile (fun c=> !spB c)):=by
  unfold wordsL
  rw[words_run _ [] _ hu,List.nil_append]
 rw[e]
 have hd:=List.head?_dropWhile_not (fun c=> !spB c) (c::r)
 generalize(c::r).takeWhile (fun c=> !spB c)=u at*
 generalize(c::r).dropWhile (fun c=> !spB c)=t at*
 cases t with
 |nil=>rw[wordsA,if_neg hn];rfl
 |cons d t=>
  have hs:spB d=true:=by simpa using hd
  rw[wordsA,if_pos hs,if_neg hn,words_sp _ _ hs];rfl
end Go.Proofs.YtiikamobcmgekaaGreatDoor
