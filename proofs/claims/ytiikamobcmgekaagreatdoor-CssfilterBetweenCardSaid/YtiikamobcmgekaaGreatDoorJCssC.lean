/- The walks of styles: names. -/
import Derived.Test.YtiikamobcmgekaaGreatDoorPA
import Derived.Laws.ResultCell
import Derived.Test.YtiikamobcmgekaaGreatDoorShelf
import Derived.Test.YtiikamobcmgekaaGreatDoorKB
import Derived.Test.YtiikamobcmgekaaGreatDoorKA
import Derived.Test.YtiikamobcmgekaaGreatDoorRowU
import Derived.Test.YtiikamobcmgekaaGreatDoorJCssA
namespace Go.Proofs.YtiikamobcmgekaaGreatDoor
set_option maxRecDepth 100000
set_option maxHeartbeats 3200000
open Go.RowKit Go.Shelf
attribute [local go_sem] Oper.semAt_some
def Css.agg (x:Css):Value:= .agg #[.int .i64 x.kind,sv x.text,.int .i64 x.num,sv x.unit]
def zeroC:Css:=⟨0,[],0,[]⟩
theorem extract_dropQ (s:ByteArray) (k:Nat):(s.extract k s.size).data.toList=s.data.toList.drop k:=by
 rw[ByteArray.data_extract,Array.toList_extract,List.extract_eq_take_drop,List.take_of_length_le]
 rw[List.length_drop,len_data];omega
theorem str_drop (s:ByteArray) (k:Nat):s.extract k s.size=⟨(s.data.toList.drop k).toArray⟩:=by
 rw[<-extract_dropQ]
theorem str_takeQ (s:ByteArray) (n:Nat):s.extract 0 n=⟨(s.data.toList.take n).toArray⟩:=by
 have:(s.extract 0 n).data.toList=s.data.toList.take n:=by
  rw[ByteArray.data_extract,Array.toList_extract,List.extract_eq_take_drop];simp
 rw[<-this]
theorem str_cut (s:ByteArray) (f m:Nat):s.extract f m=⟨((s.data.toList.take m).drop f).toArray⟩:=by
 have:(s.extract f m).data.toList=(s.data.toList.take m).drop f:=by
  rw[ByteArray.data_extract,Array.toList_extract,List.extract_eq_take_drop,List.drop_take]
 rw[<-this]
theorem at_bs (S:ByteArray) (s:Bs) (h:S.data.toList=s) (k:Nat) (hk:k<S.size):S[k]=s[k]'(by rw[<-h,len_data];exact hk):=by
 subst h;rfl
theorem bad_any (w:World):Calls Tryz.prog 247 #[] w (Ret (Css.agg badC) w):=by
 go_enter Tryz.func247,Tryz.ntmps247
 go_wp2_with fail
 ((try simp only[Exit.inBlock,Exit.then]);refine bodyPost_ret (v:= .agg #[.int .i64 7,.string ⟨#[]⟩,.int .i64 0,.string ⟨#[]⟩]) (by(first|rw[results_cell_tmp rfl]|rw[results_cell1 rfl]);go_simp) rfl ?_)
 exact Ret.of rfl bel
theorem named_any (k:Int) (t:Bs) (w:World) (_hk:0<=k) (_hk2:k<=10) (hm:t.length<=140737488355328):Calls Tryz.prog 245 #[.int .i64 k,.string ⟨t.toArray⟩] w (Ret (Css.agg (namedC k t)) w):=by
 have HL:=Lib.hid (fun W=>lower_any ⟨t.toArray⟩ W hm)
 have HBd:=Lib.hid (fun W=>bad_any W)
 have HD:Hid (namedC k t=if 64<t.length then badC else⟨k,lowL t,0,[]⟩):=rfl
 obtain⟨S,hS⟩: ∃S:ByteArray,⟨t.toArray⟩=S:=⟨_,rfl⟩
 have hs:S.size=t.length:=by rw[<-hS];rfl
 have HL2:Hid (∀W,Calls Tryz.prog 162 #[.string S] W (Ret (.string ⟨(lowL t).toArray⟩) W)):=hS ▸ HL.out
 rw[hS]
 clear hS HL
 by_cases h:64<t.length
 ·have b0:decide ((64:Int)<S.size)=true:=by rw[hs];simp;omega
  rw[if_pos h]at HD
  clear hs h
  go_enter Tryz.func245,Tryz.ntmps245
  go_wp2_with(go_at_call 247;(with_reducible refine(HBd.out _).mono ?_);rintro e w' ⟨rfl,X,rfl⟩;simp only[Css.agg,badC,sv])
  ((try simp only[Exit.inBlock,Exit.then]);refine bodyPost_ret (v:= .agg #[.int .i64 7,.string ⟨#[]⟩,.int .i64 0,.string ⟨#[]⟩]) (by(first|rw[results_cell_tmp rfl]|rw[results_cell1 rfl]);go_simp) rfl ?_)
  exact Ret.of (by rw[HD.out];rfl) bel
 ·have b0:decide ((64:Int)<S.size)=false:=by rw[hs];simp;omega
  rw[if_neg h]at HD
  clear hs h
  go_enter Tryz.func245,Tryz.ntmps245
  go_wp2_with(go_at_call 162;(with_reducible refine(HL2.out _).mono ?_);rintro e w' ⟨rfl,X,rfl⟩)
  ((try simp only[Exit.inBlock,Exit.then]);refine bodyPost_ret (v:= .agg #[.int .i64 k,.string ⟨(lowL t).toArray⟩,.int .i64 0,.string ⟨#[]⟩]) (by(first|rw[results_cell_tmp rfl]|rw[results_cell1 rfl]);go_simp) rfl ?_)
  exact Ret.of (by rw[HD.out];rfl) bel
def nameV (s:Bs):Css × Nat:=if nameB s then nameC s else(zeroC,0)
def dash (s:Bs):Nat:=if hd (fun c=>decide (c.toNat=45)) s then 1 else 0
theorem name_dash (s:Bs):nameB s=match s.drop (dash s)with
  |[]=>false
  |d::_=>begB d:=by
 cases s with
 |nil=>rfl
 |cons c r=>
  by_cases h:c.toNat=45
  ·have h1:begB c=false:=by
    have:c=45:=UInt8.toNat_inj.1 h
    subst this;decide
   simp only[dash,hd,h,decide_true,if_true,List.drop_succ_cons,List.drop_zero,nameB,h1,Bool.false_or,Bool.true_and]
   cases r<;>rfl
  ·simp[dash,hd,h,nameB]
theorem trim_dash (s:Bs):Lib.trimPrefix s [45]=s.drop (dash s):=by
 cases s with
 |nil=>rfl
 |cons c r=>
  by_cases h:c.toNat=45
  ·have:c=45:=UInt8.toNat_inj.1 h
   subst this;rfl
  ·have h2: ¬(45:UInt8)=c:=fun h3=>h (by rw[<-h3];rfl)
   simp[dash,hd,h,Lib.trimPrefix,Lib.hasPrefix,h2]
theorem prefix_one (s:Bs) (k:UInt8):Lib.hasPrefix s [k]=hd (fun c=>decide (c.toNat=k.toNat)) s:=by
 cases s with
 |nil=>rfl
 |cons c r=>rw[Bool.eq_iff_iff];simp[Lib.hasPrefix,hd,<-UInt8.toNat_inj];exact eq_comm
theorem name_any (s:Bs) (w:World) (hm:s.length<=140737488355):Calls Tryz.prog 240 #[.string ⟨s.toArray⟩] w (Ret (.tuple #[Css.agg (nameV s).1,.int .i64 (nameV s).2]) w):=by
 obtain⟨S,hS⟩: ∃S:ByteArray,⟨s.toArray⟩=S:=⟨_,rfl⟩
 have hd0:S.data.toList=s:=by rw[<-hS]
 have hsz:S.size=s.length:=by rw[<-hS];rfl
 obtain⟨T,hT⟩: ∃T:ByteArray,⟨(s.drop (dash s)).toArray⟩=T:=⟨_,rfl⟩
 have htz:T.size=s.length-dash s:=by rw[<-hT];show(s.drop (dash s)).length=_;simp
 have HT:=Lib.hid (fun W=>show Calls Tryz.prog 275 #[.string S,.string ⟨#[45]⟩] W fun e w'=>e= .returned (.string T)/\w'=W from by
  have:=Tryz.strings_TrimPrefix S ⟨#[45]⟩ W
  rw[hd0]at this
  rw[<-hT,<-trim_dash];exact this)
 have hda:dash s<=1:=by unfold dash;split<;>omega
 have hdl:dash s<=s.length:=by unfold dash;cases s<;>simp[hd];split<;>omega
 have hsub:(S.size:Int)-(T.size:Int)=(dash s:Nat):=by omega
 have HV:Hid (nameV s=if nameB s then nameC s else(zeroC,0)):=rfl
 have HN:=Lib.hid (name_dash s)
 have hSm:S.size<=140737488355:=by omega
 have hTm:T.size<=S.size:=by omega
 rw[hS]
 by_cases hlt:dash s<s.length
 ·have hltS:dash s<S.size:=by omega
  have b0:decide ((S.size:Int)<=(dash s:Nat))=false:=by simp;omega
  have hbg:nameB s=begB S[dash s]:=by
   rw[HN.out,List.drop_eq_getElem_cons hlt,at_bs S s hd0 _ hltS]
  cases hn:nameB s
  ·rw[hn]at hbg HV
   have HBg:=Lib.hid (fun W=>show Calls Tryz.prog 276 #[.int .u8 S[dash s].toNat] W fun e w'=>e= .returned (.bool false)/\W=w' from hbg ▸ begins_any _ W)
   clear hbg hn
   clear hsz htz hdl
   generalize dash s=d at*
   go_enter Tryz.func240,Tryz.ntmps240
   go_wp2_with(first|(go_at_call 275;(with_reducible refine(HT.out _).mono ?_);rintro e w' ⟨rfl,rfl⟩)|(go_at_call 276;(with_reducible refine(HBg.out _).mono ?_);rintro e w' ⟨rfl,rfl⟩))
   ((try simp only[Exit.inBlock,Exit.then]);refine bodyPost_ret (v:= .tuple #[.agg #[.int .i64 0,.string ⟨#[]⟩,.int .i64 0,.string ⟨#[]⟩],.int .i64 0]) (by(first|rw[results_cell_tmp rfl]|rw[results_cell1 rfl]);go_simp) rfl ?_)
   exact Ret.of (by rw[HV.out];rfl) bel
  ·rw[hn]at hbg HV
   have HBg:=Lib.hid (fun W=>show Calls Tryz.prog 276 #[.int .u8 S[dash s].toNat] W fun e w'=>e= .returned (.bool true)/\W=w' from hbg ▸ begins_any _ W)
   clear hbg hn
   obtain⟨n,hnn⟩: ∃n,twc goB s=n:=⟨_,rfl⟩
   have hle:=twc_le goB s
   have HR:=Lib.hid (fun W=>show Calls Tryz.prog 243 #[.string S,.int .i64 0,.func (.func 244) #[] #[]] W fun e w'=>e= .returned (.int .i64 n)/\W=w' from by
    have:=row_anyQ S 0 _ _ W goes_predQ (by omega) (by omega)
    rw[hd0,List.drop_zero,hnn]at this;exact this)
   rw[hnn]at hle
   have e1:S.extract 0 n=⟨(s.take n).toArray⟩:=by rw[str_takeQ,hd0]
   have e2:S.extract n S.size=⟨(s.drop n).toArray⟩:=by rw[str_drop,hd0]
   have HNm:=Lib.hid (fun W=>named_any 1 (s.take n) W (by omega) (by omega) (by rw[List.length_take];omega))
   have HC:Hid (nameC s=if 64<n then(badC,n)else if hd (fun c=>decide (c.toNat=40)) (s.drop n)then(⟨2,lowL (s.take n),0,[]⟩,n+1)else(⟨1,lowL (s.take n),0,[]⟩,n)):=by show _=_;rw[<-hnn];rfl
   have HNd:Hid (namedC 1 (s.take n)=if 64<n then badC else⟨1,lowL (s.take n),0,[]⟩):=by show _=_;unfold namedC;rw[List.length_take,Nat.min_eq_left hle]
   have HPf:=Lib.hid (fun W=>show Calls Tryz.prog 45 #[.string ⟨(s.drop n).toArray⟩,.string ⟨#[40]⟩] W fun e w'=>e= .returned (.bool (hd (fun c=>decide (c.toNat=40)) (s.drop n)))/\w'=W from by
    have:=Tryz.strings_HasPrefix ⟨(s.drop n).toArray⟩ ⟨#[40]⟩ W
    rw[show(⟨#[40]⟩:ByteArray).data.toList=[40]from rfl,show(⟨(s.drop n).toArray⟩:ByteArray).data.toList=s.drop n from rfl,prefix_one]at this;exact this)
   have hnS:n<=S.size:=by omega
   generalize hd (fun c=>decide (c.toNat=40)) (s.drop n)=b at*
   generalize(⟨(s.take n).toArray⟩:ByteArray)=P1 at*
   generalize(⟨(s.drop n).toArray⟩:ByteArray)=P2 at*
   clear hsz htz hdl
   generalize dash s=d at*
   by_cases h64:64<n
   ·rw[if_pos h64]at HC HNd
    rw[HNd.out]at HNm
    have HNm2:=Lib.hid HNm.out
    simp only[Css.agg,badC,sv]at HNm2
    clear HNm hnn HN hd0 hS hT HNd
    go_enter Tryz.func240,Tryz.ntmps240
    go_wp2_with(first|(go_at_call 275;(with_reducible refine(HT.out _).mono ?_);rintro e w' ⟨rfl,rfl⟩)|(go_at_call 276;(with_reducible refine(HBg.out _).mono ?_);rintro e w' ⟨rfl,rfl⟩)|(go_at_call 243;(with_reducible refine(HR.out _).mono ?_);rintro e w' ⟨rfl,rfl⟩)|(go_at_call 245;(with_reducible refine(HNm2.out _).mono ?_);rintro e w' ⟨rfl,X,rfl⟩))
    ((try simp only[Exit.inBlock,Exit.then]);refine bodyPost_ret (v:= .tuple #[.agg #[.int .i64 7,.string ⟨#[]⟩,.int .i64 0,.string ⟨#[]⟩],.int .i64 n]) (by(first|rw[results_cell_tmp rfl]|rw[results_cell1 rfl]);go_simp) rfl ?_)
    exact Ret.of (by rw[HV.out,if_pos trivial,HC.out];rfl) bel
   ·rw[if_neg h64]at HC HNd
    rw[HNd.out]at HNm
    have HNm2:=Lib.hid HNm.out
    simp only[Css.agg,sv]at HNm2
    clear HNm hnn HN hd0 hS hT HNd
    cases b
    ·have HPf2:=Lib.hid HPf.out
     go_enter Tryz.func240,Tryz.ntmps240
     go_wp2_with(first|(go_at_call 275;(with_reducible refine(HT.out _).mono ?_);rintro e w' ⟨rfl,rfl⟩)|(go_at_call 276;(with_reducible refine(HBg.out _).mono ?_);rintro e w' ⟨rfl,rfl⟩)|(go_at_call 243;(with_reducible refine(HR.out _).mono ?_);rintro e w' ⟨rfl,rfl⟩)|(go_at_call 245;(with_reducible refine(HNm2.out _).mono ?_);rintro e w' ⟨rfl,X,rfl⟩)|(go_at_call 45;(with_reducible refine(HPf2.out _).mono ?_);rintro e w' ⟨rfl,rfl⟩))
     ((try simp only[Exit.inBlock,Exit.then]);refine bodyPost_ret (v:= .tuple #[.agg #[.int .i64 1,.string ⟨(lowL (s.take n)).toArray⟩,.int .i64 0,.string ⟨#[]⟩],.int .i64 n]) (by(first|rw[results_cell_tmp rfl]|rw[results_cell1 rfl]);go_simp) rfl ?_)
     exact Ret.of (by rw[HV.out,if_pos trivial,HC.out];rfl) bel
    ·have HPf2:=Lib.hid HPf.out
     go_enter Tryz.func240,Tryz.ntmps240
     go_wp2_with(first|(go_at_call 275;(with_reducible refine(HT.out _).mono ?_);rintro e w' ⟨rfl,rfl⟩)|(go_at_call 276;(with_reducible refine(HBg.out _).mono ?_);rintro e w' ⟨rfl,rfl⟩)|(go_at_call 243;(with_reducible refine(HR.out _).mono ?_);rintro e w' ⟨rfl,rfl⟩)|(go_at_call 245;(with_reducible refine(HNm2.out _).mono ?_);rintro e w' ⟨rfl,X,rfl⟩)|(go_at_call 45;(with_reducible refine(HPf2.out _).mono ?_);rintro e w' ⟨rfl,rfl⟩))
     ((try simp only[Exit.inBlock,Exit.then]);refine bodyPost_ret (v:= .tuple #[.agg #[.int .i64 2,.string ⟨(lowL (s.take n)).toArray⟩,.int .i64 0,.string ⟨#[]⟩],.int .i64 (n+1:Nat)]) (by(first|rw[results_cell_tmp rfl]|rw[results_cell1 rfl]);go_simp) rfl ?_)
     exact Ret.of (by rw[HV.out,if_pos trivial,HC.out];rfl) bel
 ·have b0:decide ((S.size:Int)<=(dash s:Nat))=true:=by simp;omega
  have hn:nameB s=false:=by rw[HN.out,List.drop_eq_nil_of_le (by omega)]
  rw[hn]at HV
  have hge:S.size<=dash s:=by omega
  clear hsz htz hdl
  generalize dash s=d at*
  go_enter Tryz.func240,Tryz.ntmps240
  go_wp2_with(go_at_call 275;(with_reducible refine(HT.out _).mono ?_);rintro e w' ⟨rfl,rfl⟩)
  ((try simp only[Exit.inBlock,Exit.then]);refine bodyPost_ret (v:= .tuple #[.agg #[.int .i64 0,.string ⟨#[]⟩,.int .i64 0,.string ⟨#[]⟩],.int .i64 0]) (by(first|rw[results_cell_tmp rfl]|rw[results_cell1 rfl]);go_simp) rfl ?_)
  exact Ret.of (by rw[HV.out];rfl) bel
end Go.Proofs.YtiikamobcmgekaaGreatDoor

