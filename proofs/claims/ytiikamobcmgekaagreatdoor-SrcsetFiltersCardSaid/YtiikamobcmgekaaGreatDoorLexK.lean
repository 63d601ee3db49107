/- The walk of the lexer by the reference: Scan. -/
import Derived.Test.YtiikamobcmgekaaGreatDoorLC
namespace Go.Proofs.YtiikamobcmgekaaGreatDoor
open Lib renaming hid→z2c
open List renaming drop_drop→z55,takeWhile→z4m
open Tryz renaming func141→z5v,ntmps141→z5n,results141→z3p
set_option maxRecDepth 100000
set_option maxHeartbeats 8000000
open Go.RowKit Go.Shelf
def zik (f:Nat):TR->Value
 | .ok t n=> .tuple #[.string ⟨t.toArray⟩,.int .i64 n,.int .i64 0]
 | .bad n=> .tuple #[.string ⟨#[]⟩,.int .i64 n,.int .i64 2]
 | .op=> .tuple #[.string ⟨#[]⟩,.int .i64 f,.int .i64 2]
theorem zwo (s:ByteArray) (f:Nat) (w:World) (h1:f<s.size) (hm:s.size<=140737488355328):
  Calls Tryz.prog 218 #[.string s,.int .i64 f] w (Ret (zik f ((strL (s.data.toList.drop (f+1))).app [] (f+1))) w):=by
 obtain⟨R,hR⟩: ∃R,(strL (s.data.toList.drop (f+1))).app [] (f+1)=R:=⟨_,rfl⟩;rw[hR];have HR:=z2c hR;clear hR;go_enter Tryz.func218,Tryz.ntmps218;go_wp2_with fail
 go_loopw [7,8] (fun v i wr=> ∃(k:Nat) (out:Bs) (X:Gr),k<=s.size/\out.length<=k/\i= .int .i64 k/\wr=w.grow X/\(w.grow X).ownsRow w.heap.size 5 1 v out.length (out.map bv)/\Hid ((strL (s.data.toList.drop k)).app out k=R)) (fun _ i _=>s.size-(intOf i).toNat)
 case atStart=>exact⟨f+1,[],_,by omega,by simp,by go_num,(zb6 w).symm,by rw[zb6];exact zhg w,HR⟩
 case round=>
  obtain⟨k,out,X,hk,hout,rfl,rfl,hown,HK⟩:=hrel;by_cases hlt:k<s.size
  ·have HD:=z2c (za9 s k hlt);by_cases c34:s[k].toNat=34
   ·have b34:((s[k].toNat:Int)==34)=true:=by simp;omega
    have HV:Hid (zik f R= .tuple #[.string ⟨out.toArray⟩,.int .i64 (k+1:Nat),.int .i64 0]):=by
     show _=_;rw[<-HK.out,HD.out,ze3 _ c34];simp[TR.app,zik];omega
    clear c34 h1;have hcv:=(Rd.own hown).str 135 9 5 Tryz.underlying135 Tryz.underlying5 Tryz.underlying9;go_wp2
    go_ret3
    exact Ret.of (by rw[HV.out];rfl) bel
   ·have b34:((s[k].toNat:Int)==34)=false:=by simp;omega
    by_cases c92:s[k].toNat=92
    ·have b92:((s[k].toNat:Int)==92)=true:=by simp;omega
     by_cases hk1:k+1<s.size
     ·have HD1:=z2c (za9 s (k+1) hk1);by_cases hd:s[k+1].toNat=92\/s[k+1].toNat=34
      ·have HV:Hid ((strL (s.data.toList.drop (k+2))).app (out++[s[k+1]]) (k+2)=R):=by
        have:=HK.out;rw[HD.out,HD1.out,zg5 _ c92 hd,TR.app_app]at this;exact this
       have HL:Hid ((out++[s[k+1]]).map bv=out.map bv++[.int .u8 (s[k+1].toNat:Int)]):=by show _=_;simp[bv]
       have HL2:Hid ((out++[s[k+1]]).length=out.length+1):=by show _=_;simp
       have hd2:((s[k+1].toNat:Int)==92)=true\/((s[k+1].toNat:Int)==92)=false/\((s[k+1].toNat:Int)==34)=true:=by
        by_cases h:s[k+1].toNat=92
        ·exact Or.inl (by simp;omega)
        ·exact Or.inr ⟨by simp;omega,by simp;omega⟩
       have hi:(0:Int)<=(k:Int)+1:=by omega
       have hi2:((k:Int)+1).toNat=k+1:=by omega
       clear c34 c92 hd;rcases hd2 with b1|⟨b1,b2⟩
       all_goals
        go_wp2_with(at_builtin;refine zbx rfl _ _ 135 rfl zci w rfl (hown.alloc _) bel ⟨_,0,none⟩ 1 1 [.int .u8 (s[k+1].toNat:Int)] rfl rfl (zaf (c:= #[.int .u8 (s[k+1].toNat:Int)]) (by simp[go_sem])) (by simp[Value.oneCell']) (by unfold maxLen;omega) (by omega) ?_;intro v' Z' hown' _)
        go_roundw
        case rel=>exact⟨k+2,out++[s[k+1]],Z',by omega,by rw[HL2.out];omega,by go_num,rfl,by rw[HL.out,HL2.out];exact hown',HV⟩
        case measure=>simp[intOf];omega
      ·have HV:Hid (zik f R= .tuple #[.string ⟨#[]⟩,.int .i64 k,.int .i64 2]):=by
        show _=_;rw[<-HK.out,HD.out,HD1.out,zdv _ c92 hd];simp[TR.app,zik]
       have b1:((s[k+1].toNat:Int)==92)=false:=by simp;omega
       have b2:((s[k+1].toNat:Int)==34)=false:=by simp;omega
       have hi:(0:Int)<=(k:Int)+1:=by omega
       have hi2:((k:Int)+1).toNat=k+1:=by omega
       have o1:decide ((s[k].toNat:Int)<32)=false:=by simp;omega
       have o2:decide ((127:Int)<=s[k].toNat)=false:=by simp;omega
       clear c34 c92 hd;go_wp2
       go_ret3
       exact Ret.of (by rw[HV.out];rfl) bel
     ·have HE:=z2c (zbv s (k+1) (by omega));have HV:Hid (zik f R= .tuple #[.string ⟨#[]⟩,.int .i64 k,.int .i64 2]):=by
       show _=_;rw[<-HK.out,HD.out,HE.out,zdu c92];simp[TR.app,zik]
      have o1:decide ((s[k].toNat:Int)<32)=false:=by simp;omega
      have o2:decide ((127:Int)<=s[k].toNat)=false:=by simp;omega
      clear c34 c92;go_wp2
      go_ret3
      exact Ret.of (by rw[HV.out];rfl) bel
    ·have b92:((s[k].toNat:Int)==92)=false:=by simp;omega
     cases ho:oddB s[k]
     ·have o1:decide ((s[k].toNat:Int)<32)=false:=by unfold oddB at ho;simp at ho;simp;omega
      have o2:decide ((127:Int)<=s[k].toNat)=false:=by unfold oddB at ho;simp at ho;simp;omega
      have HV:Hid ((strL (s.data.toList.drop (k+1))).app (out++[s[k]]) (k+1)=R):=by
       have:=HK.out;rw[HD.out,ze4 _ c34 c92 (by rw[ho];simp),TR.app_app]at this;exact this
      have HL:Hid ((out++[s[k]]).map bv=out.map bv++[.int .u8 (s[k].toNat:Int)]):=by show _=_;simp[bv]
      have HL2:Hid ((out++[s[k]]).length=out.length+1):=by show _=_;simp
      clear c34 c92 ho;go_wp2_with(first|(at_builtin;refine zbx rfl _ _ 135 rfl zci w rfl (hown.alloc _) bel ⟨_,0,none⟩ 1 1 [.int .u8 (s[k].toNat:Int)] rfl rfl (zaf (c:= #[.int .u8 (s[k].toNat:Int)]) (by simp[go_sem])) (by simp[Value.oneCell']) (by unfold maxLen;omega) (by omega) ?_;intro v' Z' hown' _))
      go_roundw
      case rel=>exact⟨k+1,out++[s[k]],Z',by omega,by rw[HL2.out];omega,by go_num,rfl,by rw[HL.out,HL2.out];exact hown',HV⟩
      case measure=>simp[intOf];omega
     ·have HV:Hid (zik f R= .tuple #[.string ⟨#[]⟩,.int .i64 k,.int .i64 2]):=by
       show _=_;rw[<-HK.out,HD.out,zg4 _ c34 c92 ho];simp[TR.app,zik]
      have o1:decide ((s[k].toNat:Int)<32)=true\/decide ((s[k].toNat:Int)<32)=false/\decide ((127:Int)<=s[k].toNat)=true:=by unfold oddB at ho;simp at ho;simp;omega
      clear c34 c92 ho;rcases o1 with o1|⟨o1,o2⟩
      all_goals
       go_wp2
       go_ret3
       exact Ret.of (by rw[HV.out];rfl) bel
  ·have HE:=z2c (zbv s k (by omega));have HV:Hid (zik f R= .tuple #[.string ⟨#[]⟩,.int .i64 f,.int .i64 2]):=by
    show _=_;rw[<-HK.out,HE.out,strL];simp[TR.app,zik]
   go_wp2
   go_ret3
   exact Ret.of (by rw[HV.out];rfl) bel
def zc5 (f:Nat):PR->Value
 | .ok k t n=> .tuple #[.agg #[.int .i64 k,.int .i64 f,.string ⟨t.toArray⟩],.int .i64 (f+n:Nat),.int .i64 0]
 | .bad n=> .tuple #[.agg #[.int .i64 0,.int .i64 0,.string ⟨#[]⟩],.int .i64 (f+n:Nat),.int .i64 2]
theorem zpz (s:ByteArray) (f m:Nat):s.extract f (f+m)=⟨((s.data.toList.drop f).take m).toArray⟩:=by
 apply ByteArray.ext;rw[ByteArray.data_extract];apply Array.toList_inj.1;rw[Array.toList_extract,List.extract_eq_take_drop];simp
theorem zto (s:ByteArray) (f:Nat) (w:World) (h1:f<s.size) (hm:s.size<=140737488355328):
  Calls Tryz.prog 141 #[.string s,.int .i64 f] w (Ret (zc5 f (zbj (s.data.toList.drop f))) w):=by
 have HS:=z2c (za9 s f h1);have HT:=z2c (fun W=>zwo s f W h1 hm);have h0:(0:Int)<=f:=by omega
 obtain⟨V,hV⟩: ∃V,zc5 f (zbj (s.data.toList.drop f))=V:=⟨_,rfl⟩;rw[hV];have HP:=z2c hV;clear hV;by_cases c34:s[f].toNat=34
 ·have hl:decide ((97:Int)<=s[f].toNat)=false:=by simp;omega
  have hd:digB s[f]=false:=by unfold digB;simp;omega
  have b34:((s[f].toNat:Int)==34)=true:=by simp;omega
  have HV:Hid (V=zc5 f (strL (s.data.toList.drop (f+1))).pr):=by
   show _=_;rw[<-HP.out,HS.out,zl0 _ c34]
  generalize strL (s.data.toList.drop (f+1))=R at*;cases R;all_goals
   simp only[TR.app,TR.pr,zik,List.nil_append,zc5]at HT HV;have HT:=z2c HT;have HV:=z2c HV;clear c34 HS HP;go_enter z5v,z5n;go_wp2_with(first|(go_at_call 166;(with_reducible refine(zbl s[f] _).mono ?_);rintro e w' ⟨rfl,rfl⟩;rw[hd])|(go_at_call 218;(with_reducible refine(HT.out.out _).mono ?_);rintro e w' ⟨rfl,X,rfl⟩))
   refine bodyPost_ret (v:=V) ?_ rfl (Ret.of rfl bel);rw[HV.out.out];simp[results,z3p,go_sem];try omega
 ·have b34:((s[f].toNat:Int)==34)=false:=by simp;omega
  cases hl:lowB s[f]
  ·have o1:decide ((97:Int)<=s[f].toNat)=true/\decide ((s[f].toNat:Int)<=122)=false\/decide ((97:Int)<=s[f].toNat)=false:=by unfold lowB at hl;simp at hl;simp;omega
   cases hd:digB s[f]
   ·have HV:Hid (V=zc5 f (if mrkB s[f]then .ok 4 [s[f]] 1 else .bad 0)):=by
     show _=_;rw[<-HP.out,HS.out,zbj,if_neg c34,if_neg (by rw[hl];simp),if_neg (by rw[hd];simp)]
    have HE:Hid (s.extract f (f+1)=⟨[s[f]].toArray⟩):=by
     show _=_;rw[zpz,HS.out];rfl
    cases hmk:mrkB s[f]
    ·have b1:((s[f].toNat:Int)==58)=false:=by unfold mrkB at hmk;simp at hmk;simp;omega
     have b2:((s[f].toNat:Int)==59)=false:=by unfold mrkB at hmk;simp at hmk;simp;omega
     have b3:((s[f].toNat:Int)==42)=false:=by unfold mrkB at hmk;simp at hmk;simp;omega
     rw[hmk]at HV;simp only[zc5,Bool.false_eq_true,if_false]at HV;have HV:=z2c HV;clear hmk HS HP c34 hl;rcases o1 with⟨o1,o2⟩|o1
     all_goals
      go_enter z5v,z5n;go_wp2_with(go_at_call 166;(with_reducible refine(zbl s[f] _).mono ?_);rintro e w' ⟨rfl,rfl⟩;rw[hd])
      refine bodyPost_ret (v:=V) ?_ rfl (Ret.of rfl bel);rw[HV.out.out];simp[results,z3p,go_sem]
    ·have b1:((s[f].toNat:Int)==58)=true\/((s[f].toNat:Int)==58)=false/\(((s[f].toNat:Int)==59)=true\/((s[f].toNat:Int)==59)=false/\((s[f].toNat:Int)==42)=true):=by unfold mrkB at hmk;simp at hmk;simp;omega
     rw[hmk]at HV;simp only[zc5,if_true]at HV;rw[<-HE.out]at HV;have HV:=z2c HV;have hf1:((f:Int)+1).toNat=f+1:=by omega
     clear hmk HS HP c34 hl HE;rcases o1 with⟨o1,o2⟩|o1<;>rcases b1 with b1|⟨b1,b2|⟨b2,b3⟩⟩
     all_goals
      go_enter z5v,z5n;go_wp2_with(go_at_call 166;(with_reducible refine(zbl s[f] _).mono ?_);rintro e w' ⟨rfl,rfl⟩;rw[hd])
      refine bodyPost_ret (v:=V) ?_ rfl (Ret.of rfl bel);rw[HV.out.out];simp[results,z3p,go_sem]
   ·obtain⟨n,hn⟩: ∃n,tw digB (s.data.toList.drop (f+1))=n:=⟨_,rfl⟩;have hns:f+1+n<=s.size:=by have:=zhv digB (s.data.toList.drop (f+1));rw[hn,List.length_drop,zag]at this;omega
    have HV:Hid (V=zc5 f (if n<9 then .ok 2 ((s.data.toList.drop f).take (1+n)) (1+n)else .bad 0)):=by
     show _=_;have e1:(z4m digB (s.data.toList.drop (f+1))).length=n:=hn;have e2:s[f]::z4m digB (s.data.toList.drop (f+1))=(s.data.toList.drop f).take (1+n):=by
      rw[<-zmj,hn,Nat.add_comm 1 n,HS.out,List.take_succ_cons]
     rw[<-HP.out,HS.out,zbj,if_neg c34,if_neg (by rw[hl];simp),if_pos hd,e1,e2,<-HS.out]
    have HE:=z2c (zpz s f (1+n));have HN:=z2c hn;clear hn HP HS;have hl0:=z2c hl;clear c34 hl;rcases o1 with⟨o1,o2⟩|o1
    all_goals
     go_enter z5v,z5n;go_wp2_with(go_at_call 166;(with_reducible refine(zbl s[f] _).mono ?_);rintro e w' ⟨rfl,rfl⟩;rw[hd])
     go_loop [8] (fun i=> ∃k:Nat,f+1<=k/\k<=s.size/\i= .int .i64 k/\Hid (k+tw digB (s.data.toList.drop k)=f+1+n)) (fun i=>s.size-(intOf i).toNat)
     case atStart=>exact⟨f+1,Nat.le_refl _,by omega,by go_num,by show _=_;rw[HN.out]⟩
     case round=>
      obtain⟨k,hk1,hk2,rfl,HK⟩:=hrel;have hx:(∃h:k<s.size,digB s[k]=true)\/(k=f+1+n/\ ∀h:k<s.size,digB s[k]=false):=by
       by_cases h:k<s.size
       ·cases hb:digB s[k]
        ·refine Or.inr ⟨?_,fun _=>hb⟩;have:=HK.out;rw[za9 s k h,zds _ hb]at this;omega
        ·exact Or.inl ⟨h,hb⟩
       ·refine Or.inr ⟨?_,fun h2=>absurd h2 h⟩;have:=HK.out;rw[zbv s k (by omega)]at this;simpa[tw]using this
      rcases hx with⟨hlt,hpc⟩|⟨he,hpc0⟩
      ·have HX:Hid (k+1+tw digB (s.data.toList.drop (k+1))=f+1+n):=by
        show _=_;have:=HK.out;rw[za9 s k hlt,zdr _ hpc]at this;omega
       go_wp2_with(go_at_call 166;(with_reducible refine(zbl s[k] _).mono ?_);rintro e w' ⟨rfl,rfl⟩;rw[hpc])
       go_round
       case rel=>exact⟨k+1,by omega,by omega,by go_num,HX⟩
       case measure=>simp[intOf];omega
      ·subst he;clear HK HN;have hf1:((f:Int)+1+n).toNat=f+1+n:=by omega
       have hlt:f+1+n<s.size\/ ¬f+1+n<s.size:=by omega
       have hfe:f+(1+n)=f+1+n:=by omega
       rw[hfe]at HE;by_cases h9:n<9
       ·have b9:decide ((9:Int)<(f:Int)+1+n-f)=false:=by simp;omega
        rw[if_pos h9]at HV;simp only[zc5]at HV;rw[<-HE.out]at HV;have HV:=z2c HV;clear h9 HE hfe;rcases hlt with hlt|hlt
        ·have hpc:=hpc0 hlt;clear hpc0;go_wp2_with(go_at_call 166;(with_reducible refine(zbl s[f+1+n] _).mono ?_);rintro e w' ⟨rfl,rfl⟩;rw[hpc])
         refine bodyPost_ret (v:=V) ?_ rfl (Ret.of rfl bel);rw[HV.out.out];simp[results,z3p,go_sem];try omega
        ·clear hpc0;go_wp2
         refine bodyPost_ret (v:=V) ?_ rfl (Ret.of rfl bel);rw[HV.out.out];simp[results,z3p,go_sem];try omega
       ·have b9:decide ((9:Int)<(f:Int)+1+n-f)=true:=by simp;omega
        rw[if_neg h9]at HV;simp only[zc5]at HV;have HV:=z2c HV;clear h9 HE hfe;rcases hlt with hlt|hlt
        ·have hpc:=hpc0 hlt;clear hpc0;go_wp2_with(go_at_call 166;(with_reducible refine(zbl s[f+1+n] _).mono ?_);rintro e w' ⟨rfl,rfl⟩;rw[hpc])
         refine bodyPost_ret (v:=V) ?_ rfl (Ret.of rfl bel);rw[HV.out.out];simp[results,z3p,go_sem]
        ·clear hpc0;go_wp2
         refine bodyPost_ret (v:=V) ?_ rfl (Ret.of rfl bel);rw[HV.out.out];simp[results,z3p,go_sem]
  ·have o1:decide ((97:Int)<=s[f].toNat)=true:=by unfold lowB at hl;simp at hl;simp;omega
   have o2:decide ((s[f].toNat:Int)<=122)=true:=by unfold lowB at hl;simp at hl;simp;omega
   obtain⟨n,hn⟩: ∃n,tw wchB (s.data.toList.drop (f+1))=n:=⟨_,rfl⟩;have hns:f+1+n<=s.size:=by have:=zhv wchB (s.data.toList.drop (f+1));rw[hn,List.length_drop,zag]at this;omega
   have HV:Hid (V=zc5 f (if zau ((s.data.toList.drop f).take (1+n))then .ok 1 ((s.data.toList.drop f).take (1+n)) (1+n)else .bad 0)):=by
    show _=_;have e1:(z4m wchB (s.data.toList.drop (f+1))).length=n:=hn;have e2:s[f]::z4m wchB (s.data.toList.drop (f+1))=(s.data.toList.drop f).take (1+n):=by
     rw[<-zmj,hn,Nat.add_comm 1 n,HS.out,List.take_succ_cons]
    rw[<-HP.out,HS.out,zbj,if_neg c34,if_pos hl,e1,e2,<-HS.out]
   have HE:=z2c (zpz s f (1+n));have HN:=z2c hn;clear hn HP HS;clear c34 hl;go_enter z5v,z5n;go_wp2_with fail
   go_loop [8] (fun i=> ∃k:Nat,f+1<=k/\k<=s.size/\i= .int .i64 k/\Hid (k+tw wchB (s.data.toList.drop k)=f+1+n)) (fun i=>s.size-(intOf i).toNat)
   case atStart=>exact⟨f+1,Nat.le_refl _,by omega,by go_num,by show _=_;rw[HN.out]⟩
   case round=>
    obtain⟨k,hk1,hk2,rfl,HK⟩:=hrel;have hx:(∃h:k<s.size,wchB s[k]=true)\/(k=f+1+n/\ ∀h:k<s.size,wchB s[k]=false):=by
     by_cases h:k<s.size
     ·cases hb:wchB s[k]
      ·refine Or.inr ⟨?_,fun _=>hb⟩;have:=HK.out;rw[za9 s k h,zds _ hb]at this;omega
      ·exact Or.inl ⟨h,hb⟩
     ·refine Or.inr ⟨?_,fun h2=>absurd h2 h⟩;have:=HK.out;rw[zbv s k (by omega)]at this;simpa[tw]using this
    rcases hx with⟨hlt,hpc⟩|⟨he,hpc0⟩
    ·have HX:Hid (k+1+tw wchB (s.data.toList.drop (k+1))=f+1+n):=by
      show _=_;have:=HK.out;rw[za9 s k hlt,zdr _ hpc]at this;omega
     go_wp2_with(go_at_call 217;(with_reducible refine(zh0 s[k] _).mono ?_);rintro e w' ⟨rfl,rfl⟩;rw[hpc])
     go_round
     case rel=>exact⟨k+1,by omega,by omega,by go_num,HX⟩
     case measure=>simp[intOf];omega
    ·subst he;clear HK HN;have hf1:((f:Int)+1+n).toNat=f+1+n:=by omega
     have hlt:f+1+n<s.size\/ ¬f+1+n<s.size:=by omega
     have hfe:f+(1+n)=f+1+n:=by omega
     rw[hfe]at HE;have HD:Hid ((s.extract f (f+1+n)).data.toList=(s.data.toList.drop f).take (1+n)):=by show _=_;rw[HE.out]
     have HZ:Hid ((s.extract f (f+1+n)).size<=9223372036854775807):=by show _<=_;rw[ByteArray.size_extract];omega
     have HW:Hid (∀W,Calls Tryz.prog 152 #[.string (s.extract f (f+1+n))] W fun e w'=>e= .returned (.bool (zau ((s.data.toList.drop f).take (1+n))))/\W=w'):=fun W=>HD.out ▸ ze6 (s.extract f (f+1+n)) W HZ.out;cases hw:zau ((s.data.toList.drop f).take (1+n))
     ·rw[hw]at HV HW;simp only[zc5,Bool.false_eq_true,if_false]at HV;have HV:=z2c HV;clear HE hfe hw HD HZ;rcases hlt with hlt|hlt
      ·have hpc:=hpc0 hlt;clear hpc0;go_wp2_with(first|(go_at_call 217;(with_reducible refine(zh0 s[f+1+n] _).mono ?_);rintro e w' ⟨rfl,rfl⟩;rw[hpc])|(go_at_call 152;(with_reducible refine(HW.out _).mono ?_);rintro e w' ⟨rfl,rfl⟩))
       refine bodyPost_ret (v:=V) ?_ rfl (Ret.of rfl bel);rw[HV.out.out];simp[results,z3p,go_sem]
      ·clear hpc0;go_wp2_with(go_at_call 152;(with_reducible refine(HW.out _).mono ?_);rintro e w' ⟨rfl,rfl⟩)
       refine bodyPost_ret (v:=V) ?_ rfl (Ret.of rfl bel);rw[HV.out.out];simp[results,z3p,go_sem]
     ·rw[hw]at HV HW;simp only[zc5,if_true]at HV;rw[<-HE.out]at HV;have HV:=z2c HV;clear HE hfe hw HD HZ;rcases hlt with hlt|hlt
      ·have hpc:=hpc0 hlt;clear hpc0;go_wp2_with(first|(go_at_call 217;(with_reducible refine(zh0 s[f+1+n] _).mono ?_);rintro e w' ⟨rfl,rfl⟩;rw[hpc])|(go_at_call 152;(with_reducible refine(HW.out _).mono ?_);rintro e w' ⟨rfl,rfl⟩))
       refine bodyPost_ret (v:=V) ?_ rfl (Ret.of rfl bel);rw[HV.out.out];simp[results,z3p,go_sem];try omega
      ·clear hpc0;go_wp2_with(go_at_call 152;(with_reducible refine(HW.out _).mono ?_);rintro e w' ⟨rfl,rfl⟩)
       refine bodyPost_ret (v:=V) ?_ rfl (Ret.of rfl bel);rw[HV.out.out];simp[results,z3p,go_sem];try omega
def SR.app (out:List Lx):SR->SR
 | .ok l=> .ok (out++l)
 | .bad n=> .bad n
theorem SR.app_cons (out:List Lx) (x:Lx) (r:SR):(r.cons x).app out=r.app (out++[x]):=by cases r<;>simp[SR.app,SR.cons]
theorem z14 {l:Bs} (h: ∀c r,l=c::r->c.toNat=10):blk true l=blk false l:=by
 cases l with
 |nil=>rfl
 |cons c r=>have:=h c r rfl;simp[blk,this,spB]
theorem zls (s:ByteArray) (w:World) (hm:s.size<=8192):Calls Tryz.prog 55 #[.string s] w (z0y (zd2 0 s.data.toList) w):=by
 obtain⟨R,hR⟩: ∃R,zd2 0 s.data.toList=R:=⟨_,rfl⟩;rw[hR];have HR:Hid ((zd2 0 (s.data.toList.drop 0)).app []=R):=by show _=_;rw[List.drop_zero,hR];cases R<;>rfl
 clear hR;have h8:decide ((8192:Int)<s.size)=false:=by simp;omega
 go_enter Tryz.func55,Tryz.ntmps55;go_wp2_with fail
 go_loopw [5,6] (fun v i wr=> ∃(k:Nat) (out:List Lx),k<=s.size/\out.length<=k/\i= .int .i64 k/\Below w.heap.size w wr/\wr.ownsRow w.heap.size 112 3 v out.length (za6 out)/\Hid ((zd2 k (s.data.toList.drop k)).app out=R)) (fun _ i _=>s.size-(intOf i).toNat)
 case atStart=>exact⟨0,[],by omega,by simp,rfl,Below.refl _ _,World.ownsRow_nil _ _ _ _,HR⟩
 case round=>
  obtain⟨k,out,hk,hout,rfl,hB,hown,HK⟩:=hrel;have hsz:=hB.size;have HB:=z2c hB;clear hB;by_cases hlt:k<s.size
  ·have HD:=z2c (za9 s k hlt);cases hsp:spB s[k]
   ·by_cases h35:s[k].toNat=35
    ·have q35:((s[k].toNat:Int)==35)=true:=by simp;omega
     have HS:=z2c (zpj HD.out h35);have HO:=z2c hown;have hn10:((s[k].toNat:Int) !=10)=true:=by simp;omega
     clear h35 hown;obtain⟨wo,rfl⟩: ∃wo:World,wo=wr:=⟨_,rfl⟩;go_wp2_with(go_at_call 74;(with_reducible refine(zbt s[k] _).mono ?_);rintro e w' ⟨rfl,rfl⟩;rw[hsp])
     go_loop [6] (fun i=> ∃j:Nat,k<=j/\j<=s.size/\i= .int .i64 j/\(j=k\/k<j)/\Hid (blk true (s.data.toList.drop k)=(j-k)+blk true (s.data.toList.drop j))) (fun i=>s.size-(intOf i).toNat)
     case atStart=>exact⟨k,Nat.le_refl _,by omega,rfl,Or.inl rfl,by show _=_;simp⟩
     case round=>
      obtain⟨j,hj1,hj2,rfl,hjk,HJ⟩:=hrel;by_cases hgo: ∃h:j<s.size,¬s[j].toNat=10
      ·obtain⟨hjl,hne⟩:=hgo;have b10:((s[j].toNat:Int) !=10)=true:=by simp;omega
       have HX:Hid (blk true (s.data.toList.drop k)=(j+1-k)+blk true (s.data.toList.drop (j+1))):=by
        show _=_;rw[HJ.out,za9 s j hjl];simp only[blk,if_neg hne];omega
       clear hne;go_wp2
       go_round
       case rel=>exact⟨j+1,by omega,by omega,by go_num,Or.inr (by omega),HX⟩
       case measure=>simp[intOf];omega
      ·have hjs:k<j:=by
        rcases hjk with h|h
        ·subst h;exact absurd ⟨hlt,by simp at hn10;omega⟩ hgo
        ·exact h
       have HX:Hid ((zd2 j (s.data.toList.drop j)).app out=R):=by
        show _=_;have h1:blk true (s.data.toList.drop j)=blk false (s.data.toList.drop j):=by
         refine z14 fun c r hc=> ?_;by_cases hjl:j<s.size
         ·rw[za9 s j hjl]at hc;cases hc;exact Classical.byContradiction fun h=>hgo ⟨hjl,h⟩
         ·rw[zbv s j (by omega)]at hc;cases hc
        have h2:=zlr (a:=k) (l:=s.data.toList.drop k) (j-k) (by rw[z55,show k+(j-k)=j by omega,HS.out,HJ.out,h1]);rw[z55,show k+(j-k)=j by omega]at h2;rw[<-h2];exact HK.out
       have hx:(∃h:j<s.size,((s[j].toNat:Int) !=10)=false)\/ ¬j<s.size:=by
        by_cases hjl:j<s.size
        ·refine Or.inl ⟨hjl, ?_⟩;have:s[j].toNat=10:=Classical.byContradiction fun h=>hgo ⟨hjl,h⟩;simp;omega
        ·exact Or.inr hjl
       clear hgo hjk hn10;rcases hx with⟨hjl,b10⟩|hjl
       all_goals
        go_wp2
        go_roundw
        case rel=>exact⟨j,out,by omega,by omega,rfl,HB.out,HO.out,HX⟩
        case measure=>simp[intOf];omega
    ·have q35:((s[k].toNat:Int)==35)=false:=by simp;omega
     have h0:blk false (s.data.toList.drop k)=0:=by rw[HD.out];simp[blk,hsp,h35]
     have hne:s.data.toList.drop k≠[]:=by rw[HD.out];simp
     have HP:=z2c (fun W=>zto s k W hlt (by omega));cases hp:zbj (s.data.toList.drop k)with
     |ok kd t n=>
      rw[hp]at HP;simp only[zc5]at HP;have HP:=z2c HP;have hn:=(zc0 _).1 kd t n hp;rw[List.length_drop,zag]at hn;have HX:Hid ((zd2 (k+n) (s.data.toList.drop (k+n))).app (out++[⟨kd,k,t⟩])=R):=by
       have:=HK.out;rw[zzr hne h0 hp,SR.app_cons,z55]at this;exact this
      have HL:Hid (za6 (out++[⟨kd,k,t⟩])=za6 out++[.int .i64 kd,.int .i64 k,.string ⟨t.toArray⟩]):=zii out _;have HL2:Hid ((out++[(⟨kd,k,t⟩:Lx)]).length=out.length+1):=by show _=_;simp
      clear h0 hne hp h35;go_wp2_with(first|(go_at_call 74;(with_reducible refine(zbt s[k] _).mono ?_);rintro e w' ⟨rfl,rfl⟩;rw[hsp])|(go_at_call 141;(with_reducible refine(HP.out.out _).mono ?_);rintro e w' ⟨rfl,X,rfl⟩)|(at_builtin;refine zar rfl _ _ 86 rfl zxz w.heap.size rfl (((zdf hown X).alloc _).alloc _) (by simp[go_sem]<;>omega) ⟨_,0,none⟩ 1 1 [.int .i64 kd,.int .i64 k,.string ⟨t.toArray⟩] rfl rfl (zaf (c:= #[.int .i64 kd,.int .i64 k,.string ⟨t.toArray⟩]) (by simp[go_sem])) (by simp[Value.oneCell']) (by unfold maxLen;omega) (by omega) ?_;intro v1 W1 hown1 hg1;have hB1:=zaq hg1 (((zdf hown X).alloc _).alloc _) (HB.out.trans bel);clear hg1))
      go_roundw
      case rel=>exact⟨k+n,out++[⟨kd,k,t⟩],by omega,by rw[HL2.out];omega,by go_num,hB1.out,by rw[HL.out,HL2.out];exact hown1,HX⟩
      case measure=>simp[intOf];omega
     |bad n=>
      rw[hp]at HP;simp only[zc5]at HP;have HP:=z2c HP;have HX:Hid (R= .bad (k+n)):=by
       show _=_;rw[<-HK.out,zwk hne h0 hp];rfl
      clear h0 hne hp h35;go_wp2_with(first|(go_at_call 74;(with_reducible refine(zbt s[k] _).mono ?_);rintro e w' ⟨rfl,rfl⟩;rw[hsp])|(go_at_call 141;(with_reducible refine(HP.out.out _).mono ?_);rintro e w' ⟨rfl,X,rfl⟩))
      go_ret3
      rw[HX.out];exact⟨.slice none 0 0,HB.out.trans bel,rfl⟩
   ·have HX:Hid ((zd2 (k+1) (s.data.toList.drop (k+1))).app out=R):=by
     show _=_;rw[<-HK.out,zlr (a:=k) (l:=s.data.toList.drop k) 1 (by rw[HD.out];simp only[blk,hsp,if_true,List.drop_succ_cons,List.drop_zero];omega),z55]
    go_wp2_with(go_at_call 74;(with_reducible refine(zbt s[k] _).mono ?_);rintro e w' ⟨rfl,rfl⟩;rw[hsp])
    go_roundw
    case rel=>exact⟨k+1,out,by omega,by omega,by go_num,HB.out,hown,HX⟩
    case measure=>simp[intOf];omega
  ·have HX:Hid (R= .ok out):=by
    show _=_;rw[<-HK.out,zbv s k (by omega),zg8];simp[blk,SR.app]
   have hrd:=z2c hown;clear hown;go_wp2
   go_ret3
   rw[HX.out];exact⟨_,HB.out,rfl,hrd.out⟩
end Go.Proofs.YtiikamobcmgekaaGreatDoor
