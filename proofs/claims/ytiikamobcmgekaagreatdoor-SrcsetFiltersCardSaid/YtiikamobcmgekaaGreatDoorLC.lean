/- The walks of the lexer: pieces; texts quoted. -/
import Derived.Test.YtiikamobcmgekaaGreatDoorKA
import Derived.Test.YtiikamobcmgekaaGreatDoorLA
import Derived.Test.YtiikamobcmgekaaGreatDoorShelf
namespace Go.Proofs.YtiikamobcmgekaaGreatDoor
open Bool renaming false_eq_true→z4c
open Lib renaming hid→z2c,indexByte→z3b
open List renaming cons_append→z3m,length_drop→z2n,mem_singleton→z23,takeWhile→z4m
open Nat renaming le_refl→z2k
open Tryz renaming func187→z4u,ntmps187→z4n,prog→z2f,results187→z35,underlying135→z3t
set_option maxRecDepth 100000
set_option maxHeartbeats 4000000
open Go.RowKit
theorem z13 (l:Bs):(z3b l 10= -1->blk true l=l.length)/\(∀j:Nat,z3b l 10=j->blk true l=j+blk false (l.drop j)/\j<l.length):=by
 induction l with
 |nil=>exact⟨fun _=>rfl,fun j h=>by simp[z3b]at h⟩
 |cons c r ih=>
  by_cases hc:c=10
  ·subst hc;refine⟨fun h=>by simp[z3b]at h,fun j h=> ?_⟩;obtain rfl:j=0:=by simp[z3b]at h;omega
   exact⟨by simp[blk,spB],by simp⟩
  ·have hb:(c==10)=false:=by simpa using hc
   have hn: ¬c.toNat=10:=fun h=>hc (UInt8.toNat_inj.1 h);have hge:=Lib.indexByte_ge r 10;by_cases hm:z3b r 10= -1
   ·refine⟨fun _=>by simp[blk,hn,ih.1 hm],fun j h=> ?_⟩;simp[z3b,hb,hm]at h
   ·obtain⟨i,hi⟩: ∃i:Nat,z3b r 10=i:=⟨(z3b r 10).toNat,by omega⟩;obtain⟨h1,h2⟩:=ih.2 i hi;have e:z3b (c::r) 10=((i+1:Nat):Int):=by
     simp only[z3b,hb];rw[if_neg (by simp),if_neg (by simpa using hm),hi];rfl
    refine⟨fun h=>by rw[e]at h;omega,fun j h=> ?_⟩;obtain rfl:j=i+1:=by rw[e]at h;omega
    refine⟨?_,by simp;omega⟩;simp only[blk,if_neg hn,h1,List.drop_succ_cons];omega
theorem zpj {l:Bs} {c:UInt8} {r:Bs} (h:l=c::r) (hs:c.toNat=35):blk false l=blk true l:=by
 subst h;simp[blk,hs,spB]
theorem z10 {l:Bs} {c:UInt8} {r:Bs} (h:l=c::r) (hs:c.toNat=35):z3b l 10≠0:=by
 subst h;have hb:(c==10)=false:=by
  rw[beq_eq_false_iff_ne];intro h;subst h;simp at hs
 have:=Lib.indexByte_ge r 10;simp only[z3b,hb,z4c,if_false];split
 ·decide
 ·rename_i h;have:z3b r 10≠ -1:=by simpa using h
  omega
theorem zf3 (s:ByteArray) (k:Nat):(s.extract k s.size).data.toList=s.data.toList.drop k:=by
 rw[ByteArray.data_extract,Array.toList_extract,List.extract_eq_take_drop,List.take_of_length_le];rw[z2n,zag];exact z2k _
theorem z11 (s:ByteArray) (k:Nat) (w:World):Calls z2f 246 #[.string (s.extract k s.size),.int .u8 10] w fun e w'=>e= .returned (.int .i64 (z3b (s.data.toList.drop k) 10))/\w=w':=by
 refine(Tryz.strings_IndexByte (s.extract k s.size) 10 w).mono ?_;rintro e w' ⟨rfl,rfl⟩;rw[zf3];exact⟨rfl,rfl⟩
theorem zpm (s:ByteArray) (w:World) (hm:s.size<=9223372036854775807):
  Calls z2f 186 #[.string s] w fun e w'=>e= .returned (.int .i64 (blk false s.data.toList:Nat))/\w=w':=by
 go_enter Tryz.func186,Tryz.ntmps186;go_wp2_with fail
 go_loop [3] (fun i=> ∃k:Nat,k<=s.size/\i= .int .i64 k/\Hid (k+blk false (s.data.toList.drop k)=blk false s.data.toList)) (fun i=>s.size-(intOf i).toNat)
 case atStart=>exact⟨0,Nat.zero_le _,rfl,by show _=_;simp⟩
 case round=>
  obtain⟨k,hk,rfl,HK⟩:=hrel;by_cases hlt:k<s.size
  ·have HD:=z2c (za9 s k hlt);cases hsp:spB s[k]
   ·by_cases h35:s[k].toNat=35
    ·have hq:((s[k].toNat:Int)==35)=true:=by simp;omega
     have HI:=z2c (z11 s k);have HB:=z2c (z13 (s.data.toList.drop k));have HS:=z2c (zpj HD.out h35);have hge:=Lib.indexByte_ge (s.data.toList.drop k) 10;have hne:=z10 HD.out h35;generalize hj:z3b (s.data.toList.drop k) 10=j at*;clear hj h35;by_cases hm1:j= -1
     ·have HB1:Hid (s.size=blk false s.data.toList):=by
       have h1:=HK.out;rw[HS.out,HB.out.1 hm1,z2n,zag]at h1;show _=_;omega
      subst hm1;clear hge HB hne;go_wp2_with(first|(go_at_call 33;(with_reducible refine(zcb s[k] _).mono ?_);rintro e w' ⟨rfl,rfl⟩;rw[hsp])|(go_at_call 246;(with_reducible refine(HI.out _).mono ?_);rintro e w' ⟨rfl,rfl⟩))
      go_ret;exact⟨zff (by rw[<-HB1.out]),rfl⟩
     ·obtain⟨i,rfl⟩: ∃i:Nat,j=i:=⟨j.toNat,by omega⟩;have HB2:=z2c (HB.out.2 i rfl);have hi:k+i<s.size:=by have:=HB2.out.2;rw[z2n,zag]at this;omega
      clear hge hm1 HB;have hge: ¬((i:Int)<0):=by omega
      have hne:0<i:=by omega
      go_wp2_with(first|(go_at_call 33;(with_reducible refine(zcb s[k] _).mono ?_);rintro e w' ⟨rfl,rfl⟩;rw[hsp])|(go_at_call 246;(with_reducible refine(HI.out _).mono ?_);rintro e w' ⟨rfl,rfl⟩))
      go_round
      case rel=>
       refine⟨k+i,by omega,by go_num, ?_⟩;have h1:=HK.out;rw[HS.out,HB2.out.1,List.drop_drop]at h1;show _=_;omega
      case measure=>
       simp[intOf];omega
    ·have hq:((s[k].toNat:Int)==35)=false:=by simp;omega
     have HN:Hid (¬s[k].toNat=35):=h35;clear h35;go_wp2_with(first|(go_at_call 33;(with_reducible refine(zcb s[k] _).mono ?_);rintro e w' ⟨rfl,rfl⟩;rw[hsp]))
     go_ret;have h1:=HK.out;rw[HD.out,blk,if_neg (by rw[hsp];simp),if_neg HN.out]at h1;exact⟨zff (by omega),rfl⟩
   ·go_wp2_with(first|(go_at_call 33;(with_reducible refine(zcb s[k] _).mono ?_);rintro e w' ⟨rfl,rfl⟩;rw[hsp]))
    go_round
    case rel=>
     refine⟨k+1,by omega,by go_num, ?_⟩;have h1:=HK.out;rw[HD.out,blk,if_pos hsp]at h1;show _=_;omega
    case measure=>simp[intOf];omega
  ·have HE:=z2c (zbv s k (by omega));go_wp2
   go_ret;have h1:=HK.out;rw[HE.out,blk]at h1;exact⟨zff (by omega),rfl⟩
theorem zci:SlT z2f 135 5 (.int .u8 0) 1 1:=⟨by kernel_rfl,by kernel_rfl,by kernel_rfl,by decide⟩
def txtV:TR->Value
 | .ok t n=> .tuple #[.string ⟨t.toArray⟩,.int .i64 n,.int .i64 0]
 | .bad n=> .tuple #[.string ⟨#[]⟩,.int .i64 n,.int .i64 2]
 | .op=> .tuple #[.string ⟨#[]⟩,.int .i64 0,.int .i64 2]
theorem zhg (w:World):w.ownsRow w.heap.size 5 1 (.slice none 0 0) ([]:Bs).length (([]:Bs).map bv):=World.ownsRow_nil _ _ _ _
theorem zzj (s:ByteArray) (w:World) (h1:1<=s.size) (hm:s.size<=140737488355328):
  Calls z2f 251 #[.string s] w (Ret (txtV ((strL (s.data.toList.drop 1)).app [] 1)) w):=by
 obtain⟨R,hR⟩: ∃R,(strL (s.data.toList.drop 1)).app [] 1=R:=⟨_,rfl⟩;rw[hR];have HR:=z2c hR;clear hR;go_enter Tryz.func251,Tryz.ntmps251;go_wp2_with fail
 go_loopw [5,6] (fun v i wr=> ∃(k:Nat) (out:Bs) (X:Gr),k<=s.size/\out.length<=k/\i= .int .i64 k/\wr=w.grow X/\(w.grow X).ownsRow w.heap.size 5 1 v out.length (out.map bv)/\Hid ((strL (s.data.toList.drop k)).app out k=R)) (fun _ i _=>s.size-(intOf i).toNat)
 case atStart=>exact⟨1,[],_,h1,by simp,rfl,(zb6 w).symm,by rw[zb6];exact zhg w,HR⟩
 case round=>
  obtain⟨k,out,X,hk,hout,rfl,rfl,hown,HK⟩:=hrel;by_cases hlt:k<s.size
  ·have HD:=z2c (za9 s k hlt);by_cases c34:s[k].toNat=34
   ·have b34:((s[k].toNat:Int)==34)=true:=by simp;omega
    have HV:Hid (txtV R= .tuple #[.string ⟨out.toArray⟩,.int .i64 (k+1:Nat),.int .i64 0]):=by
     show _=_;rw[<-HK.out,HD.out,ze3 _ c34];simp[TR.app,txtV];omega
    clear c34;have hcv:=(Rd.own hown).str 135 9 5 z3t Tryz.underlying5 Tryz.underlying9;go_wp2
    go_ret3
    exact Ret.of (by rw[HV.out];rfl) bel
   ·have b34:((s[k].toNat:Int)==34)=false:=by simp;omega
    by_cases c92:s[k].toNat=92
    ·have b92:((s[k].toNat:Int)==92)=true:=by simp;omega
     by_cases hk1:k+1<s.size
     ·have HD1:=z2c (za9 s (k+1) hk1);by_cases hd:s[k+1].toNat=92\/s[k+1].toNat=34
      ·have HV:Hid ((strL (s.data.toList.drop (k+2))).app (out++[s[k+1]]) (k+2)=R):=by
        have:=HK.out;rw[HD.out,HD1.out,zg5 _ c92 hd,TR.app_app]at this;exact this
       have HL:Hid ((out++[s[k+1]]).map bv=out.map bv++[.int .u8 (s[k+1].toNat:Int)]):=by show _=_;simp[bv]
       have HL2:Hid ((out++[s[k+1]]).length=out.length+1):=by show _=_;simp
       have hd2:((s[k+1].toNat:Int)==92)=true\/((s[k+1].toNat:Int)==92)=false/\((s[k+1].toNat:Int)==34)=true:=by
        by_cases h:s[k+1].toNat=92
        ·exact Or.inl (by simp;omega)
        ·exact Or.inr ⟨by simp;omega,by simp;omega⟩
       have hi:(0:Int)<=(k:Int)+1:=by omega
       have hi2:((k:Int)+1).toNat=k+1:=by omega
       clear c34 c92 hd;rcases hd2 with b1|⟨b1,b2⟩
       all_goals
        go_wp2_with(at_builtin;refine zbx rfl _ _ 135 rfl zci w rfl (hown.alloc _) bel ⟨_,0,none⟩ 1 1 [.int .u8 (s[k+1].toNat:Int)] rfl rfl (zaf (c:= #[.int .u8 (s[k+1].toNat:Int)]) (by simp[go_sem])) (by simp[Value.oneCell']) (by unfold maxLen;omega) (by omega) ?_;intro v' Z' hown' _)
        go_roundw
        case rel=>exact⟨k+2,out++[s[k+1]],Z',by omega,by rw[HL2.out];omega,by go_num,rfl,by rw[HL.out,HL2.out];exact hown',HV⟩
        case measure=>simp[intOf];omega
      ·have HV:Hid (txtV R= .tuple #[.string ⟨#[]⟩,.int .i64 k,.int .i64 2]):=by
        show _=_;rw[<-HK.out,HD.out,HD1.out,zdv _ c92 hd];simp[TR.app,txtV]
       have b1:((s[k+1].toNat:Int)==92)=false:=by simp;omega
       have b2:((s[k+1].toNat:Int)==34)=false:=by simp;omega
       have hi:(0:Int)<=(k:Int)+1:=by omega
       have hi2:((k:Int)+1).toNat=k+1:=by omega
       clear c34 c92 hd;go_wp2
       go_ret3
       exact Ret.of (by rw[HV.out];rfl) bel
     ·have HE:=z2c (zbv s (k+1) (by omega));have HV:Hid (txtV R= .tuple #[.string ⟨#[]⟩,.int .i64 k,.int .i64 2]):=by
       show _=_;rw[<-HK.out,HD.out,HE.out,zdu c92];simp[TR.app,txtV]
      clear c34 c92;go_wp2
      go_ret3
      exact Ret.of (by rw[HV.out];rfl) bel
    ·have b92:((s[k].toNat:Int)==92)=false:=by simp;omega
     cases ho:oddB s[k]
     ·have HV:Hid ((strL (s.data.toList.drop (k+1))).app (out++[s[k]]) (k+1)=R):=by
       have:=HK.out;rw[HD.out,ze4 _ c34 c92 (by rw[ho];simp),TR.app_app]at this;exact this
      have HL:Hid ((out++[s[k]]).map bv=out.map bv++[.int .u8 (s[k].toNat:Int)]):=by show _=_;simp[bv]
      have HL2:Hid ((out++[s[k]]).length=out.length+1):=by show _=_;simp
      clear c34 c92;go_wp2_with(first|(go_at_call 208;(with_reducible refine(zj5 s[k] _).mono ?_);rintro e w' ⟨rfl,rfl⟩;rw[ho])|(at_builtin;refine zbx rfl _ _ 135 rfl zci w rfl (hown.alloc _) bel ⟨_,0,none⟩ 1 1 [.int .u8 (s[k].toNat:Int)] rfl rfl (zaf (c:= #[.int .u8 (s[k].toNat:Int)]) (by simp[go_sem])) (by simp[Value.oneCell']) (by unfold maxLen;omega) (by omega) ?_;intro v' Z' hown' _))
      go_roundw
      case rel=>exact⟨k+1,out++[s[k]],Z',by omega,by rw[HL2.out];omega,by go_num,rfl,by rw[HL.out,HL2.out];exact hown',HV⟩
      case measure=>simp[intOf];omega
     ·have HV:Hid (txtV R= .tuple #[.string ⟨#[]⟩,.int .i64 k,.int .i64 2]):=by
       show _=_;rw[<-HK.out,HD.out,zg4 _ c34 c92 ho];simp[TR.app,txtV]
      clear c34 c92;go_wp2_with(go_at_call 208;(with_reducible refine(zj5 s[k] _).mono ?_);rintro e w' ⟨rfl,rfl⟩;rw[ho])
      go_ret3
      exact Ret.of (by rw[HV.out];rfl) bel
  ·have HE:=z2c (zbv s k (by omega));have HV:Hid (txtV R= .tuple #[.string ⟨#[]⟩,.int .i64 0,.int .i64 2]):=by
    show _=_;rw[<-HK.out,HE.out,strL];simp[TR.app,txtV]
   go_wp2
   go_ret3
   exact Ret.of (by rw[HV.out];rfl) bel
open Go.RowKit Go.Shelf
theorem zx5 (c:UInt8):decide (0<=z3b [58,59,42] c)=mrkB c:=by
 have h: ∀n:Fin 256,decide (0<=z3b [58,59,42] (UInt8.ofNat n.val))=decide (n.val=58\/n.val=59\/n.val=42):=by decide+kernel
 have:=h ⟨c.toNat,c.toNat_lt⟩;simpa[mrkB]using this
theorem z0g (c:UInt8) (w:World):Calls z2f 246 #[.string ⟨#[58,59,42]⟩,.int .u8 c.toNat] w fun e w'=>e= .returned (.int .i64 (z3b [58,59,42] c))/\w=w':=by
 refine(Tryz.strings_IndexByte _ _ w).mono ?_;rintro e w' ⟨rfl,rfl⟩;simp
theorem zmk (s:ByteArray) (n:Nat):s.extract 0 n=⟨(s.data.toList.take n).toArray⟩:=by
 apply ByteArray.ext;rw[ByteArray.data_extract];apply Array.toList_inj.1;rw[Array.toList_extract,List.extract_eq_take_drop];simp
theorem zx7:zla 254 wchB:=⟨enters_of Tryz.func254 (by kernel_rfl) rfl,z0i⟩
theorem zus:zla 108 digB:=⟨enters_of Tryz.func108 (by kernel_rfl) rfl,zc1⟩
def zen (q:Bool):PR->Value
 | .ok k t n=> .tuple #[.agg #[.int .i64 k,.int .i64 0,.string ⟨t.toArray⟩],.int .i64 n,.int .i64 0]
 | .bad n=> .tuple #[.agg #[.int .i64 (if q then 3 else 0),.int .i64 0,.string ⟨#[]⟩],.int .i64 n,.int .i64 2]
def zhe (l:Bs):Value:=zen (decide ((l.headD 0).toNat=34)) (zbj l)
theorem zhd {l:Bs} {c:UInt8} {r:Bs} (h:l=c::r):zhe l=zen (decide (c.toNat=34)) (zbj (c::r)):=by subst h;rfl
theorem zmj (p:UInt8->Bool) (r:Bs):r.take (tw p r)=r.takeWhile p:=by
 induction r with
 |nil=>rfl
 |cons c r ih=>
  cases h:p c
  ·rw[zds r h];simp[h]
  ·rw[zdr r h];simp[h,ih]
theorem zxd (s:ByteArray) (w:World) (h1:1<=s.size) (hm:s.size<=140737488355328):
  Calls z2f 187 #[.string s] w (Ret (zhe s.data.toList) w):=by
 have HS:Hid (s.data.toList=s[0]::s.data.toList.drop 1):=by have:=za9 s 0 h1;rw[List.drop_zero]at this;exact this
 have HT:=z2c (fun W=>zzj s W h1 hm);have HI:=z2c (zx5 s[0]);generalize hj:z3b [58,59,42] s[0]=j at*;have HJ:Hid (∀W,Calls z2f 246 #[.string ⟨#[58,59,42]⟩,.int .u8 s[0].toNat] W fun e w'=>e= .returned (.int .i64 j)/\W=w'):=fun W=>hj ▸ z0g s[0] W;clear hj;by_cases c34:s[0].toNat=34
 ·have b34:((s[0].toNat:Int)==34)=true:=by simp;omega
  have HV:Hid (zhe s.data.toList=zen true (strL (s.data.toList.drop 1)).pr):=by
   show _=_;rw[zhd HS.out,zl0 _ c34,decide_eq_true c34]
  generalize strL (s.data.toList.drop 1)=R at*;cases R;all_goals
   simp only[TR.app,TR.pr,txtV,List.nil_append,zen,if_true]at HT HV;have HT:=z2c HT;have HV:=z2c HV;clear c34 HS;go_enter z4u,z4n;go_wp2_with(first|(go_at_call 246;(with_reducible refine(HJ.out _).mono ?_);rintro e w' ⟨rfl,rfl⟩)|(go_at_call 251;(with_reducible refine(HT.out.out _).mono ?_);rintro e w' ⟨rfl,X,rfl⟩))
   rw[HV.out.out];refine bodyPost_ret ?_ rfl (Ret.of rfl bel);simp[results,z35,go_sem]
 ·have b34:((s[0].toNat:Int)==34)=false:=by simp;omega
  cases hl:lowB s[0]
  ·cases hd:digB s[0]
   ·have HV:Hid (zhe s.data.toList=zen false (if mrkB s[0]then .ok 4 [s[0]] 1 else .bad 0)):=by
     show _=_;rw[zhd HS.out,zbj,if_neg c34,decide_eq_false c34,if_neg (by rw[hl];simp),if_neg (by rw[hd];simp)]
    have HE:Hid (s.extract 0 1=⟨[s[0]].toArray⟩):=by
     show _=_;rw[zmk,HS.out];rfl
    cases hm:mrkB s[0]
    ·have hj:decide (0<=j)=false:=by have:=HI.out;rw[hm]at this;exact this
     rw[hm]at HV;simp only[zen,z4c,if_false]at HV;have HV:=z2c HV;clear HI hm HS c34;go_enter z4u,z4n;go_wp2_with(first|(go_at_call 246;(with_reducible refine(HJ.out _).mono ?_);rintro e w' ⟨rfl,rfl⟩)|(go_at_call 252;(with_reducible refine(zel s[0] _).mono ?_);rintro e w' ⟨rfl,rfl⟩;rw[hl])|(go_at_call 108;(with_reducible refine(zc1 s[0] _).mono ?_);rintro e w' ⟨rfl,rfl⟩;rw[hd]))
     rw[HV.out.out];refine bodyPost_ret ?_ rfl (Ret.of rfl bel);simp[results,z35,go_sem]
    ·have hj:decide (0<=j)=true:=by have:=HI.out;rw[hm]at this;exact this
     rw[hm]at HV;simp only[zen,if_true]at HV;have HV:=z2c HV;clear HI hm HS c34;go_enter z4u,z4n;go_wp2_with(first|(go_at_call 246;(with_reducible refine(HJ.out _).mono ?_);rintro e w' ⟨rfl,rfl⟩)|(go_at_call 252;(with_reducible refine(zel s[0] _).mono ?_);rintro e w' ⟨rfl,rfl⟩;rw[hl])|(go_at_call 108;(with_reducible refine(zc1 s[0] _).mono ?_);rintro e w' ⟨rfl,rfl⟩;rw[hd]))
     rw[HV.out.out,<-HE.out];refine bodyPost_ret ?_ rfl (Ret.of rfl bel);simp[results,z35,go_sem]
   ·obtain⟨n,hn⟩: ∃n,tw digB (s.data.toList.drop 1)=n:=⟨_,rfl⟩;have hns:n<s.size:=by have:=zhv digB (s.data.toList.drop 1);rw[hn,z2n,zag]at this;omega
    have HV:Hid (zhe s.data.toList=zen false (if n<9 then .ok 2 (s.data.toList.take (1+n)) (1+n)else .bad 0)):=by
     show _=_;rw[zhd HS.out,zbj,if_neg c34,decide_eq_false c34,if_neg (by rw[hl];simp),if_pos hd];have e1:(z4m digB (s.data.toList.drop 1)).length=n:=hn;have e2:s[0]::z4m digB (s.data.toList.drop 1)=s.data.toList.take (1+n):=by
      rw[<-zmj,hn,Nat.add_comm 1 n];conv=>rhs;rw[HS.out]
      rw[List.take_succ_cons]
     rw[e1,e2]
    have HE:=z2c (zmk s (1+n));have HR:Hid (∀W,Calls z2f 253 #[.string s,.func (.func 108) #[] #[]] W fun e w'=>e= .returned (.int .i64 (1+n:Nat))/\W=w'):=fun W=>hn ▸ zww s _ digB W zus h1 (by omega);clear hn;by_cases h9:n<9
    ·have b9:decide ((1:Int)+n<=9)=true:=by simp;omega
     rw[if_pos h9]at HV;simp only[zen]at HV;have HV:=z2c HV;clear HI HS c34 h9;go_enter z4u,z4n;go_wp2_with(first|(go_at_call 246;(with_reducible refine(HJ.out _).mono ?_);rintro e w' ⟨rfl,rfl⟩)|(go_at_call 252;(with_reducible refine(zel s[0] _).mono ?_);rintro e w' ⟨rfl,rfl⟩;rw[hl])|(go_at_call 108;(with_reducible refine(zc1 s[0] _).mono ?_);rintro e w' ⟨rfl,rfl⟩;rw[hd])|(go_at_call 253;(with_reducible refine(HR.out _).mono ?_);rintro e w' ⟨rfl,rfl⟩))
     rw[HV.out.out,<-HE.out];refine bodyPost_ret ?_ rfl (Ret.of rfl bel);simp[results,z35,go_sem]
    ·have b9:decide ((1:Int)+n<=9)=false:=by simp;omega
     rw[if_neg h9]at HV;simp only[zen,z4c,if_false]at HV;have HV:=z2c HV;clear HI HS c34 h9;go_enter z4u,z4n;go_wp2_with(first|(go_at_call 246;(with_reducible refine(HJ.out _).mono ?_);rintro e w' ⟨rfl,rfl⟩)|(go_at_call 252;(with_reducible refine(zel s[0] _).mono ?_);rintro e w' ⟨rfl,rfl⟩;rw[hl])|(go_at_call 108;(with_reducible refine(zc1 s[0] _).mono ?_);rintro e w' ⟨rfl,rfl⟩;rw[hd])|(go_at_call 253;(with_reducible refine(HR.out _).mono ?_);rintro e w' ⟨rfl,rfl⟩))
     rw[HV.out.out];refine bodyPost_ret ?_ rfl (Ret.of rfl bel);simp[results,z35,go_sem]
  ·obtain⟨n,hn⟩: ∃n,tw wchB (s.data.toList.drop 1)=n:=⟨_,rfl⟩;have hns:n<s.size:=by have:=zhv wchB (s.data.toList.drop 1);rw[hn,z2n,zag]at this;omega
   have HV:Hid (zhe s.data.toList=zen false (if zau (s.data.toList.take (1+n))then .ok 1 (s.data.toList.take (1+n)) (1+n)else .bad 0)):=by
    show _=_;rw[zhd HS.out,zbj,if_neg c34,decide_eq_false c34,if_pos hl];have e1:(z4m wchB (s.data.toList.drop 1)).length=n:=hn;have e2:s[0]::z4m wchB (s.data.toList.drop 1)=s.data.toList.take (1+n):=by
     rw[<-zmj,hn,Nat.add_comm 1 n];conv=>rhs;rw[HS.out]
     rw[List.take_succ_cons]
    rw[e1,e2]
   have HE:=z2c (zmk s (1+n));have HR:Hid (∀W,Calls z2f 253 #[.string s,.func (.func 254) #[] #[]] W fun e w'=>e= .returned (.int .i64 (1+n:Nat))/\W=w'):=fun W=>hn ▸ zww s _ wchB W zx7 h1 (by omega);have HD:Hid ((s.extract 0 (1+n)).data.toList=s.data.toList.take (1+n)):=by show _=_;rw[HE.out]
   have HZ:Hid ((s.extract 0 (1+n)).size<=9223372036854775807):=by show _<=_;rw[ByteArray.size_extract];omega
   have HW:Hid (∀W,Calls z2f 124 #[.string (s.extract 0 (1+n))] W (Ret (.bool (zau (s.data.toList.take (1+n)))) W)):=fun W=>HD.out ▸ zru (s.extract 0 (1+n)) W HZ.out;clear hn;cases hw:zau (s.data.toList.take (1+n))
   ·rw[hw]at HV HW;simp only[zen,z4c,if_false]at HV;have HV:=z2c HV;clear HI HS c34 hw HD HZ;go_enter z4u,z4n;go_wp2_with(first|(go_at_call 246;(with_reducible refine(HJ.out _).mono ?_);rintro e w' ⟨rfl,rfl⟩)|(go_at_call 252;(with_reducible refine(zel s[0] _).mono ?_);rintro e w' ⟨rfl,rfl⟩;rw[hl])|(go_at_call 253;(with_reducible refine(HR.out _).mono ?_);rintro e w' ⟨rfl,rfl⟩)|(go_at_call 124;(with_reducible refine(HW.out _).mono ?_);rintro e w' ⟨rfl,X,rfl⟩))
    rw[HV.out.out];refine bodyPost_ret ?_ rfl (Ret.of rfl bel);simp[results,z35,go_sem]
   ·rw[hw]at HV HW;simp only[zen,if_true]at HV;have HV:=z2c HV;clear HI HS c34 hw HD HZ;go_enter z4u,z4n;go_wp2_with(first|(go_at_call 246;(with_reducible refine(HJ.out _).mono ?_);rintro e w' ⟨rfl,rfl⟩)|(go_at_call 252;(with_reducible refine(zel s[0] _).mono ?_);rintro e w' ⟨rfl,rfl⟩;rw[hl])|(go_at_call 253;(with_reducible refine(HR.out _).mono ?_);rintro e w' ⟨rfl,rfl⟩)|(go_at_call 124;(with_reducible refine(HW.out _).mono ?_);rintro e w' ⟨rfl,X,rfl⟩))
    rw[HV.out.out,<-HE.out];refine bodyPost_ret ?_ rfl (Ret.of rfl bel);simp[results,z35,go_sem]
attribute [local go_sem] Oper.semAt_some
def LE.vals (x:LE):Array Value:= #[.agg #[.int .i64 x.kind,.int .i64 x.at_,.string ⟨x.text.toArray⟩],.int .i64 x.err]
theorem z0p (s:ByteArray) (k:Nat) (W:World) (hm:s.size<=140737488355328):Calls z2f 186 #[.string (s.extract k s.size)] W fun e w'=>e= .returned (.int .i64 (blk false (s.data.toList.drop k):Nat))/\W=w':=by
 have:=zpm (s.extract k s.size) W (by rw[ByteArray.size_extract];omega);rwa[zf3]at this
theorem zzx (s:ByteArray) (k:Nat) (W:World) (hk:k<s.size) (hm:s.size<=140737488355328):Calls z2f 187 #[.string (s.extract k s.size)] W (Ret (zhe (s.data.toList.drop k)) W):=by
 have:=zxd (s.extract k s.size) W (by rw[ByteArray.size_extract];omega) (by rw[ByteArray.size_extract];omega);rwa[zf3]at this
theorem zoq (s:ByteArray) (bs:Nat) (bw:Nat->Prop) (W:World) (hb:Boxed W bs 9 (.string s)) (hbw: ¬bw bs) (hm:s.size<=140737488355328):
  zmd z2f 185 #[.pointer (some ⟨bs,0,none⟩)] LE.vals (fun _=>False) bw (yldL 0 s.data.toList) W:=by
 intro l J Jx hJ hY h0;refine callsIn_of_wp Tryz.func185 rfl trivial ?_ rfl;have hc:=hb.cell;have HB:=z2c (zpm s W (by omega));simp only[Tryz.ntmps185,List.size_toArray,List.length_cons,List.length_nil,Nat.reduceAdd,Nat.reduceSub,Array.replicate_succ,Array.replicate_zero,List.push_toArray,List.append_toArray,List.nil_append,z3m];gi_wp2_with (gi_at_call 186;refine(callsIn_wide.2 HB.out).mono ?_;rintro e w' ⟨rfl,rfl⟩)
 clear hc;gi_loopw [3] (fun p wr=> ∃(k:Nat) (pre:List LE),k<=s.size/\p= .int .i64 k/\Boxed wr bs 9 (.string s)/\J pre wr/\Hid (pre++yldH k (s.data.toList.drop k)=yldL 0 s.data.toList)) (fun p _=>s.size-(intOf p).toNat)
 case atStart=>
  have:=zsv false s.data.toList;rw[zag]at this;exact⟨_,[],this,rfl,hb,h0,by show _=_;rw[zu8];simp⟩
 case round=>
  obtain⟨k,pre,hk,rfl,hbx,hJs,HK⟩:=hrel;have hc:=hbx.cell;by_cases hlt:k<s.size
  ·have HP:=z2c (fun W=>zzx s k W hlt hm);have hne:s.data.toList.drop k≠[]:=by rw[za9 s k hlt];simp
   cases hp:zbj (s.data.toList.drop k)with
   |ok kd t n=>
    unfold zhe at HP;rw[hp]at HP;simp only[zen]at HP;have HP:=z2c HP;have HY:=z2c (z09 (a:=k) hne hp);have hn:=(zc0 _).1 kd t n hp;rw[z2n,zag]at hn;clear hne hp;gi_wp2_with (gi_at_call 187;refine(callsIn_wide.2 (HP.out.out _)).mono ?_;rintro e w' ⟨rfl,X,rfl⟩)
    have HX:Hid ((pre++[(⟨kd,k,t,0⟩:LE)])<+:yldL 0 s.data.toList):=⟨yldL (k+n) ((s.data.toList.drop k).drop n),by rw[<-HK.out,HY.out];simp⟩;have HN:Hid ((pre++[(⟨kd,k,t,0⟩:LE)])++yldL (k+n) (s.data.toList.drop (k+n))=yldL 0 s.data.toList):=by
     show _=_;rw[<-HK.out,HY.out,List.drop_drop];simp
    have hT:zab (fun _=>False) wr ((wr.grow X).alloc (Obj.cells #[.int .i64 kd,.int .i64 k,.string ⟨t.toArray⟩] 112)):=((zab.refl _ _).grow X).alloc _;have hb2:=hT.boxed hbx (fun h=>h);obtain⟨fn,tmps,assign,body,hy,hR⟩:=hY pre ⟨kd,k,t,0⟩ _ HX.out (hJ _ _ _ hJs hT);simp only[LE.vals,Int.natCast_zero]at hy;clear hc hT;rw[hy];go_simp
    refine hR.mono ?_;rintro e W3 (⟨rfl,hJ3,ht⟩|⟨rfl,hJx⟩)
    ·have hb3:=ht.boxed hb2 hbw;have hc3:=hb3.cell;have hle:k+n<=s.size:=by omega
     have HB2:=z2c (fun W=>z0p s (k+n) W hm);have hbl:=zsv false (s.data.toList.drop (k+n));rw[z2n,zag]at hbl;have hkn:((k+n:Nat):Int)=(k:Int)+n:=Int.natCast_add _ _;gi_wp2_with (gi_at_call 186;refine(callsIn_wide.2 (HB2.out _)).mono ?_;rintro e w' ⟨rfl,rfl⟩)
     go_roundw
     case rel=>
      refine⟨k+n+blk false (s.data.toList.drop (k+n)),pre++[⟨kd,k,t,0⟩],by omega,by go_num,hb3,hJ3, ?_⟩;show _=_;rw[<-HN.out,zu8 (k+n),List.drop_drop]
     case measure=>simp[intOf];omega
    ·gi_wp2;refine bodyPost_ret (results_none rfl _ _ _) rfl ?_;exact⟨⟨_,rfl⟩,.inr ⟨pre,_,HX.out,hJx⟩⟩
   |bad n=>
    unfold zhe at HP;rw[hp]at HP;simp only[zen]at HP;generalize hq:(if decide ((List.headD (List.drop k s.data.toList) 0).toNat=34)=true then(3:Int)else 0)=q at HP;have HP:=z2c HP;have HY:=z2c (zzb (a:=k) hne hp);have hn:=(zc0 _).2 n hp;rw[z2n,zag]at hn;clear hne hp hq;gi_wp2_with (gi_at_call 187;refine(callsIn_wide.2 (HP.out.out _)).mono ?_;rintro e w' ⟨rfl,X,rfl⟩)
    have HX:Hid (pre++[(⟨0,k+n,[],2⟩:LE)]=yldL 0 s.data.toList):=by
     show _=_;rw[<-HK.out,HY.out]
    have hT:zab (fun _=>False) wr ((wr.grow X).alloc (Obj.cells #[.int .i64 q,.int .i64 0,.string ⟨#[]⟩] 112)):=((zab.refl _ _).grow X).alloc _;obtain⟨fn,tmps,assign,body,hy,hR⟩:=hY pre ⟨0,k+n,[],2⟩ _ ⟨[],by rw[HX.out];simp⟩ (hJ _ _ _ hJs hT);simp only[LE.vals,Int.natCast_add,Int.cast_ofNat_Int]at hy;clear hc hT;rw[hy];go_simp
    refine hR.mono ?_;rintro e W3 (⟨rfl,hJ3,ht⟩|⟨rfl,hJx⟩)
    ·gi_wp2;refine bodyPost_ret (results_none rfl _ _ _) rfl ?_;exact⟨⟨_,rfl⟩,.inl (HX.out ▸ hJ3)⟩
    ·gi_wp2;refine bodyPost_ret (results_none rfl _ _ _) rfl ?_;exact⟨⟨_,rfl⟩,.inr ⟨pre,_,⟨[],by rw[HX.out];simp⟩,hJx⟩⟩
  ·have HE:=z2c (zbv s k (by omega));gi_wp2;go_end0;refine⟨⟨_,rfl⟩,.inl ?_⟩;have:=HK.out;rw[HE.out]at this;simp only[yldH,yldS,List.append_nil]at this;rw[<-this];exact hJs
theorem zxz:SlT z2f 86 112 (.agg #[.int .i64 0,.int .i64 0,.string ⟨#[]⟩]) 3 32:=⟨by kernel_rfl,by kernel_rfl,by kernel_rfl,by decide⟩
def Lx.cells (x:Lx):List Value:=[.int .i64 x.kind,.int .i64 x.at_,.string ⟨x.text.toArray⟩]
def za6 (l:List Lx):List Value:=l.flatMap Lx.cells
theorem ztt (s:ByteArray) (w:World):Calls z2f 110 #[.string s] w fun e w'=>e= .returned (.func (.func 185) #[] #[.pointer (some ⟨w.heap.size,0,none⟩)])/\w.alloc (.cells #[.string s] 9)=w':=by
 go_enter Tryz.func110,Tryz.ntmps110;go_wp2
 go_ret;exact⟨rfl,rfl⟩
def LE.lx (x:LE):Lx:=⟨x.kind,x.at_,x.text⟩
theorem zy9 {k:Nat->Bs->List LE} (h: ∀b l,∀x∈k b l,x.err=0\/x.err=2) (a:Nat) (r:Bs): ∀x∈yldS k a r,x.err=0\/x.err=2:=by
 intro x hx;cases r with
 |nil=>cases hx
 |cons c r=>
  simp only[yldS]at hx;cases hp:zbj (c::r)with
  |ok kd t n=>
   rw[hp]at hx;simp only[List.mem_cons]at hx;rcases hx with rfl|hx
   ·exact Or.inl rfl
   ·exact h _ _ x hx
  |bad n=>
   rw[hp]at hx;simp only[z23]at hx;subst hx;exact Or.inr rfl
theorem zzd (f:Nat): ∀a l,∀x∈yldF f a l,x.err=0\/x.err=2:=by
 induction f with
 |zero=>intro a l x hx;cases hx
 |succ f ih=>intro a l;exact zy9 ih _ _
theorem zrs (a:Nat) (l:Bs): ∀x∈yldL a l,x.err=0\/x.err=2:=zzd _ a l
theorem z1g {l:List LE} (h: ∀x∈l,x.err=0):toSR l= .ok (l.map LE.lx):=by
 induction l with
 |nil=>rfl
 |cons x l ih=>
  rw[toSR,if_pos (h x (List.mem_cons_self ..)),ih fun y hy=>h y (List.mem_cons_of_mem _ hy)];rfl
theorem zzi {p:List LE} {x:LE} {l:List LE} (h:(p++[x])<+:l) (hp: ∀y∈p,y.err=0) (hx:x.err≠0):toSR l= .bad x.at_:=by
 obtain⟨r,rfl⟩:=h;induction p with
 |nil=>simp[toSR,hx]
 |cons y p ih=>
  rw[z3m,z3m,toSR,if_pos (hp y (List.mem_cons_self ..)),ih fun z hz=>hp z (List.mem_cons_of_mem _ hz)];rfl
def z0y (R:SR) (w:World) (e:Ending) (w':World):Prop:=
 ∃v,Below w.heap.size w w'/\match R with
  | .ok l=>e= .returned (.tuple #[v,.int .i64 0,.int .i64 0])/\w'.ownsRow w.heap.size 112 3 v l.length (za6 l)
  | .bad n=>e= .returned (.tuple #[.slice none 0 0,.int .i64 n,.int .i64 2])
theorem zii (l:List Lx) (x:Lx):za6 (l++[x])=za6 l++x.cells:=by simp[za6]
theorem zj8 (l:List Lx):(za6 l).length=l.length*3:=by
 induction l with
 |nil=>rfl
 |cons x l ih=>simp only[za6,List.flatMap_cons,List.length_append,List.length_cons]at*;rw[ih];simp[Lx.cells];omega
def ScanI (w:World) (pre:List LE) (W:World):Prop:=
 (Boxed W w.heap.size 86 (.slice none 0 0)/\Boxed W (w.heap.size+1) 3 (.int .i64 0)/\Boxed W (w.heap.size+1+1) 24 (.int .i64 0))/\
 (∃v,Boxed W (w.heap.size+1+1+1) 86 v/\W.ownsRow (w.heap.size+7) 112 3 v pre.length (za6 (pre.map LE.lx)))/\(∀x∈pre,x.err=0)/\Below w.heap.size w W
def ScanX (w:World) (c:Code) (pre:List LE) (W:World):Prop:=
 c= .ret/\Boxed W w.heap.size 86 (.slice none 0 0)/\(∃p x,pre=p++[x]/\(∀y∈p,y.err=0)/\x.err≠0/\Boxed W (w.heap.size+1) 3 (.int .i64 x.at_)/\Boxed W (w.heap.size+1+1) 24 (.int .i64 x.err))/\Below w.heap.size w W
theorem zn8 (s:ByteArray) (w:World) (hm:s.size<=8192):Calls z2f 46 #[.string s] w (z0y (zd2 0 s.data.toList) w):=by
 refine(callsIn_wide (n:=0)).1 ?_;refine callsIn_of_wp_marks (n:=0) Tryz.func46 rfl trivial ?_ rfl;have h8: ¬(8192<(s.size:Int)):=by omega
 simp only[Tryz.ntmps46,List.size_toArray,List.length_cons,List.length_nil,Nat.reduceAdd,Nat.reduceSub,Array.replicate_succ,Array.replicate_zero,List.push_toArray,List.append_toArray,List.nil_append,z3m];gi_wp2_with (gi_at_call 110;refine(callsIn_wide.2 (ztt s _)).mono ?_;rintro e w' ⟨rfl,rfl⟩)
 refine ziu (B:=w.heap.size+5) (by simp) rfl (enters_of Tryz.func185 (by kernel_rfl) rfl) (encs:=LE.vals) (fun _=>rfl) (xs:=yldL 0 s.data.toList) (fun _=>False)
  (fun k=>w.heap.size<=k/\k<w.heap.size+4\/w.heap.size+7<=k) (fun _ h=>h.elim) (by intro k hk;omega) (ScanI w) (ScanX w) ?hI ?hIx ?h0 ?hiter ?hround ?hdone ?hstop
 case hI=>
  rintro pre A C ⟨⟨b1,b2,b3⟩,⟨v,bv,ho⟩,he,hB⟩ ht;refine⟨⟨ht.boxed b1 (by simp<;>omega),ht.boxed b2 (by simp<;>omega),ht.boxed b3 (by simp<;>omega)⟩,⟨v,ht.boxed bv (by simp<;>omega),ht.own ho (fun k hk=>by rcases hk with hk|hk|hk;exact hk.elim;omega;omega)⟩,he,hB.trans (ht.below hB.size (fun k hk=>by rcases hk with hk|hk|hk;exact hk.elim;omega;omega))⟩
 case hIx=>
  rintro c pre A C ⟨hc,b1,⟨p,x,h1,h2,h3,b2,b3⟩,hB⟩ ht;exact⟨hc,ht.boxed b1 (by simp<;>omega),⟨p,x,h1,h2,h3,ht.boxed b2 (by simp<;>omega),ht.boxed b3 (by simp<;>omega)⟩,hB.trans (ht.below hB.size (fun k hk=>by rcases hk with hk|hk;omega;omega))⟩
 case h0=>
  have b1:=(((Boxed.new w 86 (.slice none 0 0)).alloc (.cells #[.int .i64 0] 3)).alloc (.cells #[.int .i64 0] 24)).alloc (.cells #[.slice none 0 0] 86) |>.alloc (.cells #[.string s] 9)
  have b2:=((Boxed.new (w.alloc (.cells #[.slice none 0 0] 86)) 3 (.int .i64 0)).alloc (.cells #[.int .i64 0] 24)).alloc (.cells #[.slice none 0 0] 86) |>.alloc (.cells #[.string s] 9)
  have b3:=(Boxed.new ((w.alloc (.cells #[.slice none 0 0] 86)).alloc (.cells #[.int .i64 0] 3)) 24 (.int .i64 0)).alloc (.cells #[.slice none 0 0] 86) |>.alloc (.cells #[.string s] 9)
  have b4:=(Boxed.new (((w.alloc (.cells #[.slice none 0 0] 86)).alloc (.cells #[.int .i64 0] 3)).alloc (.cells #[.int .i64 0] 24)) 86 (.slice none 0 0)).alloc (.cells #[.string s] 9);simp only[World.size_alloc]at b2 b3 b4;exact⟨⟨b1,b2,b3⟩,⟨_,b4,World.ownsRow_nil _ _ _ _⟩,(fun x hx=>by cases hx),bel⟩
 case hiter=>
  intro o1 o2;have b5:=(Boxed.new ((((w.alloc (.cells #[.slice none 0 0] 86)).alloc (.cells #[.int .i64 0] 3)).alloc (.cells #[.int .i64 0] 24)).alloc (.cells #[.slice none 0 0] 86)) 9 (.string s)).alloc o1 |>.alloc o2
  simp only[World.size_alloc]at b5;exact zoq s _ _ _ b5 (by omega) (by omega)
 case hround=>
  rintro l pre ⟨kd,xa,xt,xe⟩ A hx ⟨_,_,_,hBA⟩ hsz;simp only[LE.vals];gi_wp2;refine⟨(zab.refl _ _).alloc _,fun A2 ht hI2 hs2=> ?_⟩;have hx2:A2.heap[A.heap.size]? =some (.cells #[.int .i64 kd,.int .i64 xa,.string ⟨xt.toArray⟩] 112):=(ht.block _ (by simp) (by omega)).trans (World.alloc_heap_new A _);have c0:A2.cell? ⟨A.heap.size,0,none⟩=some (.int .i64 kd):=by simp[World.cell?,hx2]
  have c1:A2.cell? ⟨A.heap.size,1,none⟩=some (.int .i64 xa):=by simp[World.cell?,hx2]
  have c2:A2.cell? ⟨A.heap.size,2,none⟩=some (.string ⟨xt.toArray⟩):=by simp[World.cell?,hx2]
  clear hx2 ht;obtain⟨⟨b1,b2,b3⟩,⟨v,bv,ho⟩,he,hB⟩:=hI2;have d1:=b1.cell;have d2:=b2.cell;have d3:=b3.cell;have d4:=bv.cell;have e1:=b1.frozen;have e2:=b2.frozen;have e3:=b3.frozen;have hxe:=zrs 0 s.data.toList _ (hx.subset (List.mem_append_right _ (z23.2 rfl)));simp only at hxe;have HX:=z2c hx;have HE:=z2c he;have HB:=z2c hB;have hlen:pre.length<=1000000000:=by
   have h1:=hx.length_le;have h2:=zza 0 s.data.toList;rw[zag]at h2;simp at h1;omega
  have hs3:w.heap.size+8<=A2.heap.size:=by rw[hs2];simp;omega
  clear hx he hB hs2;rcases hxe with rfl|rfl
  ·simp only[Int.natCast_zero];gi_wp2_with (gi_at_builtin;go_loud(refine zd9 rfl _ _ 86 rfl zxz (w.heap.size+7) rfl (ho.alloc _) (by simp;omega) ⟨_,0,none⟩ 0 1 [.int .i64 kd,.int .i64 xa,.string ⟨xt.toArray⟩] rfl rfl (zaf (c:= #[.int .i64 kd,.int .i64 xa,.string ⟨xt.toArray⟩]) (by simp[go_sem])) (by simp[Value.oneCell']) (by unfold maxLen;omega) (by omega) ?_);intro g cap W' ho' ht';have bv':=ht'.boxed (bv.alloc _) (by omega);have d5:=bv'.cell;have e5:=bv'.frozen)
   have hT:zab (fun k=>w.heap.size<=k/\k<w.heap.size+4\/w.heap.size+7<=k) A2 (W'.setCell ⟨w.heap.size+1+1+1,0,none⟩ (.slice (some ⟨g,0,none⟩) (pre.length+0+1) cap)):=
    (((zab.refl _ _).alloc _).trans (ht'.mono fun k hk=>Or.inr hk)).setCell (Or.inr (by show _\/_;simp<;>omega)) _
   refine⟨hT,⟨(ht'.boxed (b1.alloc _) (by omega)).other (by omega) _,(ht'.boxed (b2.alloc _) (by omega)).other (by omega) _,(ht'.boxed (b3.alloc _) (by omega)).other (by omega) _⟩,⟨_,bv'.set _, ?_⟩, ?_,HB.out.trans (hT.below HB.out.size (fun k hk=>by rcases hk with hk|hk<;>omega))⟩
   ·have h1:=(zab.setCell (pv:=fun k=>k=w.heap.size+1+1+1) (zab.refl _ W') (p:=⟨w.heap.size+1+1+1,0,none⟩) (Or.inr rfl) (.slice (some ⟨g,0,none⟩) (pre.length+0+1) cap)).own ho' (fun k hk=>by omega);rw[List.map_append,List.map_singleton,zii,List.length_append];exact h1
   ·intro y hy;rcases List.mem_append.1 hy with hy|hy
    ·exact HE.out y hy
    ·rw[z23]at hy;subst hy;rfl
  ·simp only[Int.cast_ofNat_Int];gi_wp2;have hmx:=mxd;gi_region_with_o (fail)
   all_goals gi_wp2
   all_goals
    have hT:zab (fun k=>w.heap.size<=k/\k<w.heap.size+4\/w.heap.size+7<=k) A2 (((A2.setCell ⟨w.heap.size,0,none⟩ (.slice none 0 0)).setCell ⟨w.heap.size+1,0,none⟩ (.int .i64 xa)).setCell ⟨w.heap.size+1+1,0,none⟩ (.int .i64 2)).drew:=
     ((((zab.refl _ _).setCell (Or.inr (by show _\/_;simp<;>omega)) _).setCell (Or.inr (by show _\/_;simp<;>omega)) _).setCell (Or.inr (by show _\/_;simp<;>omega)) _).drew
    exact⟨hT,rfl,((b1.set _).other (by omega) _).other (by omega) _,⟨pre,⟨kd,xa,xt,2⟩,rfl,HE.out,by simp,((b2.other (by omega) _).set _).other (by omega) _,((b3.other (by omega) _).other (by omega) _).set _⟩,HB.out.trans (hT.below HB.out.size (fun k hk=>by rcases hk with hk|hk<;>omega))⟩
 case hdone=>
  rintro W ⟨⟨b1,b2,b3⟩,⟨v,bv,ho⟩,he,hB⟩ hK;have d1:=b1.cell;have d2:=b2.cell;have d3:=b3.cell;have d4:=bv.cell;have e1:=b1.frozen;have e2:=b2.frozen;have e3:=b3.frozen;have hrd:=Rd.own ho;obtain⟨_,_,A',c',hv,_⟩:=hrd;subst hv;gi_wp2;have hT:zab (fun k=>w.heap.size<=k/\k<w.heap.size+3) W (((W.setCell ⟨w.heap.size,0,none⟩ (.slice A' (yldL 0 s.data.toList).length c')).setCell ⟨w.heap.size+1,0,none⟩ (.int .i64 0)).setCell ⟨w.heap.size+1+1,0,none⟩ (.int .i64 0)):=
   (((zab.refl _ _).setCell (Or.inr (by show _/\_;simp<;>omega)) _).setCell (Or.inr (by show _/\_;simp<;>omega)) _).setCell (Or.inr (by show _/\_;simp<;>omega)) _
  have hK2:=(hT.block (w.heap.size+5) (Array.getElem?_eq_some_iff.1 hK).1 (by omega)).trans hK;have f1:=((b1.set (.slice A' (yldL 0 s.data.toList).length c')).other (B':=w.heap.size+1) (by omega) (.int .i64 0)).other (B':=w.heap.size+1+1) (by omega) (.int .i64 0);have f2:=((b2.other (B':=w.heap.size) (by omega) (.slice A' (yldL 0 s.data.toList).length c')).set (.int .i64 0)).other (B':=w.heap.size+1+1) (by omega) (.int .i64 0);have f3:=((b3.other (B':=w.heap.size) (by omega) (.slice A' (yldL 0 s.data.toList).length c')).other (B':=w.heap.size+1) (by omega) (.int .i64 0)).set (.int .i64 0);have ho2:=hT.own ho (fun k hk=>by omega);have hB2:=hB.trans (hT.below hB.size (fun k hk=>by omega));clear b1 b2 b3 bv ho hB hK hT d1 d2 d3 d4 e1 e2 e3;generalize(((W.setCell ⟨w.heap.size,0,none⟩ (.slice A' (yldL 0 s.data.toList).length c')).setCell ⟨w.heap.size+1,0,none⟩ (.int .i64 0)).setCell ⟨w.heap.size+1+1,0,none⟩ (.int .i64 0))=V at*;have hT:zab (fun k=>k=w.heap.size+5) V (V.putObj (w.heap.size+5) (.deferred none)):=zab.putObj (pv:=fun k=>k=w.heap.size+5) (zab.refl _ _) (Or.inr rfl) _;have g1:=(hT.boxed f1 (by omega)).cell;have g2:=(hT.boxed f2 (by omega)).cell;have g3:=(hT.boxed f3 (by omega)).cell;refine⟨by simp,.inl ⟨_,_,rfl,run_takeDeferred hK2, ?_⟩⟩;refine⟨.tuple #[.slice A' (yldL 0 s.data.toList).length c',.int .i64 0,.int .i64 0], ?_,⟨.slice A' (yldL 0 s.data.toList).length c',hB2.trans (hT.below hB2.size (fun k hk=>by omega)), ?_⟩⟩
  ·simp[results,Tryz.results46,go_sem,g1,g2,g3]
  ·rw[zn5,z1g he];refine⟨rfl, ?_⟩;rw[List.length_map];exact zcp (hT.own ho2 (fun k hk=>by omega)) (by omega)
 case hstop=>
  rintro c pre x W hx ⟨rfl,b1,⟨p,y,hp,he,hne,b2,b3⟩,hB⟩ hK;gi_wp2;have hT:zab (fun k=>k=w.heap.size+5) W (W.putObj (w.heap.size+5) (.deferred none)):=zab.putObj (pv:=fun k=>k=w.heap.size+5) (zab.refl _ _) (Or.inr rfl) _;have g1:=(hT.boxed b1 (by omega)).cell;have g2:=(hT.boxed b2 (by omega)).cell;have g3:=(hT.boxed b3 (by omega)).cell;have h2:y.err=2:=by
   rcases zrs 0 s.data.toList y (hx.subset (by rw[hp];simp))with h|h
   ·exact absurd h hne
   ·exact h
  rw[h2]at g3;refine⟨by simp,.inl ⟨_,_,rfl,run_takeDeferred hK, ?_⟩⟩;refine⟨.tuple #[.slice none 0 0,.int .i64 y.at_,.int .i64 2], ?_,⟨.slice none 0 0,hB.trans (hT.below hB.size (fun k hk=>by omega)), ?_⟩⟩
  ·simp[results,Tryz.results46,go_sem,g1,g2,g3]
  ·rw[zn5,zzi (hp ▸ hx) he hne]
def zfo:Option Bs->Value
 |some q=> .tuple #[.string ⟨q.toArray⟩,.bool true]
 |none=> .tuple #[.string ⟨#[]⟩,.bool false]
def zc9 (out:Bs) (r:Bs):Option Bs:=if r.any oddB then none else some (out++esc r++[34])
theorem zly (out:Bs) {c:UInt8} (r:Bs) (h:oddB c=true):zc9 out (c::r)=none:=by simp[zc9,h]
theorem zlz (out:Bs) {c:UInt8} (r:Bs) (h:oddB c=false) (hc:c.toNat=34\/c.toNat=92):zc9 out (c::r)=zc9 (out++[92]++[c]) r:=by
 simp[zc9,h,esc,hc]
theorem zlx (out:Bs) {c:UInt8} (r:Bs) (h:oddB c=false) (hc: ¬(c.toNat=34\/c.toNat=92)):zc9 out (c::r)=zc9 (out++[c]) r:=by
 simp[zc9,h,esc,hc]
theorem zw5 (s:ByteArray) (w:World) (hm:s.size<=35184372088832):Calls z2f 127 #[.string s] w (Ret (zfo (zew s.data.toList)) w):=by
 have HQ:Hid (zc9 [34] s.data.toList=zew s.data.toList):=by show _=_;simp[zc9,zew]
 generalize zew s.data.toList=R at*;go_enter Tryz.func127,Tryz.ntmps127;go_wp2_with fail
 go_loopw [4,11] (fun v i wr=> ∃(k:Nat) (out:Bs),k<=s.size/\out.length<=2*k+1/\i= .int .i64 k/\Below w.heap.size w wr/\wr.ownsRow w.heap.size 5 1 v out.length (out.map bv)/\zby wr (w.heap.size+1) 5 s/\Hid (zc9 out (s.data.toList.drop k)=R)) (fun _ i _=>s.size-(intOf i).toNat)
 case atStart=>
  refine⟨0,[34],by omega,by simp,rfl,bel,zdf (za5 (c:= #[.int .u8 34]) rfl (by unfold maxLen;omega)) _, ?_,HQ⟩;have:=zby.new (w.alloc (Obj.cells #[.int .u8 34] 5)) 5 s;rwa[World.size_alloc]at this
 case round=>
  obtain⟨k,out,hk,hout,rfl,hB,hown,hby,HK⟩:=hrel;have hsz:=hB.size;by_cases hlt:k<s.size
  ·have hc:=hby.cell k hlt;have HD:=z2c (za9 s k hlt);have HBY:=z2c hby;have HB:=z2c hB;have HO:=z2c hown;clear hB hby;cases ho:oddB s[k]
   ·have HL:Hid ((out++[s[k]]).map bv=out.map bv++[.int .u8 (s[k].toNat:Int)]):=by show _=_;simp[bv]
    have HL2:Hid ((out++[s[k]]).length=out.length+1):=by show _=_;simp
    have HM:Hid ((out++[92]++[s[k]]).map bv=out.map bv++[.int .u8 92]++[.int .u8 (s[k].toNat:Int)]):=by show _=_;simp[bv]
    have HM2:Hid ((out++[92]++[s[k]]).length=out.length+1+1):=by show _=_;simp
    by_cases hq:s[k].toNat=34\/s[k].toNat=92
    ·have HN:=z2c (show zc9 (out++[92]++[s[k]]) (s.data.toList.drop (k+1))=R by rw[<-HK.out,HD.out,zlz _ _ ho hq]);have hd2:((s[k].toNat:Int)==34)=true\/((s[k].toNat:Int)==34)=false/\((s[k].toNat:Int)==92)=true:=by
      by_cases h:s[k].toNat=34
      ·exact Or.inl (by simp;omega)
      ·exact Or.inr ⟨by simp;omega,by simp;omega⟩
     clear hq;rcases hd2 with q1|⟨q1,q2⟩
     all_goals
      go_wp2_with(first|(go_at_call 208;(with_reducible refine(zj5 s[k] _).mono ?_);rintro e w' ⟨rfl,rfl⟩;rw[ho])|(at_builtin;refine zar rfl _ _ 135 rfl zci w.heap.size rfl (hown.alloc _) (by simp;omega) ⟨_,0,none⟩ 1 1 [.int .u8 92] rfl rfl (zaf (c:= #[.int .u8 92]) (by simp[go_sem])) (by simp[Value.oneCell']) (by unfold maxLen;omega) (by omega) ?_;intro v1 W1 hown1 hg1;have hB1:=z2c (HB.out.trans (((Below.refl _ _).alloc hsz _).trans (zcv (hown.alloc _) hg1 (z2k _) (by simp;omega))));have hBy1:=z2c ((HBY.out.alloc _).kept (hown.alloc _) hg1);clear hg1;have hsz1:=hB1.out.size)|(at_builtin;refine zar rfl _ _ 135 rfl zci w.heap.size rfl (hown1.alloc _) (by simp;omega) ⟨_,0,none⟩ 1 1 [.int .u8 (s[k].toNat:Int)] rfl rfl (zaf (c:= #[.int .u8 (s[k].toNat:Int)]) (by simp[go_sem])) (by simp[Value.oneCell']) (by unfold maxLen;omega) (by omega) ?_;intro v2 W2 hown2 hg2;have hB2:=z2c (hB1.out.trans (((Below.refl _ _).alloc hsz1 _).trans (zcv (hown1.alloc _) hg2 (z2k _) (by simp;omega))));have hBy2:=z2c ((hBy1.out.alloc _).kept (hown1.alloc _) hg2);clear hg2))
      go_roundw
      case rel=>exact⟨k+1,out++[92]++[s[k]],by omega,by rw[HM2.out];omega,by go_num,hB2.out,by rw[HM.out,HM2.out];exact hown2,hBy2.out,HN⟩
      case measure=>simp[intOf];omega
    ·have HN:=z2c (show zc9 (out++[s[k]]) (s.data.toList.drop (k+1))=R by rw[<-HK.out,HD.out,zlx _ _ ho hq]);have q1:((s[k].toNat:Int)==34)=false:=by simp;omega
     have q2:((s[k].toNat:Int)==92)=false:=by simp;omega
     clear hq;go_wp2_with(first|(go_at_call 208;(with_reducible refine(zj5 s[k] _).mono ?_);rintro e w' ⟨rfl,rfl⟩;rw[ho])|(at_builtin;refine zar rfl _ _ 135 rfl zci w.heap.size rfl (hown.alloc _) (by simp;omega) ⟨_,0,none⟩ 1 1 [.int .u8 (s[k].toNat:Int)] rfl rfl (zaf (c:= #[.int .u8 (s[k].toNat:Int)]) (by simp[go_sem])) (by simp[Value.oneCell']) (by unfold maxLen;omega) (by omega) ?_;intro v1 W1 hown1 hg1;have hB1:=z2c (HB.out.trans (((Below.refl _ _).alloc hsz _).trans (zcv (hown.alloc _) hg1 (z2k _) (by simp;omega))));have hBy1:=z2c ((HBY.out.alloc _).kept (hown.alloc _) hg1);clear hg1))
     go_roundw
     case rel=>exact⟨k+1,out++[s[k]],by omega,by rw[HL2.out];omega,by go_num,hB1.out,by rw[HL.out,HL2.out];exact hown1,hBy1.out,HN⟩
     case measure=>simp[intOf];omega
   ·have HV:=z2c (show zfo R= .tuple #[.string ⟨#[]⟩,.bool false] by rw[<-HK.out,HD.out,zly _ _ ho];rfl);go_wp2_with(go_at_call 208;(with_reducible refine(zj5 s[k] _).mono ?_);rintro e w' ⟨rfl,rfl⟩;rw[ho])
    go_ret2;exact Ret.of (by rw[HV.out];rfl) HB.out
  ·have HE:=z2c (zbv s k (by omega));have HV:=z2c (show zfo R= .tuple #[.string ⟨(out++[34]).toArray⟩,.bool true] by rw[<-HK.out,HE.out];simp[zc9,esc,zfo]);have HL:Hid ((out++[34]).map bv=out.map bv++[.int .u8 34]):=by show _=_;simp[bv]
   have HL2:Hid ((out++[34]).length=out.length+1):=by show _=_;simp
   have HB:=z2c hB;clear hB hby;go_wp2_with(at_builtin;refine zar rfl _ _ 135 rfl zci w.heap.size rfl (hown.alloc _) (by simp;omega) ⟨_,0,none⟩ 1 1 [.int .u8 34] rfl rfl (zaf (c:= #[.int .u8 34]) (by simp[go_sem])) (by simp[Value.oneCell']) (by unfold maxLen;omega) (by omega) ?_;intro v1 W1 hown1 hg1;have hB1:=z2c (HB.out.trans (((Below.refl _ _).alloc hsz _).trans (zcv (hown.alloc _) hg1 (z2k _) (by simp;omega))));clear hg1;have hown2:W1.ownsRow w.heap.size 5 1 v1 (out++[34]).length ((out++[34]).map bv):=by {rw[HL.out,HL2.out];exact hown1};have hcv:=(Rd.own hown2).str 135 9 5 z3t Tryz.underlying5 Tryz.underlying9)
   go_ret2;exact Ret.of (by rw[HV.out];rfl) hB1.out
theorem z0o {W:World} {B:Nat} {v:Value} {l:Bs} {xs:List Value} {n:Nat} (h1:Hid (l.map bv=xs)) (h2:Hid (l.length=n)) (h:W.ownsRow B 5 1 v n xs):(convert 135 9 v).run z2f W= .ok (.string ⟨l.toArray⟩) W:=by
 rw[<-h1.out,<-h2.out]at h;exact(Rd.own h).str 135 9 5 z3t Tryz.underlying5 Tryz.underlying9
theorem ztn (s:ByteArray) (w:World) (hm:s.size<=35184372088832):Calls z2f 153 #[.string s] w (Ret (zfo (zew s.data.toList)) w):=by
 have HQ:Hid (zc9 [34] s.data.toList=zew s.data.toList):=by show _=_;simp[zc9,zew]
 generalize zew s.data.toList=R at*;go_enter Tryz.func153,Tryz.ntmps153;go_wp2_with fail
 go_loopw [4,5] (fun v i wr=> ∃(k:Nat) (out:Bs),k<=s.size/\out.length<=2*k+1/\i= .int .i64 k/\Below w.heap.size w wr/\wr.ownsRow w.heap.size 5 1 v out.length (out.map bv)/\Hid (zc9 out (s.data.toList.drop k)=R)) (fun _ i _=>s.size-(intOf i).toNat)
 case atStart=>
  exact⟨0,[34],by omega,by simp,rfl,bel,za5 (c:= #[.int .u8 34]) rfl (by unfold maxLen;omega),HQ⟩
 case round=>
  obtain⟨k,out,hk,hout,rfl,hB,hown,HK⟩:=hrel;have hsz:=hB.size;by_cases hlt:k<s.size
  ·have HD:=z2c (za9 s k hlt);have HB:=z2c hB;clear hB;cases ho:oddB s[k]
   ·have HL:Hid ((out++[s[k]]).map bv=out.map bv++[.int .u8 (s[k].toNat:Int)]):=by show _=_;simp[bv]
    have HL2:Hid ((out++[s[k]]).length=out.length+1):=by show _=_;simp
    have HM:Hid ((out++[92]++[s[k]]).map bv=out.map bv++[.int .u8 92]++[.int .u8 (s[k].toNat:Int)]):=by show _=_;simp[bv]
    have HM2:Hid ((out++[92]++[s[k]]).length=out.length+1+1):=by show _=_;simp
    have o1:decide ((s[k].toNat:Int)<32)=false:=by unfold oddB at ho;simp at ho;simp;omega
    have o2:decide ((127:Int)<=s[k].toNat)=false:=by unfold oddB at ho;simp at ho;simp;omega
    by_cases hq:s[k].toNat=34\/s[k].toNat=92
    ·have HN:=z2c (show zc9 (out++[92]++[s[k]]) (s.data.toList.drop (k+1))=R by rw[<-HK.out,HD.out,zlz _ _ ho hq]);have hd2:((s[k].toNat:Int)==34)=true\/((s[k].toNat:Int)==34)=false/\((s[k].toNat:Int)==92)=true:=by
      by_cases h:s[k].toNat=34
      ·exact Or.inl (by simp;omega)
      ·exact Or.inr ⟨by simp;omega,by simp;omega⟩
     clear hq ho;rcases hd2 with q1|⟨q1,q2⟩
     all_goals
      go_wp2_with(first|(at_builtin;refine zar rfl _ _ 135 rfl zci w.heap.size rfl (hown.alloc _) (by simp[go_sem]<;>omega) ⟨_,0,none⟩ 1 1 [.int .u8 92] rfl rfl (zaf (c:= #[.int .u8 92]) (by simp[go_sem])) (by simp[Value.oneCell']) (by unfold maxLen;omega) (by omega) ?_;intro v1 W1 hown1 hg1;have hB1:=z2c (HB.out.trans (((Below.refl _ _).alloc hsz _).trans (zcv (hown.alloc _) hg1 (z2k _) (by simp;omega))));clear hg1;have hsz1:=hB1.out.size)|(at_builtin;refine zar rfl _ _ 135 rfl zci w.heap.size rfl (hown1.alloc _) (by simp[go_sem]<;>omega) ⟨_,0,none⟩ 1 1 [.int .u8 (s[k].toNat:Int)] rfl rfl (zaf (c:= #[.int .u8 (s[k].toNat:Int)]) (by simp[go_sem])) (by simp[Value.oneCell']) (by unfold maxLen;omega) (by omega) ?_;intro v2 W2 hown2 hg2;have hB2:=z2c (hB1.out.trans (((Below.refl _ _).alloc hsz1 _).trans (zcv (hown1.alloc _) hg2 (z2k _) (by simp;omega))));clear hg2))
      go_roundw
      case rel=>exact⟨k+1,out++[92]++[s[k]],by omega,by rw[HM2.out];omega,by go_num,hB2.out,by rw[HM.out,HM2.out];exact hown2,HN⟩
      case measure=>simp[intOf];omega
    ·have HN:=z2c (show zc9 (out++[s[k]]) (s.data.toList.drop (k+1))=R by rw[<-HK.out,HD.out,zlx _ _ ho hq]);have q1:((s[k].toNat:Int)==34)=false:=by simp;omega
     have q2:((s[k].toNat:Int)==92)=false:=by simp;omega
     clear hq ho;go_wp2_with(at_builtin;refine zar rfl _ _ 135 rfl zci w.heap.size rfl (hown.alloc _) (by simp[go_sem]<;>omega) ⟨_,0,none⟩ 1 1 [.int .u8 (s[k].toNat:Int)] rfl rfl (zaf (c:= #[.int .u8 (s[k].toNat:Int)]) (by simp[go_sem])) (by simp[Value.oneCell']) (by unfold maxLen;omega) (by omega) ?_;intro v1 W1 hown1 hg1;have hB1:=z2c (HB.out.trans (((Below.refl _ _).alloc hsz _).trans (zcv (hown.alloc _) hg1 (z2k _) (by simp;omega))));clear hg1)
     go_roundw
     case rel=>exact⟨k+1,out++[s[k]],by omega,by rw[HL2.out];omega,by go_num,hB1.out,by rw[HL.out,HL2.out];exact hown1,HN⟩
     case measure=>simp[intOf];omega
   ·have HV:=z2c (show zfo R= .tuple #[.string ⟨#[]⟩,.bool false] by rw[<-HK.out,HD.out,zly _ _ ho];rfl);have o1:decide ((s[k].toNat:Int)<32)=true\/decide ((s[k].toNat:Int)<32)=false/\decide ((127:Int)<=s[k].toNat)=true:=by unfold oddB at ho;simp at ho;simp;omega
    clear ho;rcases o1 with o1|⟨o1,o2⟩
    all_goals
     go_wp2
     go_ret2;exact Ret.of (by rw[HV.out];rfl) HB.out
  ·have HE:=z2c (zbv s k (by omega));have HV:=z2c (show zfo R= .tuple #[.string ⟨(out++[34]).toArray⟩,.bool true] by rw[<-HK.out,HE.out];simp[zc9,esc,zfo]);have HL:Hid ((out++[34]).map bv=out.map bv++[.int .u8 34]):=by show _=_;simp[bv]
   have HL2:Hid ((out++[34]).length=out.length+1):=by show _=_;simp
   have HB:=z2c hB;clear hB;go_wp2_with(at_builtin;refine zar rfl _ _ 135 rfl zci w.heap.size rfl (hown.alloc _) (by simp[go_sem]<;>omega) ⟨_,0,none⟩ 1 1 [.int .u8 34] rfl rfl (zaf (c:= #[.int .u8 34]) (by simp[go_sem])) (by simp[Value.oneCell']) (by unfold maxLen;omega) (by omega) ?_;intro v1 W1 hown1 hg1;have hB1:=z2c (HB.out.trans (((Below.refl _ _).alloc hsz _).trans (zcv (hown.alloc _) hg1 (z2k _) (by simp;omega))));clear hg1;have hcv:=z0o HL HL2 hown1)
   go_ret2;exact Ret.of (by rw[HV.out];rfl) hB1.out
end Go.Proofs.YtiikamobcmgekaaGreatDoor
