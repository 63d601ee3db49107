/- The walks of styles: a number that a text begins with. -/
import Derived.Shelf.Strings.SlTrimAscii
import Derived.Deep.DeepCutAuto
import Derived.Deep.CutBlock
import Derived.Test.YtiikamobcmgekaaGreatDoorJDecPlain
import Derived.Test.YtiikamobcmgekaaGreatDoorJCssC
namespace Go.Proofs.YtiikamobcmgekaaGreatDoor
set_option maxRecDepth 100000
set_option maxHeartbeats 8000000
open Go.RowKit Go.Shelf
attribute [local go_sem] Oper.semAt_some
theorem val_lt: ∀(l:Bs),l.all digB=true-> ∀k,l.foldl (fun n (c:UInt8)=>n*10+(c.toNat-48)) k+1<=(k+1)*10 ^ l.length:=by
 intro l
 induction l with
 |nil=>intro _ k;simp
 |cons c l ih=>
  intro hl k
  simp only[List.all_cons,Bool.and_eq_true]at hl
  have:=ih hl.2 (k*10+(c.toNat-48))
  have hc:=hl.1
  simp only[digB,decide_eq_true_eq]at hc
  simp only[List.foldl_cons,List.length_cons,Nat.pow_succ]
  refine Nat.le_trans this ?_
  rw[Nat.mul_comm (10 ^ l.length) 10,<-Nat.mul_assoc]
  exact Nat.mul_le_mul_right _ (by omega)
theorem valL_snoc (l:Bs) (c:UInt8):valL (l++[c])=valL l*10+(c.toNat-48):=by
 unfold valL;rw[List.foldl_append];rfl
theorem valL_small (l:Bs) (h:l.all digB=true) (h9:l.length<=9):valL l<=999999999:=by
 have:=val_lt l h 0
 have hp:=Nat.pow_le_pow_right (n:=10) (by omega) h9
 unfold valL;omega
theorem number_any (s:Bs) (w:World) (hne:s≠[]) (hal:s.all digB=true) (h9:s.length<=9):Calls Tryz.prog 190 #[.string ⟨s.toArray⟩,.int .i64 10,.int .i64 1099511627776] w (Ret (.tuple #[.int .i64 (valL s),.bool true]) w):=by
 obtain⟨S,hS⟩: ∃S:ByteArray,⟨s.toArray⟩=S:=⟨_,rfl⟩
 have hd0:S.data.toList=s:=by rw[<-hS]
 have hsz:S.size=s.length:=by rw[<-hS];rfl
 have hemp:S.toList.isEmpty=false:=by rw[ba_emp,hd0];simpa using hne
 have hcv: ∀W:World,(convert 9 135 (.string S)).run Tryz.prog W= .ok (.slice (some ⟨W.heap.size,0,none⟩) S.size (grownCap W S.size 0 5)) (W.grow (bytesGr W 5 S)):=fun W=>bytes_run W _ _ _ S Tryz.underlying9 Tryz.underlying135 Tryz.underlying5
 have HB:=Lib.hid (fun W=>bytes_cells W 5 S)
 have HZ:=Lib.hid hsz
 have HA:=Lib.hid hal
 have H0:=Lib.hid hd0
 have hS9:S.size<=9:=by omega
 have hmax:max (1099511627776:Int) 0=1099511627776:=by decide
 rw[hS]
 clear hsz hd0 hS hne hal
 go_enter Tryz.func190,Tryz.ntmps190
 go_wp2_with fail
 go_loop [8,30] (fun n i=> ∃k:Nat,k<=S.size/\i= .int .i64 k/\n= .int .i64 (valL (s.take k))) (fun _ i=>S.size-(intOf i).toNat)
 case atStart=>exact⟨0,by omega,rfl,rfl⟩
 case round=>
  obtain⟨k,hk,rfl,rfl⟩:=hrel
  by_cases hlt:k<S.size
  ·have hks:k<s.length:=by rw[<-HZ.out];exact hlt
   have hc0:=HB.out w k hlt
   have hck:S[k]=s[k]:=at_bs S s H0.out k hlt
   rw[hck]at hc0
   have HN:=Lib.hid (valL_snoc (s.take k) s[k])
   rw[<-List.take_succ_eq_append_getElem hks]at HN
   have hdg:digB s[k]=true:=List.all_eq_true.1 HA.out _ (List.getElem_mem hks)
   have hsm:=valL_small (s.take (k+1)) (List.all_eq_true.2 fun x hx=>List.all_eq_true.1 HA.out x (List.mem_of_mem_take hx)) (by rw[List.length_take];omega)
   have HD:=Lib.hid (fun W=>show Calls Tryz.prog 108 #[.int .u8 s[k].toNat] W fun e w'=>e= .returned (.bool true)/\W=w' from hdg ▸ digit_any s[k] W)
   generalize s[k]=c at*
   have h1:48<=c.toNat/\c.toNat<=57:=by simpa[digB]using hdg
   obtain⟨d,hd1⟩: ∃d,c.toNat=48+d:=⟨c.toNat-48,by omega⟩
   have hd9:d<=9:=by omega
   rw[hd1,show((48+d:Nat):Int)=48+(d:Int) by omega]at hc0 HD
   rw[hd1,Nat.add_sub_cancel_left]at HN
   have hv:valL (s.take k)*10+d<=999999999:=by rw[<-HN.out];exact hsm
   have hw1:IntKind.u8.wrap (48+(d:Int)-48)=(d:Int):=by rw[show 48+(d:Int)-48=d by omega];exact IntWalk.u8_in _ (by omega)
   have hw2:IntKind.u8.wrap (d:Int)=(d:Int):=IntWalk.u8_in _ (by omega)
   have hcn:=newCell_is (Nat.le_refl _) hc0
   clear hdg hck hsm h1 hd1 hc0
   generalize valL (s.take k)=v at*
   have hmin:min ((v:Int)*10+(d:Int)) 1099511627776=(v:Int)*10+(d:Int):=by omega
   go_wp2_with(go_at_call 108;(with_reducible refine(HD.out _).mono ?_);rintro e w' ⟨rfl,rfl⟩)
   go_round
   case rel=>exact⟨k+1,by omega,by go_num,by rw[HN.out];simp;try omega⟩
   case measure=>simp[intOf];omega
  ·have HN:Hid (valL (s.take k)=valL s):=by show _=_;rw[List.take_of_length_le];rw[<-HZ.out];omega
   go_wp2
   go_ret2
   exact Ret.of (by rw[HN.out];rfl) bel
def numV (s:Bs):Css × Nat:=match numC s with
 |some x=>x
 |none=>(zeroC,0)
theorem sg_contains (c:UInt8):([43,45]:Bs).contains c=sgB c:=by
 rw[Bool.eq_iff_iff];simp[sgB,<-UInt8.toNat_inj]
theorem trim_sg (s:Bs):Lib.trimLeftS s [43,45]=s.drop (twc sgB s):=by
 rw[twc_drop]
 unfold Lib.trimLeftS
 congr 1
 funext c;exact sg_contains c
theorem trimleft_any (S:ByteArray) (W:World):Calls Tryz.prog 277 #[.string S,.string ⟨#[43,45]⟩] W (Ret (.string ⟨(S.data.toList.drop (twc sgB S.data.toList)).toArray⟩) W):=by
 refine(Any.strings_TrimLeft_laid Tryz.lays161 (by kernel_rfl) S ⟨#[43,45]⟩ W (by decide) ?_).mono fun e w' ⟨h1,h2⟩=> ?_
 ·intro j b hb
  have:b∈([43,45]:Bs):=List.mem_of_getElem? hb
  simp at this
  rcases this with rfl|rfl<;>decide
 ·obtain⟨X,hX⟩:=grow_of_below h2
  rw[show(⟨#[43,45]⟩:ByteArray).data.toList=[43,45]from rfl,trim_sg]at h1
  exact⟨h1,X,hX⟩
theorem num_signs {s:Bs} (h:1<twc sgB s):numC s=none:=by
 cases s with
 |nil=>simp[twc]at h
 |cons c s=>
  cases hc:sgB c
  ·simp[twc,hc]at h
  ·cases s with
   |nil=>simp[twc,hc]at h
   |cons d s=>
    have hd1:sgB d=true:=by
     cases hd0:sgB d
     ·simp[twc,hc,hd0]at h
     ·rfl
    have h1:digB d=false:=by simp only[sgB,digB,decide_eq_true_eq,decide_eq_false_iff_not]at*;omega
    have h2:d.toNat≠46:=by simp only[sgB,decide_eq_true_eq]at hd1;omega
    have e1:sgN (c::d::s)=1:=by simp[sgN,hd,hc]
    have e2:twc digB (d::s)=0:=by simp[twc,h1]
    have e3:dotN (d::s)=0:=by simp[dotN,h2]
    unfold numC numP
    simp only[e1,List.drop_succ_cons,List.drop_zero,e2,e3,List.take_zero]
    rfl
theorem sg_one {s:Bs} (h: ¬1<twc sgB s):sgN s=twc sgB s:=by
 cases s with
 |nil=>rfl
 |cons c s=>
  cases hc:sgB c
  ·simp[sgN,twc,hd,hc]
  ·simp[sgN,twc,hd,hc]at h ⊢;omega
theorem int_eq {k:IntKind} {a b:Int} (h:a=b):Value.int k a=Value.int k b:=by rw[h]
theorem str_eq {a b:ByteArray} (h:a.data.toList=b.data.toList):Value.string a=Value.string b:=by rw[ba_ext h]
theorem zeros_any (n:Nat) (W:World) (h:n<=3):Calls Tryz.prog 278 #[.string ⟨#[48]⟩,.int .i64 n] W (Ret (.string ⟨(List.replicate n (48:UInt8)).toArray⟩) W):=by
 refine(Tryz.strings_Repeat ⟨#[48]⟩ n W (by omega) (by show 1*n<=_;omega)).mono fun e w' ⟨h1,h2⟩=> ?_
 obtain⟨X,hX⟩:=grow_of_below h2
 refine⟨?_,X,hX⟩
 rw[h1]
 congr 2
 have:n=0\/n=1\/n=2\/n=3:=by omega
 rcases this with rfl|rfl|rfl|rfl<;>rfl
theorem prefix_any (S:ByteArray) (k:Nat) (c:UInt8) (W:World):Calls Tryz.prog 45 #[.string (S.extract k S.size),.string ⟨#[c]⟩] W fun e w'=>e= .returned (.bool (hd (fun d=>decide (d.toNat=c.toNat)) (S.data.toList.drop k)))/\w'=W:=by
 have:=Tryz.strings_HasPrefix (S.extract k S.size) ⟨#[c]⟩ W
 rw[show(⟨#[c]⟩:ByteArray).data.toList=[c]from rfl,extract_dropQ,prefix_one]at this;exact this
theorem numv_any (s:Bs) (w:World) (hm:s.length<=1000000000) (hne:s≠[]):Calls Tryz.prog 241 #[.string ⟨s.toArray⟩] w (Ret (.tuple #[Css.agg (numV s).1,.int .i64 (numV s).2]) w):=by
 obtain⟨S,hS⟩: ∃S:ByteArray,⟨s.toArray⟩=S:=⟨_,rfl⟩
 have hd0:S.data.toList=s:=by rw[<-hS]
 have hsz:S.size=s.length:=by rw[<-hS];rfl
 obtain⟨t,ht⟩: ∃t,twc sgB s=t:=⟨_,rfl⟩
 have htl:t<=s.length:=ht ▸ twc_le sgB s
 obtain⟨T,hT⟩: ∃T:ByteArray,⟨(s.drop t).toArray⟩=T:=⟨_,rfl⟩
 have htz:T.size=s.length-t:=by rw[<-hT];show(s.drop t).length=_;simp
 have HT:=Lib.hid (fun W=>show Calls Tryz.prog 277 #[.string S,.string ⟨#[43,45]⟩] W (Ret (.string T) W)from by
  have:=trimleft_any S W
  rwa[hd0,ht,hT]at this)
 have hsub:(S.size:Int)-(T.size:Int)=(t:Nat):=by omega
 have hSm:S.size<=1000000000:=by omega
 have hTm:T.size<=S.size:=by omega
 have htS:t<=S.size:=by omega
 have HV:Hid (numV s=match numC s with
  |some x=>x
  |none=>(zeroC,0)):=rfl
 rw[hS]
 by_cases h1:1<t
 ·have HN:Hid (numV s=(zeroC,0)):=by show _=_;rw[HV.out,num_signs (by rw[ht];exact h1)]
  clear hsz htz htl hT hS hd0 ht hm
  go_enter Tryz.func241,Tryz.ntmps241
  go_wp2_with(go_at_call 277;(with_reducible refine(HT.out _).mono ?_);rintro e w' ⟨rfl,X,rfl⟩)
  ((try simp only[Exit.inBlock,Exit.then]);refine bodyPost_ret (v:= .tuple #[.agg #[.int .i64 0,.string ⟨#[]⟩,.int .i64 0,.string ⟨#[]⟩],.int .i64 0]) (by(first|rw[results_cell_tmp rfl]|rw[results_cell1 rfl]);go_simp) rfl ?_)
  exact Ret.of (by rw[HN.out];rfl) bel
 ·have hsg:sgN s=t:=ht ▸ sg_one (by rw[ht];exact h1)
  obtain⟨wn,hwn⟩: ∃n,twc digB (s.drop t)=n:=⟨_,rfl⟩
  have hwl:=twc_le digB (s.drop t)
  rw[hwn,List.length_drop]at hwl
  obtain⟨v,hv⟩: ∃v,s.drop (t+wn)=v:=⟨_,rfl⟩
  have hvl:v.length=s.length-(t+wn):=by rw[<-hv];simp
  obtain⟨p,hp⟩: ∃p,dotN v=p:=⟨_,rfl⟩
  have hpl:=dotN_le v
  rw[hp]at hpl
  obtain⟨te,hte⟩: ∃n,t+wn+(if p=0 then 0 else p+1)=n:=⟨_,rfl⟩
  have htel:te<=s.length:=by rw[<-hte];split<;>omega
  obtain⟨r,hr⟩: ∃r,s.drop te=r:=⟨_,rfl⟩
  have hrl:r.length=s.length-te:=by rw[<-hr];simp
  obtain⟨un,hun⟩: ∃n,unitN r=n:=⟨_,rfl⟩
  have hul:=unitN_le r
  rw[hun]at hul
  have HP:Hid (numP s=⟨hd (fun c=>decide (c.toNat=45)) s,(s.drop t).take wn,(v.drop 1).take p,r.take un,te⟩):=by
   show _=_
   unfold numP
   simp only[hsg,hwn,List.drop_drop,hv,hp]
   have hr2:(if p=0 then v else v.drop (p+1))=r:=by
    rw[<-hr,<-hte,<-hv]
    split
    ·rw[Nat.add_zero]
    ·rw[List.drop_drop]
   rw[hr2,hun,hte]
  have hal1:((s.drop t).take wn).all digB=true:=by rw[<-hwn];exact all_take _ _
  have hal2:((v.drop 1).take p).all digB=true:=by
   rw[<-hp]
   cases v with
   |nil=>rfl
   |cons c v=>
    simp only[dotN,List.drop_succ_cons,List.drop_zero]
    split
    ·exact all_take _ _
    ·rfl
  obtain⟨F1,hF1⟩: ∃F:ByteArray,S.extract t (t+wn)=F:=⟨_,rfl⟩
  have hF1d:F1.data.toList=(s.drop t).take wn:=by rw[<-hF1,str_cut,hd0];show(s.take (t+wn)).drop t=_;rw[List.drop_take];congr 1;omega
  obtain⟨F,hF⟩: ∃F:ByteArray,(⟨((s.drop t).take wn++(v.drop 1).take p).toArray⟩:ByteArray)=F:=⟨_,rfl⟩
  have hFd:F.data.toList=(s.drop t).take wn++(v.drop 1).take p:=by rw[<-hF]
  have HR1:=Lib.hid (fun W=>show Calls Tryz.prog 243 #[.string S,.int .i64 t,.func (.func 108) #[] #[]] W fun e w'=>e= .returned (.int .i64 wn)/\W=w' from by
   have:=row_anyQ S t _ _ W digit_pred htS (by omega)
   rwa[hd0,hwn]at this)
  have HPf:=Lib.hid (fun W=>show Calls Tryz.prog 45 #[.string (S.extract (t+wn) S.size),.string ⟨#[46]⟩] W fun e w'=>e= .returned (.bool (hd (fun d=>decide (d.toNat=46)) v))/\w'=W from by
   have:=prefix_any S (t+wn) 46 W
   rwa[hd0,hv]at this)
  have hatS:t+wn<=S.size:=by omega
  have hc1:IntKind.i64.wrap ((t:Int)+wn)=((t+wn:Nat):Int):=by rw[IntWalk.i64_in _ (by omega)];omega
  obtain⟨at1,hat⟩: ∃n,t+wn=n:=⟨_,rfl⟩
  rw[hat]at hF1 hv HPf hatS hte hvl hc1
  have hav:p≠0->at1+1+p<=S.size:=fun h=>by omega
  have hteS:te<=S.size:=by omega
  have hunS:te+un<=S.size:=by omega
  have hwS:wn<=S.size:=by omega
  have hpS:p<=S.size:=by omega
  have HD1:Hid (hd (fun d=>decide (d.toNat=46)) v=true->at1+1<=S.size/\twc digB (s.drop (at1+1))=p):=fun h=>by
   cases v with
   |nil=>simp[hd]at h
   |cons c v'=>
    simp only[hd,decide_eq_true_eq]at h
    refine⟨by simp at hvl;omega, ?_⟩
    rw[<-hp,dotN,if_pos h,<-List.drop_drop,hv];rfl
  have HD2:Hid (hd (fun d=>decide (d.toNat=46)) v=false->p=0):=fun h=>by
   cases v with
   |nil=>exact hp.symm
   |cons c v'=>
    simp only[hd,decide_eq_false_iff_not]at h
    rw[<-hp,dotN,if_neg h]
  have HD3:Hid (p=0\/at1+1+p<=S.size):=by
   show _\/_
   by_cases h0:p=0
   ·exact .inl h0
   ·exact .inr (hav h0)
  have HW1:Hid (((s.drop t).take wn).length=wn):=by show _=_;rw[List.length_take,List.length_drop];omega
  have HW2:Hid (((v.drop 1).take p).length=p):=by show _=_;rw[List.length_take,List.length_drop];omega
  have HW3:Hid ((r.take un).length=un):=by show _=_;rw[List.length_take];omega
  have HTE:=Lib.hid hte
  have HRr:=Lib.hid hr
  have HUn:=Lib.hid hun
  have HPp:=Lib.hid hp
  have HV1:=Lib.hid hv
  have HD:=Lib.hid hd0
  have HFd:=Lib.hid hFd
  have HF1d:=Lib.hid hF1d
  have HL:=Lib.hid hsz
  have htt: ¬(1:Int)<(t:Int):=by omega
  clear hT hS ht htz htl hwl hm hte hr hun hp hv hd0 hFd hF1d hvl hrl hul hpl htel hF hsz hwn hsg h1
  go_enter Tryz.func241,Tryz.ntmps241
  go_upto_if 35 with(first|(go_at_call 277;(with_reducible refine(HT.out _).mono ?_);rintro e w' ⟨rfl,X,rfl⟩)|(go_at_call 243;(with_reducible refine(HR1.out _).mono ?_);rintro e w' ⟨rfl,rfl⟩)|(go_at_call 45;(with_reducible refine(HPf.out _).mono ?_);rintro e w' ⟨rfl,rfl⟩))
  go_cut [7] (fun s7 wx=>s7= .int .i64 (p:Nat)/\wx=(w.alloc (.cells #[.int .i64 0,.string ⟨#[]⟩,.int .i64 0,.string ⟨#[]⟩] 72)).grow X)
  case first=>
   generalize hd (fun d=>decide (d.toNat=46)) v=dot at*
   cases dot
   ·have h0:=HD2.out rfl
    subst h0
    go_wp2
    go_meet
    case rel=>exact⟨rfl,rfl⟩
   ·obtain⟨ha,hb⟩:=HD1.out rfl
    have HR2:=Lib.hid (fun W=>show Calls Tryz.prog 243 #[.string S,.int .i64 ((at1:Int)+1),.func (.func 108) #[] #[]] W fun e w'=>e= .returned (.int .i64 p)/\W=w' from by
     have:=row_anyQ S (at1+1) _ _ W digit_pred ha (by omega)
     rw[HD.out,hb]at this;exact this)
    clear ha hb
    go_wp2_with(go_at_call 243;(with_reducible refine(HR2.out _).mono ?_);rintro e w' ⟨rfl,rfl⟩)
    go_meet
    case rel=>exact⟨rfl,rfl⟩
  case rest=>
   obtain⟨rfl,rfl⟩:=hcut
   go_upto_if 41 with fail
   go_cut [4,6] (fun s4 s6 wx=>s4= .int .i64 (te:Nat)/\s6= .string F/\wx=(w.alloc (.cells #[.int .i64 0,.string ⟨#[]⟩,.int .i64 0,.string ⟨#[]⟩] 72)).grow X)
   case first=>
    by_cases hp0:0<p
    ·have hav2:at1+1+p<=S.size:=hav (by omega)
     have hx1:((at1:Int)+1).toNat=at1+1:=by omega
     have hx2:((at1:Int)+1+p).toNat=at1+1+p:=by omega
     have HTE2:=HTE.out
     rw[if_neg (by omega)]at HTE2
     have HTE3:=Lib.hid HTE2
     obtain⟨G,hG⟩: ∃G:ByteArray,S.extract (at1+1) (at1+1+p)=G:=⟨_,rfl⟩
     have HGd:Hid (G.data.toList=(v.drop 1).take p):=by
      show _=_
      rw[<-hG,str_cut,HD.out]
      show(s.take _).drop _=_
      rw[List.drop_take,<-HV1.out,List.drop_drop]
      congr 1;omega
     have hGs:G.size<=1000000000:=by rw[<-len_data,HGd.out,List.length_take];omega
     have hF1s:F1.size<=1000000000:=by rw[<-len_data,HF1d.out,List.length_take];omega
     clear HTE2
     go_wp2
     go_meet
     case rel=>exact⟨int_eq (by have:=HTE3.out;omega),str_eq (by rw[HFd.out,ByteArray.data_append,Array.toList_append,HF1d.out,HGd.out]),rfl⟩
    ·have h0:p=0:=by omega
     subst h0
     have HTE2:=HTE.out
     rw[if_pos rfl,Nat.add_zero]at HTE2
     have HTE3:=Lib.hid HTE2
     clear HTE2
     go_wp2
     go_meet
     case rel=>exact⟨int_eq (by have:=HTE3.out;omega),str_eq (by rw[HFd.out,HF1d.out,List.take_zero,List.append_nil]),rfl⟩
   case rest=>
    obtain⟨rfl,rfl,rfl⟩:=hcut
    by_cases hF0:F.data.toList=[]
    ·have hFe:F.toList.isEmpty=true:=by rw[ba_emp,hF0];rfl
     have HN:Hid (numV s=(zeroC,0)):=by
      show _=_
      have h1:=HFd.out
      rw[hF0]at h1
      have h2:=List.append_eq_nil_iff.1 h1.symm
      have h3:numC s=none:=by
       unfold numC
       rw[HP.out]
       unfold numOf
       simp only
       rw[if_pos h2]
      rw[HV.out,h3]
     go_wp2
     ((try simp only[Exit.inBlock,Exit.then]);refine bodyPost_ret (v:= .tuple #[.agg #[.int .i64 0,.string ⟨#[]⟩,.int .i64 0,.string ⟨#[]⟩],.int .i64 0]) (by(first|rw[results_cell_tmp rfl]|rw[results_cell1 rfl]);go_simp) rfl ?_)
     exact Ret.of (by rw[HN.out];rfl) bel
    ·have hFe:F.toList.isEmpty=false:=by rw[ba_emp];simpa using hF0
     have HNo:Hid (¬((s.drop t).take wn=[]/\(v.drop 1).take p=[])):=fun h=>hF0 (by rw[HFd.out,h.1,h.2];rfl)
     have HC:Hid (numC s=if 6<wn\/3<p\/64<un then some (badC,te+un)else some (⟨3,[],if hd (fun c=>decide (c.toNat=45)) s then-(valL ((s.drop t).take wn++(v.drop 1).take p++List.replicate (3-p) 48):Int)else valL ((s.drop t).take wn++(v.drop 1).take p++List.replicate (3-p) 48),lowL (r.take un)⟩,te+un)):=by
      show _=_
      unfold numC
      rw[HP.out]
      unfold numOf
      simp only
      rw[if_neg HNo.out,HW1.out,HW2.out,HW3.out]
     clear hF0
     go_upto_block 0 with fail
     go_cut [8] (fun s8 wx=>s8= .int .i64 (un:Nat)/\wx=(w.alloc (.cells #[.int .i64 0,.string ⟨#[]⟩,.int .i64 0,.string ⟨#[]⟩] 72)).grow X)
     case first=>
      have HPf2:=Lib.hid (fun W=>show Calls Tryz.prog 45 #[.string (S.extract te S.size),.string ⟨#[37]⟩] W fun e w'=>e= .returned (.bool (hd (fun d=>decide (d.toNat=37)) r))/\w'=W from by
       have:=prefix_any S te 37 W
       rw[HD.out,HRr.out]at this;exact this)
      by_cases hlt:te<S.size
      ·have hlt2:te<s.length:=by rw[<-HL.out];exact hlt
       have HR':Hid (r=S[te]::s.drop (te+1)):=by show _=_;rw[<-HRr.out,List.drop_eq_getElem_cons hlt2,at_bs S s HD.out te hlt]
       have HUe:Hid (un=if S[te].toNat=37 then 1 else if letB S[te]then twc goB r else 0):=by
        show _=_
        rw[<-HUn.out,HR'.out];rfl
       rw[show hd (fun d=>decide (d.toNat=37)) r=decide (S[te].toNat=37) by rw[HR'.out];rfl]at HPf2
       have HLt:=Lib.hid (fun W=>letter_anyQ S[te] W)
       by_cases h37:S[te].toNat=37
       ·rw[decide_eq_true h37]at HPf2
        rw[if_pos h37]at HUe
        have HPf3:=Lib.hid HPf2.out
        clear HPf2 h37 HLt
        go_wp2_with(go_at_call 45;(with_reducible refine(HPf3.out _).mono ?_);rintro e w' ⟨rfl,rfl⟩)
        go_meet
        case rel=>exact⟨int_eq (by rw[HUe.out];rfl),rfl⟩
       ·rw[decide_eq_false h37]at HPf2
        rw[if_neg h37]at HUe
        have HPf3:=Lib.hid HPf2.out
        cases hl:letB S[te]
        ·rw[hl]at HLt HUe
         have HLt2:=Lib.hid HLt.out
         clear HPf2 h37 HLt hl
         go_wp2_with(first|(go_at_call 45;(with_reducible refine(HPf3.out _).mono ?_);rintro e w' ⟨rfl,rfl⟩)|(go_at_call 161;(with_reducible refine(HLt2.out _).mono ?_);rintro e w' ⟨rfl,rfl⟩))
         go_meet
         case rel=>exact⟨int_eq (by rw[HUe.out];rfl),rfl⟩
        ·rw[hl]at HLt HUe
         have HLt2:=Lib.hid HLt.out
         have HR3:=Lib.hid (fun W=>show Calls Tryz.prog 243 #[.string S,.int .i64 te,.func (.func 244) #[] #[]] W fun e w'=>e= .returned (.int .i64 un)/\W=w' from by
          have:=row_anyQ S te _ _ W goes_predQ hteS (by omega)
          rw[HD.out,HRr.out]at this
          rw[HUe.out];exact this)
         clear HPf2 h37 HLt hl
         go_wp2_with(first|(go_at_call 45;(with_reducible refine(HPf3.out _).mono ?_);rintro e w' ⟨rfl,rfl⟩)|(go_at_call 161;(with_reducible refine(HLt2.out _).mono ?_);rintro e w' ⟨rfl,rfl⟩)|(go_at_call 243;(with_reducible refine(HR3.out _).mono ?_);rintro e w' ⟨rfl,rfl⟩))
         go_meet
         case rel=>exact⟨rfl,rfl⟩
      ·have hr0:r=[]:=by rw[<-HRr.out];exact List.drop_eq_nil_of_le (by rw[<-HL.out];omega)
       have HUe:Hid (un=0):=by show _=_;rw[<-HUn.out,hr0];rfl
       rw[show hd (fun d=>decide (d.toNat=37)) r=false by rw[hr0];rfl]at HPf2
       have HPf3:=Lib.hid HPf2.out
       clear HPf2 hr0
       go_wp2_with(go_at_call 45;(with_reducible refine(HPf3.out _).mono ?_);rintro e w' ⟨rfl,rfl⟩)
       go_meet
       case rel=>exact⟨int_eq (by rw[HUe.out];rfl),rfl⟩
     case rest=>
      obtain⟨rfl,rfl⟩:=hcut
      have HBd:=Lib.hid (fun W=>bad_any W)
      by_cases hb1:6<wn
      ·rw[if_pos (.inl hb1)]at HC
       go_wp2_with(go_at_call 247;(with_reducible refine(Ret.flat (HBd.out _)).mono ?_);rintro e w' ⟨rfl,X2,rfl⟩;simp only[Css.agg,badC,sv])
       ((try simp only[Exit.inBlock,Exit.then]);refine bodyPost_ret (v:= .tuple #[.agg #[.int .i64 7,.string ⟨#[]⟩,.int .i64 0,.string ⟨#[]⟩],.int .i64 ((te:Int)+un)]) (by(first|rw[results_cell_tmp rfl]|rw[results_cell1 rfl]);go_simp) rfl ?_)
       exact Ret.of (by rw[HV.out,HC.out];simp[badC,Css.agg,sv]) bel
      by_cases hb2:3<p
      ·rw[if_pos (.inr (.inl hb2))]at HC
       go_wp2_with(go_at_call 247;(with_reducible refine(Ret.flat (HBd.out _)).mono ?_);rintro e w' ⟨rfl,X2,rfl⟩;simp only[Css.agg,badC,sv])
       ((try simp only[Exit.inBlock,Exit.then]);refine bodyPost_ret (v:= .tuple #[.agg #[.int .i64 7,.string ⟨#[]⟩,.int .i64 0,.string ⟨#[]⟩],.int .i64 ((te:Int)+un)]) (by(first|rw[results_cell_tmp rfl]|rw[results_cell1 rfl]);go_simp) rfl ?_)
       exact Ret.of (by rw[HV.out,HC.out];simp[badC,Css.agg,sv]) bel
      by_cases hb3:64<un
      ·rw[if_pos (.inr (.inr hb3))]at HC
       go_wp2_with(go_at_call 247;(with_reducible refine(Ret.flat (HBd.out _)).mono ?_);rintro e w' ⟨rfl,X2,rfl⟩;simp only[Css.agg,badC,sv])
       ((try simp only[Exit.inBlock,Exit.then]);refine bodyPost_ret (v:= .tuple #[.agg #[.int .i64 7,.string ⟨#[]⟩,.int .i64 0,.string ⟨#[]⟩],.int .i64 ((te:Int)+un)]) (by(first|rw[results_cell_tmp rfl]|rw[results_cell1 rfl]);go_simp) rfl ?_)
       exact Ret.of (by rw[HV.out,HC.out];simp[badC,Css.agg,sv]) bel
      rw[if_neg (by omega)]at HC
      have HZr:=Lib.hid (fun W=>show Calls Tryz.prog 278 #[.string ⟨#[48]⟩,.int .i64 (3-(p:Int))] W (Ret (.string ⟨(List.replicate (3-p) (48:UInt8)).toArray⟩) W)from by
       have:=zeros_any (3-p) W (by omega)
       rwa[show((3-p:Nat):Int)=3-(p:Int) by omega]at this)
      obtain⟨ZR,hZR⟩: ∃Z:ByteArray,⟨(List.replicate (3-p) (48:UInt8)).toArray⟩=Z:=⟨_,rfl⟩
      have hZs:ZR.size<=3:=by rw[<-hZR];show(List.replicate (3-p) (48:UInt8)).length<=3;rw[List.length_replicate];omega
      have hFs:F.size<=9:=by rw[<-len_data,HFd.out,List.length_append,HW1.out,HW2.out];omega
      obtain⟨m,hmv⟩: ∃m,valL ((s.drop t).take wn++(v.drop 1).take p++List.replicate (3-p) 48)=m:=⟨_,rfl⟩
      have hdig:((s.drop t).take wn++(v.drop 1).take p++List.replicate (3-p) (48:UInt8)).all digB=true:=by
       rw[List.all_append,List.all_append,hal1,hal2]
       simp only[Bool.and_self,Bool.true_and,List.all_eq_true]
       intro c hc
       rw[List.eq_of_mem_replicate hc];decide
      have hdl:((s.drop t).take wn++(v.drop 1).take p++List.replicate (3-p) (48:UInt8)).length<=9:=by
       rw[List.length_append,List.length_append,HW1.out,HW2.out,List.length_replicate];omega
      have hm9:=valL_small _ hdig hdl
      have HNu:=Lib.hid (fun W=>show Calls Tryz.prog 190 #[.string (F++ZR),.int .i64 10,.int .i64 1099511627776] W (Ret (.tuple #[.int .i64 (m:Nat),.bool true]) W)from by
       have h0:(s.drop t).take wn++(v.drop 1).take p++List.replicate (3-p) (48:UInt8)≠[]:=by
        intro h;rw[List.append_eq_nil_iff,List.append_eq_nil_iff]at h;exact HNo.out h.1
       have:=number_any _ W h0 hdig hdl
       rw[hmv]at this
       rw[show F++ZR=⟨((s.drop t).take wn++(v.drop 1).take p++List.replicate (3-p) (48:UInt8)).toArray⟩from ba_ext (by rw[ByteArray.data_append,Array.toList_append,HFd.out,<-hZR])]
       exact this)
      rw[hmv]at hm9 HC
      rw[hZR]at HZr
      have HLo:=Lib.hid (fun W=>show Calls Tryz.prog 162 #[.string (S.extract te (te+un))] W (Ret (.string ⟨(lowL (r.take un)).toArray⟩) W)from by
       have:=lower_any (S.extract te (te+un)) W (by rw[<-len_data,str_cut];show((S.data.toList.take _).drop _).length<=_;rw[List.length_drop,List.length_take];omega)
       rw[show(S.extract te (te+un)).data.toList=r.take un from by rw[str_cut,HD.out,<-HRr.out];show(s.take _).drop _=_;rw[List.drop_take];congr 1;omega]at this
       exact this)
      have hpos:0<S.size:=by rw[HL.out];exact List.length_pos_iff.2 hne
      have HNg:Hid (hd (fun c=>decide (c.toNat=45)) s=decide (S[0].toNat=45)):=by
       show _=_
       rw[at_bs S s HD.out 0 hpos]
       cases s with
       |nil=>exact absurd rfl hne
       |cons c s'=>rfl
      rw[HNg.out]at HC
      clear hmv hdig hdl hZR hal1 hal2
      by_cases hn:S[0].toNat=45
      ·have b45:((S[0].toNat:Int)==45)=true:=by simp[hn]
       rw[decide_eq_true hn,if_pos rfl]at HC
       clear hn
       go_wp2_with(first|(go_at_call 278;(with_reducible refine(Ret.flat (HZr.out _)).mono ?_);rintro e w' ⟨rfl,X2,rfl⟩)|(go_at_call 190;(with_reducible refine(Ret.flat (HNu.out _)).mono ?_);rintro e w' ⟨rfl,X3,rfl⟩)|(go_at_call 162;(with_reducible refine(Ret.flat (HLo.out _)).mono ?_);rintro e w' ⟨rfl,X4,rfl⟩))
       ((try simp only[Exit.inBlock,Exit.then]);refine bodyPost_ret (v:= .tuple #[.agg #[.int .i64 3,.string ⟨#[]⟩,.int .i64 (-(m:Int)),.string ⟨(lowL (r.take un)).toArray⟩],.int .i64 ((te:Int)+un)]) (by(first|rw[results_cell_tmp rfl]|rw[results_cell1 rfl]);go_simp) rfl ?_)
       exact Ret.of (by rw[HV.out,HC.out];simp[Css.agg,sv]) bel
      ·have b45:((S[0].toNat:Int)==45)=false:=by simp;omega
       rw[decide_eq_false hn,if_neg (by simp)]at HC
       clear hn
       go_wp2_with(first|(go_at_call 278;(with_reducible refine(Ret.flat (HZr.out _)).mono ?_);rintro e w' ⟨rfl,X2,rfl⟩)|(go_at_call 190;(with_reducible refine(Ret.flat (HNu.out _)).mono ?_);rintro e w' ⟨rfl,X3,rfl⟩)|(go_at_call 162;(with_reducible refine(Ret.flat (HLo.out _)).mono ?_);rintro e w' ⟨rfl,X4,rfl⟩))
       ((try simp only[Exit.inBlock,Exit.then]);refine bodyPost_ret (v:= .tuple #[.agg #[.int .i64 3,.string ⟨#[]⟩,.int .i64 (m:Int),.string ⟨(lowL (r.take un)).toArray⟩],.int .i64 ((te:Int)+un)]) (by(first|rw[results_cell_tmp rfl]|rw[results_cell1 rfl]);go_simp) rfl ?_)
       exact Ret.of (by rw[HV.out,HC.out];simp[Css.agg,sv]) bel
end Go.Proofs.YtiikamobcmgekaaGreatDoor
