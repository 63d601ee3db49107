/- The walks of styles: the piece that a text begins with. -/
import Derived.Test.YtiikamobcmgekaaGreatDoorJCssF
namespace Go.Proofs.YtiikamobcmgekaaGreatDoor
set_option maxRecDepth 100000
set_option maxHeartbeats 6400000
open Go.RowKit Go.Shelf
attribute [local go_sem] Oper.semAt_some
def quotV (s:Bs):Css × Nat:=match quotC s with
 |some x=>x
 |none=>(zeroC,0)
theorem quotv_any (s:Bs) (w:World) (hm:s.length<=1000000000) (hne:s≠[]):Calls Tryz.prog 242 #[.string ⟨s.toArray⟩] w (Ret (.tuple #[Css.agg (quotV s).1,.int .i64 (quotV s).2]) w):=by
 obtain⟨c,r,hcs⟩: ∃c r,s=c::r:=by
  cases s with
  |nil=>exact absurd rfl hne
  |cons c r=>exact⟨c,r,rfl⟩
 obtain⟨S,hS⟩: ∃S:ByteArray,⟨s.toArray⟩=S:=⟨_,rfl⟩
 have hd0:S.data.toList=s:=by rw[<-hS]
 have hsz:S.size=r.length+1:=by rw[<-hS];show s.length=_;rw[hcs];rfl
 have hpos:0<S.size:=by omega
 have hSm:S.size<=1000000000:=by rw[hsz];rw[hcs]at hm;simpa using hm
 have hc0:S[0]=c:=by rw[at_bs S s hd0 0 hpos];simp[hcs]
 obtain⟨k,hk⟩: ∃k,twc plB r=k:=⟨_,rfl⟩
 have hkl:=twc_le plB r
 rw[hk]at hkl
 have hkS:k<=S.size:=by omega
 have HQ0:Hid (qtB c=true->(S.size<=1+k->quotV s=(zeroC,0))/\(∀h:1+k<S.size,(S[1+k]=S[0]->quotV s=(⟨5,r.take k,0,[]⟩,k+2))/\(S[1+k]≠S[0]->quotV s=(zeroC,0)))):=fun hq=>by
  subst hcs
  refine⟨fun h=> ?_,fun h=> ?_⟩
  ·have:hd (fun d=>decide (d=c)) (r.drop k)=false:=by rw[List.drop_eq_nil_of_le (by omega)];rfl
   simp[quotV,quotC,hk,this]
  ·have hkr:k<r.length:=by omega
   have hat:S[1+k]=r[k]:=by rw[at_bs S _ hd0 _ h];simp[Nat.add_comm 1 k]
   have:hd (fun d=>decide (d=c)) (r.drop k)=decide (S[1+k]=S[0]):=by rw[List.drop_eq_getElem_cons hkr,hat,hc0];rfl
   refine⟨fun he=> ?_,fun he=> ?_⟩
   ·simp only[quotV,quotC,hk,this,hq,he,decide_true,Bool.and_self,if_true]
   ·simp only[quotV,quotC,hk,this,hq,decide_eq_false he,Bool.and_false,Bool.false_eq_true,if_false]
 rw[hS]
 clear hS hm hne
 by_cases h34:c.toNat=34
 ·have b34:((S[0].toNat:Int) !=34)=false:=by rw[hc0];simp[h34]
  have QT:qtB c=true:=by simp[qtB,h34]
  clear h34 hc0
  ·have HR:=Lib.hid (fun W=>show Calls Tryz.prog 243 #[.string S,.int .i64 1,.func (.func 279) #[] #[]] W fun e w'=>e= .returned (.int .i64 k)/\W=w' from by
    have:=row_anyQ S 1 _ _ W plain_pred hpos (by omega)
    rw[hd0,hcs,List.drop_succ_cons,List.drop_zero,hk]at this;exact this)
   have HQ:=HQ0.out QT
   by_cases hge:S.size<=1+k
   ·have hge2:decide ((S.size:Int)<=1+(k:Int))=true:=by simp;omega
    have HN:Hid (quotV s=(zeroC,0)):=HQ.1 hge
    clear HQ hk hd0 hsz hcs
    go_enter Tryz.func242,Tryz.ntmps242
    go_wp2_with(go_at_call 243;(with_reducible refine(HR.out _).mono ?_);rintro e w' ⟨rfl,rfl⟩)
    refine wp_region_grow (by kernel_rfl) (by kernel_rfl) ?_
    repeat(go_big_quiet_step(fail))
    refine wpQuiet_nil ?_
    intro _ hw';obtain⟨nq,hw''⟩:=hw';subst hw''
    go_wp2
    ((try simp only[Exit.inBlock,Exit.then]);refine bodyPost_ret (v:= .tuple #[.agg #[.int .i64 0,.string ⟨#[]⟩,.int .i64 0,.string ⟨#[]⟩],.int .i64 0]) (by(first|rw[results_cell_tmp rfl]|rw[results_cell1 rfl]);go_simp) rfl ?_)
    exact Ret.of (by rw[HN.out];rfl) bel
   ·have hlt:1+k<S.size:=by omega
    have hge2:decide ((S.size:Int)<=1+(k:Int))=false:=by simp;omega
    have hz0:(0:Int)<=1+(k:Int):=by omega
    have hz1:(1+(k:Int)).toNat=1+k:=by omega
    have hz2:1+(k:Int)<(S.size:Int):=by omega
    by_cases hq:S[1+k]=S[0]
    ·have HN:Hid (quotV s=(⟨5,r.take k,0,[]⟩,k+2)):=(HQ.2 hlt).1 hq
     have bq:((S[1+k].toNat:Int) !=(S[0].toNat:Int))=false:=by simp[hq]
     have he1:S.extract 1 (1+k)=⟨(r.take k).toArray⟩:=by rw[str_cut,hd0,hcs];congr 2;show((c::r).take _).drop 1=_;rw[Nat.add_comm,List.take_succ_cons];rfl
     clear HQ hk hd0 hsz hcs hq
     go_enter Tryz.func242,Tryz.ntmps242
     go_wp2_with(go_at_call 243;(with_reducible refine(HR.out _).mono ?_);rintro e w' ⟨rfl,rfl⟩)
     refine wp_region_grow (by kernel_rfl) (by kernel_rfl) ?_
     repeat(go_big_quiet_step(fail))
     refine wpQuiet_nil ?_
     intro _ hw';obtain⟨nq,hw''⟩:=hw';subst hw''
     go_wp2
     ((try simp only[Exit.inBlock,Exit.then]);refine bodyPost_ret (v:= .tuple #[.agg #[.int .i64 5,.string ⟨(r.take k).toArray⟩,.int .i64 0,.string ⟨#[]⟩],.int .i64 (1+(k:Int)+1)]) (by(first|rw[results_cell_tmp rfl]|rw[results_cell1 rfl]);go_simp) rfl ?_)
     exact Ret.of (by rw[HN.out];simp[Css.agg,sv];omega) bel
    ·have HN:Hid (quotV s=(zeroC,0)):=(HQ.2 hlt).2 hq
     have bq:((S[1+k].toNat:Int) !=(S[0].toNat:Int))=true:=by
      simp only[bne_iff_ne,ne_eq];intro h;exact hq (UInt8.toNat_inj.1 (by omega))
     clear HQ hk hd0 hsz hcs hq
     go_enter Tryz.func242,Tryz.ntmps242
     go_wp2_with(go_at_call 243;(with_reducible refine(HR.out _).mono ?_);rintro e w' ⟨rfl,rfl⟩)
     refine wp_region_grow (by kernel_rfl) (by kernel_rfl) ?_
     repeat(go_big_quiet_step(fail))
     refine wpQuiet_nil ?_
     intro _ hw';obtain⟨nq,hw''⟩:=hw';subst hw''
     go_wp2
     ((try simp only[Exit.inBlock,Exit.then]);refine bodyPost_ret (v:= .tuple #[.agg #[.int .i64 0,.string ⟨#[]⟩,.int .i64 0,.string ⟨#[]⟩],.int .i64 0]) (by(first|rw[results_cell_tmp rfl]|rw[results_cell1 rfl]);go_simp) rfl ?_)
     exact Ret.of (by rw[HN.out];rfl) bel
 ·have b34:((S[0].toNat:Int) !=34)=true:=by rw[hc0];simp;omega
  by_cases h39:c.toNat=39
  ·have b39:((S[0].toNat:Int) !=39)=false:=by rw[hc0];simp[h39]
   have QT:qtB c=true:=by simp[qtB,h39]
   clear h34 h39 hc0
   ·have HR:=Lib.hid (fun W=>show Calls Tryz.prog 243 #[.string S,.int .i64 1,.func (.func 279) #[] #[]] W fun e w'=>e= .returned (.int .i64 k)/\W=w' from by
     have:=row_anyQ S 1 _ _ W plain_pred hpos (by omega)
     rw[hd0,hcs,List.drop_succ_cons,List.drop_zero,hk]at this;exact this)
    have HQ:=HQ0.out QT
    by_cases hge:S.size<=1+k
    ·have hge2:decide ((S.size:Int)<=1+(k:Int))=true:=by simp;omega
     have HN:Hid (quotV s=(zeroC,0)):=HQ.1 hge
     clear HQ hk hd0 hsz hcs
     go_enter Tryz.func242,Tryz.ntmps242
     go_wp2_with(go_at_call 243;(with_reducible refine(HR.out _).mono ?_);rintro e w' ⟨rfl,rfl⟩)
     refine wp_region_grow (by kernel_rfl) (by kernel_rfl) ?_
     repeat(go_big_quiet_step(fail))
     refine wpQuiet_nil ?_
     intro _ hw';obtain⟨nq,hw''⟩:=hw';subst hw''
     go_wp2
     ((try simp only[Exit.inBlock,Exit.then]);refine bodyPost_ret (v:= .tuple #[.agg #[.int .i64 0,.string ⟨#[]⟩,.int .i64 0,.string ⟨#[]⟩],.int .i64 0]) (by(first|rw[results_cell_tmp rfl]|rw[results_cell1 rfl]);go_simp) rfl ?_)
     exact Ret.of (by rw[HN.out];rfl) bel
    ·have hlt:1+k<S.size:=by omega
     have hge2:decide ((S.size:Int)<=1+(k:Int))=false:=by simp;omega
     have hz0:(0:Int)<=1+(k:Int):=by omega
     have hz1:(1+(k:Int)).toNat=1+k:=by omega
     have hz2:1+(k:Int)<(S.size:Int):=by omega
     by_cases hq:S[1+k]=S[0]
     ·have HN:Hid (quotV s=(⟨5,r.take k,0,[]⟩,k+2)):=(HQ.2 hlt).1 hq
      have bq:((S[1+k].toNat:Int) !=(S[0].toNat:Int))=false:=by simp[hq]
      have he1:S.extract 1 (1+k)=⟨(r.take k).toArray⟩:=by rw[str_cut,hd0,hcs];congr 2;show((c::r).take _).drop 1=_;rw[Nat.add_comm,List.take_succ_cons];rfl
      clear HQ hk hd0 hsz hcs hq
      go_enter Tryz.func242,Tryz.ntmps242
      go_wp2_with(go_at_call 243;(with_reducible refine(HR.out _).mono ?_);rintro e w' ⟨rfl,rfl⟩)
      refine wp_region_grow (by kernel_rfl) (by kernel_rfl) ?_
      repeat(go_big_quiet_step(fail))
      refine wpQuiet_nil ?_
      intro _ hw';obtain⟨nq,hw''⟩:=hw';subst hw''
      go_wp2
      ((try simp only[Exit.inBlock,Exit.then]);refine bodyPost_ret (v:= .tuple #[.agg #[.int .i64 5,.string ⟨(r.take k).toArray⟩,.int .i64 0,.string ⟨#[]⟩],.int .i64 (1+(k:Int)+1)]) (by(first|rw[results_cell_tmp rfl]|rw[results_cell1 rfl]);go_simp) rfl ?_)
      exact Ret.of (by rw[HN.out];simp[Css.agg,sv];omega) bel
     ·have HN:Hid (quotV s=(zeroC,0)):=(HQ.2 hlt).2 hq
      have bq:((S[1+k].toNat:Int) !=(S[0].toNat:Int))=true:=by
       simp only[bne_iff_ne,ne_eq];intro h;exact hq (UInt8.toNat_inj.1 (by omega))
      clear HQ hk hd0 hsz hcs hq
      go_enter Tryz.func242,Tryz.ntmps242
      go_wp2_with(go_at_call 243;(with_reducible refine(HR.out _).mono ?_);rintro e w' ⟨rfl,rfl⟩)
      refine wp_region_grow (by kernel_rfl) (by kernel_rfl) ?_
      repeat(go_big_quiet_step(fail))
      refine wpQuiet_nil ?_
      intro _ hw';obtain⟨nq,hw''⟩:=hw';subst hw''
      go_wp2
      ((try simp only[Exit.inBlock,Exit.then]);refine bodyPost_ret (v:= .tuple #[.agg #[.int .i64 0,.string ⟨#[]⟩,.int .i64 0,.string ⟨#[]⟩],.int .i64 0]) (by(first|rw[results_cell_tmp rfl]|rw[results_cell1 rfl]);go_simp) rfl ?_)
      exact Ret.of (by rw[HN.out];rfl) bel
  ·have b39:((S[0].toNat:Int) !=39)=true:=by rw[hc0];simp;omega
   have HN:Hid (quotV s=(zeroC,0)):=by show _=_;rw[hcs];simp[quotV,quotC,qtB,h34,h39]
   clear h34 h39 hc0 hk hd0 hsz hcs
   go_enter Tryz.func242,Tryz.ntmps242
   go_wp2_with fail
   ((try simp only[Exit.inBlock,Exit.then]);refine bodyPost_ret (v:= .tuple #[.agg #[.int .i64 0,.string ⟨#[]⟩,.int .i64 0,.string ⟨#[]⟩],.int .i64 0]) (by(first|rw[results_cell_tmp rfl]|rw[results_cell1 rfl]);go_simp) rfl ?_)
   exact Ret.of (by rw[HN.out];rfl) bel
def marksB:ByteArray:=⟨#[58,59,44,40,41,47,33,42,43,46,62,61,45]⟩
theorem marks_at (c:UInt8):decide ((0:Int)<=Lib.indexByte marksB.data.toList c)=mkB c:=by
 have h: ∀n:Fin 256,decide ((0:Int)<=Lib.indexByte marksB.data.toList (UInt8.ofNat n.val))=mkB (UInt8.ofNat n.val):=by decide+kernel
 have:=h ⟨c.toNat,c.toNat_lt⟩
 simpa using this
theorem index_any (c:UInt8) (W:World):Calls Tryz.prog 246 #[.string ⟨#[58,59,44,40,41,47,33,42,43,46,62,61,45]⟩,.int .u8 c.toNat] W fun e w'=>e= .returned (.int .i64 (Lib.indexByte marksB.data.toList c))/\w'=W:=by
 have:=Tryz.strings_IndexByte marksB (c.toNat:Int) W
 rw[show((c.toNat:Int).toNat.toUInt8)=c by simp]at this
 exact this
def lastC:Bs->Css × Nat
 |[]=>(badC,1)
 |c::r=>if c.toNat=35/\0<twc goB r then(namedC 4 (r.take (twc goB r)),twc goB r+1)else if mkB c then(⟨6,[c],0,[]⟩,1)else(badC,1)
theorem piece_by (s:Bs):pieceC s=if nameB s then nameC s
  else match numC s with
  |some x=>x
  |none=>match quotC s with
   |some x=>x
   |none=>lastC s:=by
 unfold pieceC lastC
 rfl
theorem piece_anyQ (s:Bs) (w:World) (hm:s.length<=1000000000) (hne:s≠[]):Calls Tryz.prog 181 #[.string ⟨s.toArray⟩] w (Ret (.tuple #[Css.agg (pieceC s).1,.int .i64 (pieceC s).2]) w):=by
 obtain⟨S,hS⟩: ∃S:ByteArray,⟨s.toArray⟩=S:=⟨_,rfl⟩
 have hd0:S.data.toList=s:=by rw[<-hS]
 have hsz:S.size=s.length:=by rw[<-hS];rfl
 have hpos:0<S.size:=by rw[hsz];exact List.length_pos_iff.2 hne
 have hSm:S.size<=1000000000:=by omega
 have HN:=Lib.hid (fun W=>name_any s W (by omega))
 have HM:=Lib.hid (fun W=>numv_any s W hm hne)
 have HQ:=Lib.hid (fun W=>quotv_any s W hm hne)
 have HP:=Lib.hid (piece_by s)
 rw[hS]at HN HM HQ ⊢
 have hk:=piece_kinds hne (x:=(pieceC s).1) (n:=(pieceC s).2) rfl
 cases hn:nameB s
 ·have e1:nameV s=(zeroC,0):=by unfold nameV;rw[hn];rfl
  rw[e1]at HN
  simp only[Css.agg,zeroC,sv]at HN
  rw[hn]at HP
  simp only[Bool.false_eq_true,if_false]at HP
  cases hq:numC s with
  |some y=>
   have e2:numV s=y:=by unfold numV;rw[hq]
   rw[hq]at HP
   have HP2:Hid (pieceC s=y):=HP.out
   rw[HP2.out]at hk
   rw[e2]at HM
   obtain⟨y,n⟩:=y
   have hn1:0<n:=by omega
   have HN2:=Lib.hid HN.out
   have HM2:=Lib.hid HM.out
   simp only[Css.agg,sv]at HM2
   clear HP HN HM HQ hk e1 e2 hq hn hS hd0
   go_enter Tryz.func181,Tryz.ntmps181
   go_wp2_with(first|(go_at_call 240;(with_reducible refine(HN2.out _).mono ?_);rintro e w' ⟨rfl,X1,rfl⟩)|(go_at_call 241;(with_reducible refine(Ret.flatA (HM2.out _)).mono ?_);rintro e w' ⟨rfl,X2,rfl⟩))
   ((try simp only[Exit.inBlock,Exit.then]);refine bodyPost_ret (v:= .tuple #[.agg #[.int .i64 y.kind,.string ⟨y.text.toArray⟩,.int .i64 y.num,.string ⟨y.unit.toArray⟩],.int .i64 (n:Int)]) (by(first|rw[results_cell_tmp rfl]|rw[results_cell1 rfl]);go_simp) rfl ?_)
   exact Ret.of (by rw[HP2.out];rfl) bel
  |none=>
   have e2:numV s=(zeroC,0):=by unfold numV;rw[hq]
   rw[e2]at HM
   simp only[Css.agg,zeroC,sv]at HM
   rw[hq]at HP
   simp only at HP
   cases hu:quotC s with
   |some y=>
    have e3:quotV s=y:=by unfold quotV;rw[hu]
    rw[hu]at HP
    have HP2:Hid (pieceC s=y):=HP.out
    rw[HP2.out]at hk
    rw[e3]at HQ
    obtain⟨y,n⟩:=y
    have hn1:0<n:=by omega
    have HN2:=Lib.hid HN.out
    have HM2:=Lib.hid HM.out
    have HQ2:=Lib.hid HQ.out
    simp only[Css.agg,sv]at HQ2
    clear HP HN HM HQ hk e1 e2 e3 hq hu hn hS hd0
    go_enter Tryz.func181,Tryz.ntmps181
    go_wp2_with(first|(go_at_call 240;(with_reducible refine(HN2.out _).mono ?_);rintro e w' ⟨rfl,X1,rfl⟩)|(go_at_call 241;(with_reducible refine(Ret.flatA (HM2.out _)).mono ?_);rintro e w' ⟨rfl,X2,rfl⟩)|(go_at_call 242;(with_reducible refine(Ret.flatA (HQ2.out _)).mono ?_);rintro e w' ⟨rfl,X3,rfl⟩))
    ((try simp only[Exit.inBlock,Exit.then]);refine bodyPost_ret (v:= .tuple #[.agg #[.int .i64 y.kind,.string ⟨y.text.toArray⟩,.int .i64 y.num,.string ⟨y.unit.toArray⟩],.int .i64 (n:Int)]) (by(first|rw[results_cell_tmp rfl]|rw[results_cell1 rfl]);go_simp) rfl ?_)
    exact Ret.of (by rw[HP2.out];rfl) bel
   |none=>
    have e3:quotV s=(zeroC,0):=by unfold quotV;rw[hu]
    rw[e3]at HQ
    simp only[Css.agg,zeroC,sv]at HQ
    rw[hu]at HP
    simp only at HP
    obtain⟨c,r,hcs⟩: ∃c r,s=c::r:=by
     cases s with
     |nil=>exact absurd rfl hne
     |cons c r=>exact⟨c,r,rfl⟩
    have hc0:S[0]=c:=by rw[at_bs S s hd0 0 hpos];simp[hcs]
    obtain⟨k,hk2⟩: ∃k,twc goB r=k:=⟨_,rfl⟩
    have hkl:=twc_le goB r
    rw[hk2]at hkl
    have hrl:S.size=r.length+1:=by rw[hsz,hcs];rfl
    have hkS:k+1<=S.size:=by omega
    have HP2:Hid (pieceC s=if c.toNat=35/\0<k then(namedC 4 (r.take k),k+1)else if mkB c then(⟨6,[c],0,[]⟩,1)else(badC,1)):=by
     have:=HP.out
     rw[<-hk2,this,hcs]
     rfl
    have HR:=Lib.hid (fun W=>show Calls Tryz.prog 243 #[.string S,.int .i64 1,.func (.func 244) #[] #[]] W fun e w'=>e= .returned (.int .i64 k)/\W=w' from by
     have:=row_anyQ S 1 _ _ W goes_predQ hpos (by omega)
     rw[hd0,hcs,List.drop_succ_cons,List.drop_zero,hk2]at this;exact this)
    have he1:S.extract 1 (k+1)=⟨(r.take k).toArray⟩:=by rw[str_cut,hd0,hcs];congr 2
    have he2:S.extract 0 1=⟨([c]:Bs).toArray⟩:=by rw[str_takeQ,hd0,hcs];rfl
    have HNm:=Lib.hid (fun W=>named_any 4 (r.take k) W (by omega) (by omega) (by rw[List.length_take];omega))
    have HI:=Lib.hid (fun W=>show Calls Tryz.prog 246 #[.string ⟨#[58,59,44,40,41,47,33,42,43,46,62,61,45]⟩,.int .u8 S[0].toNat] W fun e w'=>e= .returned (.int .i64 (Lib.indexByte marksB.data.toList c))/\w'=W from by rw[hc0];exact index_any c W)
    have HI2:=Lib.hid (marks_at c)
    have HBd:=Lib.hid (fun W=>bad_any W)
    simp only[Css.agg,sv]at HNm
    simp only[Css.agg,badC,sv]at HBd
    have HN2:=Lib.hid HN.out
    have HM2:=Lib.hid HM.out
    have HQ2:=Lib.hid HQ.out
    generalize(⟨(r.take k).toArray⟩:ByteArray)=G at*
    by_cases h35:c.toNat=35
    ·have b35:((S[0].toNat:Int)==35)=true:=by rw[hc0];simp[h35]
     by_cases hk0:0<k
     ·have bk:decide ((0:Int)<(k:Int))=true:=by simp;omega
      have hx1:((k:Int)+1).toNat=k+1:=by omega
      rw[if_pos ⟨h35,hk0⟩]at HP2
      clear HP HN HM HQ hk e1 e2 e3 hq hu hn hS hd0 hcs hc0 hk2 hrl hkl hsz h35
      go_enter Tryz.func181,Tryz.ntmps181
      go_wp2_with(first|(go_at_call 240;(with_reducible refine(HN2.out _).mono ?_);rintro e w' ⟨rfl,X1,rfl⟩)|(go_at_call 241;(with_reducible refine(Ret.flatA (HM2.out _)).mono ?_);rintro e w' ⟨rfl,X2,rfl⟩)|(go_at_call 242;(with_reducible refine(Ret.flatA (HQ2.out _)).mono ?_);rintro e w' ⟨rfl,X3,rfl⟩)|(go_at_call 243;(with_reducible refine(HR.out _).mono ?_);rintro e w' ⟨rfl,rfl⟩)|(go_at_call 245;(with_reducible refine(Ret.flatA (HNm.out _)).mono ?_);rintro e w' ⟨rfl,X4,rfl⟩))
      ((try simp only[Exit.inBlock,Exit.then]);refine bodyPost_ret (v:= .tuple #[.agg #[.int .i64 (namedC 4 (r.take k)).kind,.string ⟨(namedC 4 (r.take k)).text.toArray⟩,.int .i64 (namedC 4 (r.take k)).num,.string ⟨(namedC 4 (r.take k)).unit.toArray⟩],.int .i64 ((k:Int)+1)]) (by(first|rw[results_cell_tmp rfl]|rw[results_cell1 rfl]);go_simp) rfl ?_)
      exact Ret.of (by rw[HP2.out];rfl) bel
     ·have hk00:k=0:=by omega
      subst hk00
      rw[if_neg (by omega)]at HP2
      clear hk0
      cases hmk:mkB c
      ·rw[hmk]at HI2 HP2
       have bm:=HI2.out
       clear HP HN HM HQ hk e1 e2 e3 hq hu hn hS hd0 hcs hc0 hk2 hrl hkl hsz h35 hmk
       generalize Lib.indexByte marksB.data.toList c=ix at*
       go_enter Tryz.func181,Tryz.ntmps181
       go_wp2_with(first|(go_at_call 240;(with_reducible refine(HN2.out _).mono ?_);rintro e w' ⟨rfl,X1,rfl⟩)|(go_at_call 241;(with_reducible refine(Ret.flatA (HM2.out _)).mono ?_);rintro e w' ⟨rfl,X2,rfl⟩)|(go_at_call 242;(with_reducible refine(Ret.flatA (HQ2.out _)).mono ?_);rintro e w' ⟨rfl,X3,rfl⟩)|(go_at_call 243;(with_reducible refine(HR.out _).mono ?_);rintro e w' ⟨rfl,rfl⟩)|(go_at_call 246;(with_reducible refine(HI.out _).mono ?_);rintro e w' ⟨rfl,rfl⟩)|(go_at_call 247;(with_reducible refine(Ret.flatA (HBd.out _)).mono ?_);rintro e w' ⟨rfl,X4,rfl⟩))
       ((try simp only[Exit.inBlock,Exit.then]);refine bodyPost_ret (v:= .tuple #[.agg #[.int .i64 7,.string ⟨#[]⟩,.int .i64 0,.string ⟨#[]⟩],.int .i64 1]) (by(first|rw[results_cell_tmp rfl]|rw[results_cell1 rfl]);go_simp) rfl ?_)
       exact Ret.of (by rw[HP2.out];rfl) bel
      ·rw[hmk]at HI2 HP2
       have bm:=HI2.out
       clear HP HN HM HQ hk e1 e2 e3 hq hu hn hS hd0 hcs hc0 hk2 hrl hkl hsz h35 hmk
       generalize Lib.indexByte marksB.data.toList c=ix at*
       go_enter Tryz.func181,Tryz.ntmps181
       go_wp2_with(first|(go_at_call 240;(with_reducible refine(HN2.out _).mono ?_);rintro e w' ⟨rfl,X1,rfl⟩)|(go_at_call 241;(with_reducible refine(Ret.flatA (HM2.out _)).mono ?_);rintro e w' ⟨rfl,X2,rfl⟩)|(go_at_call 242;(with_reducible refine(Ret.flatA (HQ2.out _)).mono ?_);rintro e w' ⟨rfl,X3,rfl⟩)|(go_at_call 243;(with_reducible refine(HR.out _).mono ?_);rintro e w' ⟨rfl,rfl⟩)|(go_at_call 246;(with_reducible refine(HI.out _).mono ?_);rintro e w' ⟨rfl,rfl⟩)|(go_at_call 247;(with_reducible refine(Ret.flatA (HBd.out _)).mono ?_);rintro e w' ⟨rfl,X4,rfl⟩))
       ((try simp only[Exit.inBlock,Exit.then]);refine bodyPost_ret (v:= .tuple #[.agg #[.int .i64 6,.string ⟨([c]:Bs).toArray⟩,.int .i64 0,.string ⟨#[]⟩],.int .i64 1]) (by(first|rw[results_cell_tmp rfl]|rw[results_cell1 rfl]);go_simp) rfl ?_)
       exact Ret.of (by rw[HP2.out];rfl) bel
    ·have b35:((S[0].toNat:Int)==35)=false:=by rw[hc0];simp;omega
     rw[if_neg (by omega)]at HP2
     cases hmk:mkB c
     ·rw[hmk]at HI2 HP2
      have bm:=HI2.out
      clear HP HN HM HQ hk e1 e2 e3 hq hu hn hS hd0 hcs hc0 hk2 hrl hkl hsz h35 hmk
      generalize Lib.indexByte marksB.data.toList c=ix at*
      go_enter Tryz.func181,Tryz.ntmps181
      go_wp2_with(first|(go_at_call 240;(with_reducible refine(HN2.out _).mono ?_);rintro e w' ⟨rfl,X1,rfl⟩)|(go_at_call 241;(with_reducible refine(Ret.flatA (HM2.out _)).mono ?_);rintro e w' ⟨rfl,X2,rfl⟩)|(go_at_call 242;(with_reducible refine(Ret.flatA (HQ2.out _)).mono ?_);rintro e w' ⟨rfl,X3,rfl⟩)|(go_at_call 243;(with_reducible refine(HR.out _).mono ?_);rintro e w' ⟨rfl,rfl⟩)|(go_at_call 246;(with_reducible refine(HI.out _).mono ?_);rintro e w' ⟨rfl,rfl⟩)|(go_at_call 247;(with_reducible refine(Ret.flatA (HBd.out _)).mono ?_);rintro e w' ⟨rfl,X4,rfl⟩))
      ((try simp only[Exit.inBlock,Exit.then]);refine bodyPost_ret (v:= .tuple #[.agg #[.int .i64 7,.string ⟨#[]⟩,.int .i64 0,.string ⟨#[]⟩],.int .i64 1]) (by(first|rw[results_cell_tmp rfl]|rw[results_cell1 rfl]);go_simp) rfl ?_)
      exact Ret.of (by rw[HP2.out];rfl) bel
     ·rw[hmk]at HI2 HP2
      have bm:=HI2.out
      clear HP HN HM HQ hk e1 e2 e3 hq hu hn hS hd0 hcs hc0 hk2 hrl hkl hsz h35 hmk
      generalize Lib.indexByte marksB.data.toList c=ix at*
      go_enter Tryz.func181,Tryz.ntmps181
      go_wp2_with(first|(go_at_call 240;(with_reducible refine(HN2.out _).mono ?_);rintro e w' ⟨rfl,X1,rfl⟩)|(go_at_call 241;(with_reducible refine(Ret.flatA (HM2.out _)).mono ?_);rintro e w' ⟨rfl,X2,rfl⟩)|(go_at_call 242;(with_reducible refine(Ret.flatA (HQ2.out _)).mono ?_);rintro e w' ⟨rfl,X3,rfl⟩)|(go_at_call 243;(with_reducible refine(HR.out _).mono ?_);rintro e w' ⟨rfl,rfl⟩)|(go_at_call 246;(with_reducible refine(HI.out _).mono ?_);rintro e w' ⟨rfl,rfl⟩)|(go_at_call 247;(with_reducible refine(Ret.flatA (HBd.out _)).mono ?_);rintro e w' ⟨rfl,X4,rfl⟩))
      ((try simp only[Exit.inBlock,Exit.then]);refine bodyPost_ret (v:= .tuple #[.agg #[.int .i64 6,.string ⟨([c]:Bs).toArray⟩,.int .i64 0,.string ⟨#[]⟩],.int .i64 1]) (by(first|rw[results_cell_tmp rfl]|rw[results_cell1 rfl]);go_simp) rfl ?_)
      exact Ret.of (by rw[HP2.out];rfl) bel
 ·have e1:nameV s=nameC s:=by unfold nameV;rw[hn];rfl
  rw[hn]at HP
  have HP2:Hid (pieceC s=nameC s):=HP.out
  rw[HP2.out]at hk
  rw[e1]at HN
  generalize nameC s=y at*
  obtain⟨y,n⟩:=y
  have hn1:0<n:=by omega
  have HN2:=Lib.hid HN.out
  simp only[Css.agg,sv]at HN2
  clear HP HN HM HQ hk e1 hn hS hd0
  go_enter Tryz.func181,Tryz.ntmps181
  go_wp2_with(go_at_call 240;(with_reducible refine(HN2.out _).mono ?_);rintro e w' ⟨rfl,X1,rfl⟩)
  ((try simp only[Exit.inBlock,Exit.then]);refine bodyPost_ret (v:= .tuple #[.agg #[.int .i64 y.kind,.string ⟨y.text.toArray⟩,.int .i64 y.num,.string ⟨y.unit.toArray⟩],.int .i64 (n:Int)]) (by(first|rw[results_cell_tmp rfl]|rw[results_cell1 rfl]);go_simp) rfl ?_)
  exact Ret.of (by rw[HP2.out];rfl) bel
end Go.Proofs.YtiikamobcmgekaaGreatDoor
