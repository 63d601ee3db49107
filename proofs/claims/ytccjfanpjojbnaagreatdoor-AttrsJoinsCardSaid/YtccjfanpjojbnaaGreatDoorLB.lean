import Derived.Test.YtccjfanpjojbnaaGreatDoorShelf
import Derived.Test.YtccjfanpjojbnaaGreatDoorKB
namespace Go.Proofs.YtccjfanpjojbnaaGreatDoor
open Bool renaming eq_iff_iff→bK,false_eq_true→gW
open Go.Ending renaming returned→aL
open Go.IntKind renaming i64→aC
open Lib renaming hid→aA,indexByte→eE
open List renaming drop_eq_getElem_cons→iK,extract_eq_take_drop→Xl,length_drop→bL,takeWhile→xr,take_succ_cons→jg
open Tryz renaming func89→je,ntmps55→zp,ntmps89→Yq,prog→aE,results89→Xx,underlying130→pE
open Go.Value renaming bool→aI,int→aB,slice→aF,string→aD,tuple→aN
set_option maxRecDepth 100000
set_option maxHeartbeats 4000000
structure LE where
 kind:Nat
 at_:Nat
 text:Bs
 err:Nat
def pQ (k:Nat->Bs->List LE) (a:Nat):Bs->List LE
 |[]=>[]
 |c::r=>match iA (c::r)with
  | .ok kd t n=>⟨kd,a,t,0⟩::k (a+n) ((c::r).drop n)
  | .bad n=>[⟨0,a+n,[],2⟩]
def pR:Nat->Nat->Bs->List LE
 |0,_,_=>[]
 |f+1,a,l=>pQ (pR f) (a+eC false l) (l.drop (eC false l))
theorem OM {k k':Nat->Bs->List LE} (a:Nat) (r:Bs) (h: ∀b l,l.length<r.length->k b l=k' b l):pQ k a r=pQ k' a r:=by
 cases r with
 |nil=>rfl
 |cons c r=>
  simp only[pQ];cases hp:iA (c::r)with
  |bad n=>rfl
  |ok kd t n=>
   have:=(xJ (c::r)).1 kd t n hp;simp only;rw[h _ _ (by rw[bL];omega)]
theorem D4 (f g:Nat) (a:Nat) (l:Bs) (hf:l.length<f) (hg:l.length<g):pR f a l=pR g a l:=by
 induction f generalizing g a l with
 |zero=>omega
 |succ f ih=>
  cases g with
  |zero=>omega
  |succ g=>
   unfold pR;refine OM _ _ λb l' hl'=> ?_;rw[bL]at hl';exact ih g _ _ om om
def jZ (a:Nat) (l:Bs):List LE:=pR (l.length+1) a l
theorem D5 (f a:Nat) (l:Bs):(pR f a l).length<=f:=by
 induction f generalizing a l with
 |zero=>simp[pR]
 |succ f ih=>
  unfold pR;generalize l.drop (eC false l)=r;cases r with
  |nil=>simp[pQ]
  |cons c r=>
   simp only[pQ];cases hp:iA (c::r)with
   |ok k t n=>simp;exact ih _ _
   |bad n=>simp
theorem C8 (a:Nat) (l:Bs):(jZ a l).length<=l.length+1:=D5 _ a l
def vH (a:Nat) (r:Bs):List LE:=pQ jZ a r
theorem OO (a:Nat) (l:Bs):jZ a l=vH (a+eC false l) (l.drop (eC false l)):=by
 show pR (l.length+1) a l=_;unfold pR vH;refine OM _ _ λb l' hl'=> ?_;rw[bL]at hl';exact D4 _ _ _ _ om om
theorem C9 {a:Nat} {r:Bs} {k:Nat} {t:Bs} {n:Nat} (hr:r≠[]) (h:iA r= .ok k t n):vH a r=⟨k,a,t,0⟩::jZ (a+n) (r.drop n):=by
 cases r with
 |nil=>exact absurd rfl hr
 |cons c r=>simp only[vH,pQ,h]
theorem D0 {a:Nat} {r:Bs} {n:Nat} (hr:r≠[]) (h:iA r= .bad n):vH a r=[⟨0,a+n,[],2⟩]:=by
 cases r with
 |nil=>exact absurd rfl hr
 |cons c r=>simp only[vH,pQ,h]
def sZ:List LE->SR
 |[]=> .ok []
 |x::r=>if x.err=0 then(sZ r).cons ⟨x.kind,x.at_,x.text⟩else .bad x.at_
theorem w9 (f a:Nat) (l:Bs):pU f a l=sZ (pR f a l):=by
 induction f generalizing a l with
 |zero=>rfl
 |succ f ih=>
  rw[pU,pR];generalize l.drop (eC false l)=r;cases r with
  |nil=>rfl
  |cons c r=>
   simp only[pQ];cases hp:iA (c::r)with
   |ok k t n=>simp[sZ,ih]
   |bad n=>simp[sZ]
theorem SF (a:Nat) (l:Bs):xF a l=sZ (jZ a l):=w9 _ a l
def TR.pr:TR->PR
 | .ok t n=> .ok 3 t (n+1)
 | .bad n=> .bad (n+1)
 | .op=> .bad 0
theorem Dg {c:UInt8} (r:Bs) (h:c.toNat=34):iA (c::r)=(eY r).pr:=by
 rw[iA,if_pos h];cases eY r<;>rfl
open Go.RowKit
theorem mS {a b:Bool} (h:a=b):aL (aI a)=aL (aI b):=by rw[h]
theorem sC {k:IntKind} {a b:Int} (h:a=b):aL (.int k a)=aL (.int k b):=by rw[h]
def oF (c l h:Int):Bool:=decide (l<=c)&&decide (c<=h)
theorem Il (c:UInt8):oF (bits .or .u8 c.toNat 32) 97 122=(dR c||eG c):=by
 have h: ∀n:Fin 256,oF (bits .or .u8 ((n.val:Nat):Int) 32) 97 122=(decide (65<=n.val/\n.val<=90)||decide (97<=n.val/\n.val<=122)):=by decide+kernel
 exact h ⟨c.toNat,c.toNat_lt⟩
theorem vB (c l h:Int) (w:World):Calls aE 107 #[.int .u8 c,.int .u8 l,.int .u8 h] w λe w'=>e=aL (aI (oF c l h))/\w=w':=by
 go_enter Tryz.func107,Tryz.ntmps107;go_wp2
 all_goals go_ret
 all_goals exact⟨mS (by unfold oF;simp<;>omega),rfl⟩
theorem nQ (c:UInt8) (w:World):Calls aE 128 #[.int .u8 c.toNat] w λe w'=>e=aL (aI (bB c))/\w=w':=by
 go_enter Tryz.func128,Tryz.ntmps128;go_wp2_with(go_at_call 107;refine(vB _ _ _ _).mono ?_;rintro e w' ⟨rfl,rfl⟩)
 all_goals go_ret
 all_goals exact⟨mS (by rw[bK];simp[bB,oF]at*;try omega),rfl⟩
theorem MJ (c:UInt8) (w:World):Calls aE 124 #[.int .u8 c.toNat] w λe w'=>e=aL (aI (dR c||eG c))/\w=w':=by
 go_enter Tryz.func124,Tryz.ntmps124;go_wp2_with(go_at_call 107;refine(vB _ _ _ _).mono ?_;rintro e w' ⟨rfl,rfl⟩)
 all_goals go_ret
 all_goals exact⟨mS (Il c),rfl⟩
theorem qD (c:UInt8) (w:World):Calls aE 109 #[.int .u8 c.toNat] w λe w'=>e=aL (aI (aQ c))/\w=w':=by
 go_enter Tryz.func109,Tryz.ntmps109;go_wp2_with(go_at_call 107;refine(vB _ _ _ _).mono ?_;rintro e w' ⟨rfl,rfl⟩)
 all_goals go_ret
 all_goals exact⟨mS (by rw[bK];simp[aQ,oF]at*;try omega),rfl⟩
theorem G8 (c:UInt8) (w:World):Calls aE 108 #[.int .u8 c.toNat] w λe w'=>e=aL (aI (!iW c))/\w=w':=by
 go_enter Tryz.func108,Tryz.ntmps108;go_wp2_with(first|(go_at_call 107;refine(vB _ _ _ _).mono ?_;rintro e w' ⟨rfl,rfl⟩)|(go_at_call 109;refine(qD _ _).mono ?_;rintro e w' ⟨rfl,rfl⟩))
 all_goals go_ret
 all_goals exact⟨mS (by rw[bK];simp[iW,aQ,eG,oF]at*;try omega),rfl⟩
theorem xC (c:UInt8) (w:World):Calls aE 150 #[.int .u8 c.toNat] w λe w'=>e=aL (aI (eG c))/\w=w':=by
 go_enter Tryz.func150,Tryz.ntmps150;go_wp2_with(go_at_call 124;refine(MJ _ _).mono ?_;rintro e w' ⟨rfl,rfl⟩)
 all_goals go_ret
 all_goals exact⟨mS (by rw[bK];simp[dR,eG]at*;try omega),rfl⟩
theorem BM (c:UInt8) (w:World):Calls aE 112 #[.int .u8 c.toNat] w λe w'=>e=aL (aI (iO c))/\w=w':=by
 go_enter Tryz.func112,Tryz.ntmps112;go_wp2
 all_goals go_ret
 all_goals exact⟨mS (by rw[bK];simp[iO]at*;try omega),rfl⟩
theorem Kv (c:UInt8) (w:World):Calls aE 152 #[.int .u8 c.toNat] w λe w'=>e=aL (aI (iW c))/\w=w':=by
 go_enter Tryz.func152,Tryz.ntmps152;go_wp2_with(first|(go_at_call 150;refine(xC _ _).mono ?_;rintro e w' ⟨rfl,rfl⟩)|(go_at_call 109;refine(qD _ _).mono ?_;rintro e w' ⟨rfl,rfl⟩))
 all_goals go_ret
 all_goals exact⟨mS (by rw[bK];simp[iW,aQ,eG]at*;try omega),rfl⟩
def tw (p:UInt8->Bool) (l:Bs):Nat:=(l.takeWhile p).length
theorem vL (p:UInt8->Bool) (l:Bs):tw p l<=l.length:=JT p l
theorem oB (s:ByteArray) (k:Nat) (h:k<s.size):s.data.toList.drop k=s[k]::s.data.toList.drop (k+1):=by
 rw[iK (by simpa using h)];rfl
theorem uW (s:ByteArray) (k:Nat) (h:s.size<=k):s.data.toList.drop k=[]:=by
 rw[List.drop_eq_nil_iff];simpa using h
theorem cU (s:ByteArray):s.data.toList.length=s.size:=by rw[Array.length_toList];rfl
structure pB (g:Nat) (p:UInt8->Bool):Prop where
 enters: ∀args w,(callFunc g args).run aE w= .ok (.enter g args) w
 calls: ∀(c:UInt8) (w:World),Calls aE g #[.int .u8 c.toNat] w λe w'=>e=aL (aI (p c))/\w=w'
theorem SZ (s:ByteArray) (g:Nat) (p:UInt8->Bool) (w:World) (hp:pB g p) (hs:1<=s.size) (hm:s.size<=9223372036854775807):
  Calls aE 151 #[aD s,.func (.func g) #[] #[]] w λe w'=>e=aL (aB aC (1+tw p (s.data.toList.drop 1):Nat))/\w=w':=by
 obtain⟨eg,hp⟩:=hp;have hp:=aA hp;go_enter Tryz.func151,Tryz.ntmps151;go_wp2_with fail
 go_loop [5] (λi=> ∃k:Nat,k<=s.size/\i=aB aC k/\Hid (k+tw p (s.data.toList.drop k)=1+tw p (s.data.toList.drop 1))) (λi=>s.size-(intOf i).toNat)
 case atStart=>exact⟨1,hs,rfl,rfl⟩
 case round=>
  obtain⟨k,hk,rfl,HK⟩:=hrel;by_cases hlt:k<s.size
  .have HD:=aA (oB s k hlt);cases hpc:p s[k]
   .go_wp2_with((with_reducible refine(hp.out s[k] _).mono ?_);rintro e w' ⟨rfl,rfl⟩)
    go_ret;have:=HK.out;rw[HD.out,tw,List.takeWhile_cons,hpc]at this;exact⟨sC (by simp only[gW,if_false,List.length_nil,Nat.add_zero]at this;omega),rfl⟩
   .go_wp2_with((with_reducible refine(hp.out s[k] _).mono ?_);rintro e w' ⟨rfl,rfl⟩)
    go_round
    case rel=>
     refine⟨k+1,by omega,by go_num, ?_⟩;have:=HK.out;rw[HD.out,tw,List.takeWhile_cons,hpc]at this;show _=_;rw[<-this];simp[tw];omega
    case measure=>simp[intOf];omega
  .have HE:=aA (uW s k om);go_wp2
   go_ret;have:=HK.out;rw[HE.out]at this;exact⟨sC (by simp[tw]at*;omega),rfl⟩
open Go.RowKit Go.Shelf
def sH (p:UInt8->Bool) (l:Bs):Int:=if tw (λc=> !p c) l<l.length then(tw (λc=> !p c) l:Nat)else-1
theorem AS {p:UInt8->Bool} {c:UInt8} (r:Bs) (h:p c=true):tw p (c::r)=tw p r+1:=by simp[tw,h]
theorem AT {p:UInt8->Bool} {c:UInt8} (r:Bs) (h:p c=false):tw p (c::r)=0:=by simp[tw,h]
theorem K9 (p:UInt8->Bool) (l:Bs):l.any p=decide (tw (λc=> !p c) l<l.length):=by
 induction l with
 |nil=>simp[tw]
 |cons c r ih=>
  cases h:p c
  .rw[List.any_cons,h,ih,AS r (by simp[h])];simp
  .rw[AT r (by simp[h])];simp[h]
theorem Kh (p:UInt8->Bool) (l:Bs):decide (0<=sH p l)=l.any p:=by
 rw[K9];unfold sH;split<;>rename_i h<;>simp[h]
theorem Rd.byte {w:World} {A:Option Addr} {n c:Nat} {l:Bs} (h:Rd w (aF A n c) l.length 1 (l.map bv)) (k:Nat) (hk:k<l.length):n=l.length/\ ∃b off,A=some ⟨b,off,none⟩/\b<w.heap.size/\w.cell? ⟨b,off+k,none⟩=some (.int .u8 (l[k].toNat:Int)):=by
 obtain⟨_,_,A',c',e,h4⟩:=h;cases e;obtain⟨b,off,rfl,hb,hc⟩:=h4 om;exact⟨rfl,b,off,rfl,hb,hc k (bv l[k]) (by simp[hk])⟩
theorem MT (v:Value) (l:Bs) (g:Nat) (p:UInt8->Bool) (w:World) (h:Rd w v l.length 1 (l.map bv)) (hp:pB g p):
  Calls aE 158 #[v,.func (.func g) #[] #[]] w λe w'=>e=aL (aB aC (sH p l))/\w=w':=by
 obtain⟨eg,hp⟩:=hp;have hp:=aA hp;have HR:=aA h;obtain⟨_,hm,A,c,rfl,_⟩:=h;go_enter Tryz.func158,Tryz.ntmps158;go_wp2_with fail
 go_loop [8] (λi=> ∃k:Nat,k<=l.length/\i=aB aC k/\Hid (tw (λc=> !p c) l=k+tw (λc=> !p c) (l.drop k))) (λi=>l.length-(intOf i).toNat)
 case atStart=>exact⟨0,by omega,rfl,by show _=_;simp⟩
 case round=>
  obtain⟨k,hk,rfl,HK⟩:=hrel;by_cases hlt:k<l.length
  .obtain⟨_,b,off,rfl,hb,hc⟩:=HR.out.byte k hlt;have HD:Hid (l.drop k=l[k]::l.drop (k+1)):=iK hlt;cases hpc:p l[k]
   .have HT:Hid (tw (λc=> !p c) l=k+1+tw (λc=> !p c) (l.drop (k+1))):=by
     show _=_;rw[HK.out,HD.out,AS _ (by simp[hpc])];omega
    go_wp2_with((with_reducible refine(hp.out l[k] _).mono ?_);rintro e w' ⟨rfl,rfl⟩;rw[hpc])
    go_round
    case rel=>exact⟨k+1,by omega,by go_num,HT⟩
    case measure=>simp[intOf];omega
   .have HT:Hid (sH p l=k):=by
     show _=_;have:=HK.out;rw[HD.out,AT _ (by simp[hpc])]at this;unfold sH;rw[if_pos om,this];simp
    go_wp2_with((with_reducible refine(hp.out l[k] _).mono ?_);rintro e w' ⟨rfl,rfl⟩;rw[hpc])
    go_ret;exact⟨sC HT.out.symm,rfl⟩
  .have HT:Hid (sH p l= -1):=by
    show _=_;have:=HK.out;rw[List.drop_eq_nil_of_le om]at this;unfold sH;rw[if_neg];rw[this];simp[tw];omega
   go_wp2
   go_ret;exact⟨sC HT.out.symm,rfl⟩
theorem YV (v:Value) (l:Bs) (g:Nat) (p:UInt8->Bool) (w:World) (h:Rd w v l.length 1 (l.map bv)) (hp:pB g p):
  Calls aE 110 #[v,.func (.func g) #[] #[]] w λe w'=>e=aL (aI (l.any p))/\w=w':=by
 have HI:=aA (MT v l g p w h hp);clear h hp;go_enter Tryz.func110,Tryz.ntmps110;go_wp2_with(go_at_call 158;refine HI.out.mono ?_;rintro e w' ⟨rfl,rfl⟩)
 go_ret;exact⟨mS (Kh p l),rfl⟩
theorem G7:pB 108 (λc=> !iW c):=⟨enters_of Tryz.func108 kr rfl,G8⟩
theorem PN (l:Bs):bW l=(decide (0<l.length)&&decide (l.length<=64)&&eG (l.headD 0)&& !l.any (λc=> !iW c)):=by
 cases l with
 |nil=>rfl
 |cons c r=>
  have h:eG c=true->iW c=true:=by intro h;simp[iW,h]
  simp only[bW,List.headD_cons,List.any_cons,List.length_cons];cases hl:eG c
  .simp
  .simp only[h hl];have e:r.all iW= !r.any (λc=> !iW c):=by rw[List.any_eq_not_all_not];simp
   rw[e,show decide (r.length<64)=decide (r.length+1<=64) by rw[decide_eq_decide];omega];simp
theorem ZG (c:UInt8):oF c.toNat 97 122=eG c:=by unfold oF eG;rw[bK];simp;omega
@[go_sem] theorem Wu (s:ByteArray) (w:World):(convert 9 130 (aD s)).run aE w= .ok (aF (some ⟨w.heap.size,0,none⟩) s.size (grownCap w s.size 0 5)) (w.grow (kZ w 5 s)):=
 AC w _ _ _ s Tryz.underlying9 pE Tryz.underlying5
theorem Kp (s:ByteArray) (h:0<s.size):s.data.toList.headD 0=s[0]:=by
 have:=oB s 0 h;rw[List.drop_zero]at this;rw[this];rfl
theorem Nm (s:ByteArray) (h:0<s.size):s.toList.isEmpty=false:=by
 have h2:=cU s;rw[_root_.Go.Lib.toList_data];cases h3:s.data.toList with
 |nil=>rw[h3]at h2;simp at h2;omega
 |cons a b=>rfl
theorem Nl (s:ByteArray) (h: ¬0<s.size):s.toList.isEmpty=true:=by
 have h2:=cU s;rw[_root_.Go.Lib.toList_data];cases h3:s.data.toList with
 |nil=>rfl
 |cons a b=>rw[h3]at h2;simp at h2;omega
theorem PM (s:ByteArray) (w:World) (hm:s.size<=9223372036854775807):Calls aE 55 #[aD s] w (aH (aI (bW s.data.toList)) w):=by
 have HW:=aA (PN s.data.toList);by_cases h0:0<s.size
 .have hne:=Nm s h0;by_cases h64:s.size<=64
  .have b64:decide ((64:Int)<s.size)=false:=by simp;omega
   have HL:Hid (bW s.data.toList=(eG s[0]&& !s.data.toList.any (λc=> !iW c))):=by
    show _=_;rw[HW.out,Kp s h0,cU,decide_eq_true h0,decide_eq_true h64];simp
   cases hl:eG s[0]
   .have HF:Hid (bW s.data.toList=false):=by show _=_;rw[HL.out,hl];rfl
    clear HW HL h64;go_enter Tryz.func55,zp;go_wp2_with(go_at_call 107;refine(vB _ _ _ _).mono ?_;rintro e w' ⟨rfl,rfl⟩;rw[ZG,hl])
    go_ret;exact aH.of (by rw[HF.out];rfl) aG
   .cases ha:s.data.toList.any (λc=> !iW c);all_goals
     have HF:Hid (bW s.data.toList= !s.data.toList.any (λc=> !iW c)):=by show _=_;rw[HL.out,hl];rfl
     rw[ha]at HF;have HA:=aA ha;clear HW HL h64 ha;have HB:=aA (λW=>cU s ▸ NT W 5 s (grownCap W s.size 0 5) hm);go_enter Tryz.func55,zp;go_wp2_with(first|(go_at_call 107;refine(vB _ _ _ _).mono ?_;rintro e w' ⟨rfl,rfl⟩;rw[ZG,hl])|(go_at_call 110;refine(YV _ _ _ _ _ (HB.out _) G7).mono ?_;rintro e w' ⟨rfl,rfl⟩;rw[HA.out]))
     go_ret;exact aH.of (by rw[HF.out];rfl) aG
  .have b64:decide ((64:Int)<s.size)=true:=by simp;omega
   have HF:Hid (bW s.data.toList=false):=by show _=_;rw[HW.out,cU,decide_eq_false h64];simp
   clear HW h64;go_enter Tryz.func55,zp;go_wp2
   go_ret;exact aH.of (by rw[HF.out];rfl) aG
 .have hne:=Nl s h0;have HF:Hid (bW s.data.toList=false):=by show _=_;rw[HW.out,cU,decide_eq_false h0];simp
  clear HW h0;go_enter Tryz.func55,zp;go_wp2
  go_ret;exact aH.of (by rw[HF.out];rfl) aG
theorem Qy (l:Bs):(eE l 10= -1->eC true l=l.length)/\(∀j:Nat,eE l 10=j->eC true l=j+eC false (l.drop j)/\j<l.length):=by
 induction l with
 |nil=>exact⟨λ_=>rfl,λj h=>by simp[eE]at h⟩
 |cons c r ih=>
  by_cases hc:c=10
  .subst hc;refine⟨λh=>by simp[eE]at h,λj h=> ?_⟩;obtain rfl:j=0:=by simp[eE]at h;omega
   exact⟨by simp[eC,bB],by simp⟩
  .have hb:(c==10)=false:=by simpa using hc
   have hn: ¬c.toNat=10:=λh=>hc (UInt8.toNat_inj.1 h);have hge:=Lib.indexByte_ge r 10;by_cases hm:eE r 10= -1
   .refine⟨λ_=>by simp[eC,hn,ih.1 hm],λj h=> ?_⟩;simp[eE,hb,hm]at h
   .obtain⟨i,hi⟩: ∃i:Nat,eE r 10=i:=⟨(eE r 10).toNat,by omega⟩;obtain⟨h1,h2⟩:=ih.2 i hi;have e:eE (c::r) 10=((i+1:Nat):Int):=by
     simp only[eE,hb];rw[if_neg (by simp),if_neg (by simpa using hm),hi];rfl
    refine⟨λh=>by rw[e]at h;omega,λj h=> ?_⟩;obtain rfl:j=i+1:=by rw[e]at h;omega
    refine⟨?_,by simp;omega⟩;simp only[eC,if_neg hn,h1,List.drop_succ_cons];omega
theorem Qx {l:Bs} {c:UInt8} {r:Bs} (h:l=c::r) (hs:c.toNat=35):eC false l=eC true l:=by
 subst h;simp[eC,hs,bB]
theorem Kb {l:Bs} {c:UInt8} {r:Bs} (h:l=c::r) (hs:c.toNat=35):eE l 10≠0:=by
 subst h;have hb:(c==10)=false:=by
  rw[beq_eq_false_iff_ne];intro h;subst h;simp at hs
 have:=Lib.indexByte_ge r 10;simp only[eE,hb,gW,if_false];split
 .decide
 .rename_i h;have:eE r 10≠ -1:=by simpa using h
  omega
theorem NJ (s:ByteArray) (k:Nat):(s.extract k s.size).data.toList=s.data.toList.drop k:=by
 rw[ByteArray.data_extract,Array.toList_extract,Xl,List.take_of_length_le];rw[bL,cU];exact Nat.le_refl _
theorem Kf (s:ByteArray) (k:Nat) (w:World):Calls aE 148 #[aD (s.extract k s.size),.int .u8 10] w λe w'=>e=aL (aB aC (eE (s.data.toList.drop k) 10))/\w=w':=by
 refine(Tryz.strings_IndexByte (s.extract k s.size) 10 w).mono ?_;rintro e w' ⟨rfl,rfl⟩;rw[NJ];exact⟨rfl,rfl⟩
theorem ZJ (s:ByteArray) (w:World) (hm:s.size<=9223372036854775807):
  Calls aE 88 #[aD s] w λe w'=>e=aL (aB aC (eC false s.data.toList:Nat))/\w=w':=by
 go_enter Tryz.func88,Tryz.ntmps88;go_wp2_with fail
 go_loop [3] (λi=> ∃k:Nat,k<=s.size/\i=aB aC k/\Hid (k+eC false (s.data.toList.drop k)=eC false s.data.toList)) (λi=>s.size-(intOf i).toNat)
 case atStart=>exact⟨0,Nat.zero_le _,rfl,by show _=_;simp⟩
 case round=>
  obtain⟨k,hk,rfl,HK⟩:=hrel;by_cases hlt:k<s.size
  .have HD:=aA (oB s k hlt);cases hsp:bB s[k]
   .by_cases h35:s[k].toNat=35
    .have hq:((s[k].toNat:Int)==35)=true:=by simp;omega
     have HI:=aA (Kf s k);have HB:=aA (Qy (s.data.toList.drop k));have HS:=aA (Qx HD.out h35);have hge:=Lib.indexByte_ge (s.data.toList.drop k) 10;have hne:=Kb HD.out h35;generalize hj:eE (s.data.toList.drop k) 10=j at*;clear hj h35;by_cases hm1:j= -1
     .have HB1:Hid (s.size=eC false s.data.toList):=by
       have h1:=HK.out;rw[HS.out,HB.out.1 hm1,bL,cU]at h1;show _=_;omega
      subst hm1;clear hge HB hne;go_wp2_with(first|(go_at_call 128;(with_reducible refine zQ (nQ s[k] _) ?_);rw[hsp])|(go_at_call 148;(with_reducible refine zQ (HI.out _) ?_)))
      go_ret;exact⟨sC (by rw[<-HB1.out]),rfl⟩
     .obtain⟨i,rfl⟩: ∃i:Nat,j=i:=⟨j.toNat,by omega⟩;have HB2:=aA (HB.out.2 i rfl);have hi:k+i<s.size:=by have:=HB2.out.2;rw[bL,cU]at this;omega
      clear hge hm1 HB;have hge: ¬((i:Int)<0):=by omega
      have hne:0<i:=by omega
      go_wp2_with(first|(go_at_call 128;(with_reducible refine zQ (nQ s[k] _) ?_);rw[hsp])|(go_at_call 148;(with_reducible refine zQ (HI.out _) ?_)))
      go_round
      case rel=>
       refine⟨k+i,by omega,by go_num, ?_⟩;have h1:=HK.out;rw[HS.out,HB2.out.1,List.drop_drop]at h1;show _=_;omega
      case measure=>
       simp[intOf];omega
    .have hq:((s[k].toNat:Int)==35)=false:=by simp;omega
     have HN:Hid (¬s[k].toNat=35):=h35;clear h35;go_wp2_with(first|(go_at_call 128;(with_reducible refine zQ (nQ s[k] _) ?_);rw[hsp]))
     go_ret;have h1:=HK.out;rw[HD.out,eC,if_neg (by rw[hsp];simp),if_neg HN.out]at h1;exact⟨sC om,rfl⟩
   .go_wp2_with(first|(go_at_call 128;(with_reducible refine zQ (nQ s[k] _) ?_);rw[hsp]))
    go_round
    case rel=>
     refine⟨k+1,by omega,by go_num, ?_⟩;have h1:=HK.out;rw[HD.out,eC,if_pos hsp]at h1;show _=_;omega
    case measure=>simp[intOf];omega
  .have HE:=aA (uW s k om);go_wp2
   go_ret;have h1:=HK.out;rw[HE.out,eC]at h1;exact⟨sC om,rfl⟩
theorem AD:jX aE 130 5 (.int .u8 0) 1 1:=⟨by kernel_rfl,by kernel_rfl,by kernel_rfl,by decide⟩
def qU:TR->Value
 | .ok t n=> aN #[aD ⟨t.toArray⟩,aB aC n,aB aC 0]
 | .bad n=> aN #[aD ⟨#[]⟩,aB aC n,aB aC 2]
 | .op=> aN #[aD ⟨#[]⟩,aB aC 0,aB aC 2]
theorem Eg (w:World):w.ownsRow w.heap.size 5 1 (aF none 0 0) ([]:Bs).length (([]:Bs).map bv):=World.ownsRow_nil _ _ _ _
theorem P0 (s:ByteArray) (w:World) (h1:1<=s.size) (hm:s.size<=140737488355328):
  Calls aE 149 #[aD s] w (aH (qU ((eY (s.data.toList.drop 1)).app [] 1)) w):=by
 obtain⟨R,hR⟩: ∃R,(eY (s.data.toList.drop 1)).app [] 1=R:=⟨_,rfl⟩;rw[hR];have HR:=aA hR;clear hR;go_enter Tryz.func149,Tryz.ntmps149;go_wp2_with fail
 go_loopw [5,6] (λv i wr=> ∃(k:Nat) (out:Bs) (X:Gr),k<=s.size/\out.length<=k/\i=aB aC k/\wr=w.grow X/\(w.grow X).ownsRow w.heap.size 5 1 v out.length (out.map bv)/\Hid ((eY (s.data.toList.drop k)).app out k=R)) (λ_ i _=>s.size-(intOf i).toNat)
 case atStart=>exact⟨1,[],_,h1,by simp,rfl,(kW w).symm,by rw[kW];exact Eg w,HR⟩
 case round=>
  obtain⟨k,out,X,hk,hout,rfl,rfl,hown,HK⟩:=hrel;by_cases hlt:k<s.size
  .have HD:=aA (oB s k hlt);by_cases c34:s[k].toNat=34
   .have b34:((s[k].toNat:Int)==34)=true:=by simp;omega
    have HV:Hid (qU R=aN #[aD ⟨out.toArray⟩,aB aC (k+1:Nat),aB aC 0]):=by
     show _=_;rw[<-HK.out,HD.out,DT _ c34];simp[TR.app,qU];omega
    clear c34;have hcv:=(Rd.own hown).str 130 9 5 pE Tryz.underlying5 Tryz.underlying9;go_wp2
    go_ret3
    exact aH.of (by rw[HV.out];rfl) aG
   .have b34:((s[k].toNat:Int)==34)=false:=by simp;omega
    by_cases c92:s[k].toNat=92
    .have b92:((s[k].toNat:Int)==92)=true:=by simp;omega
     by_cases hk1:k+1<s.size
     .have HD1:=aA (oB s (k+1) hk1);by_cases hd:s[k+1].toNat=92\/s[k+1].toNat=34
      .have HV:Hid ((eY (s.data.toList.drop (k+2))).app (out++[s[k+1]]) (k+2)=R):=by
        have:=HK.out;rw[HD.out,HD1.out,DY _ c92 hd,TR.app_app]at this;exact this
       have HL:Hid ((out++[s[k+1]]).map bv=out.map bv++[.int .u8 (s[k+1].toNat:Int)]):=by show _=_;simp[bv]
       have HL2:Hid ((out++[s[k+1]]).length=out.length+1):=by show _=_;simp
       have hd2:((s[k+1].toNat:Int)==92)=true\/((s[k+1].toNat:Int)==92)=false/\((s[k+1].toNat:Int)==34)=true:=by
        by_cases h:s[k+1].toNat=92
        .exact Or.inl (by simp;omega)
        .exact Or.inr ⟨by simp;omega,by simp;omega⟩
       have hi:(0:Int)<=(k:Int)+1:=by omega
       have hi2:((k:Int)+1).toNat=k+1:=by omega
       clear c34 c92 hd;rcases hd2 with b1|⟨b1,b2⟩
       all_goals
        go_wp2_with(at_builtin;refine rK rfl _ _ 130 rfl AD w rfl (hown.alloc _) aG ⟨_,0,none⟩ 1 1 [.int .u8 (s[k+1].toNat:Int)] rfl rfl (eR (c:= #[.int .u8 (s[k+1].toNat:Int)]) (by simp[go_sem])) (by simp[Value.oneCell']) (by unfold maxLen;omega) om ?_;intro v' Z' hown' _)
        go_roundw
        case rel=>exact⟨k+2,out++[s[k+1]],Z',by omega,by rw[HL2.out];omega,by go_num,rfl,by rw[HL.out,HL2.out];exact hown',HV⟩
        case measure=>simp[intOf];omega
      .have HV:Hid (qU R=aN #[aD ⟨#[]⟩,aB aC k,aB aC 2]):=by
        show _=_;rw[<-HK.out,HD.out,HD1.out,DX _ c92 hd];simp[TR.app,qU]
       have b1:((s[k+1].toNat:Int)==92)=false:=by simp;omega
       have b2:((s[k+1].toNat:Int)==34)=false:=by simp;omega
       have hi:(0:Int)<=(k:Int)+1:=by omega
       have hi2:((k:Int)+1).toNat=k+1:=by omega
       clear c34 c92 hd;go_wp2
       go_ret3
       exact aH.of (by rw[HV.out];rfl) aG
     .have HE:=aA (uW s (k+1) om);have HV:Hid (qU R=aN #[aD ⟨#[]⟩,aB aC k,aB aC 2]):=by
       show _=_;rw[<-HK.out,HD.out,HE.out,DW c92];simp[TR.app,qU]
      clear c34 c92;go_wp2
      go_ret3
      exact aH.of (by rw[HV.out];rfl) aG
    .have b92:((s[k].toNat:Int)==92)=false:=by simp;omega
     cases ho:iO s[k]
     .have HV:Hid ((eY (s.data.toList.drop (k+1))).app (out++[s[k]]) (k+1)=R):=by
       have:=HK.out;rw[HD.out,DU _ c34 c92 (by rw[ho];simp),TR.app_app]at this;exact this
      have HL:Hid ((out++[s[k]]).map bv=out.map bv++[.int .u8 (s[k].toNat:Int)]):=by show _=_;simp[bv]
      have HL2:Hid ((out++[s[k]]).length=out.length+1):=by show _=_;simp
      clear c34 c92;go_wp2_with(first|(go_at_call 112;(with_reducible refine zQ (BM s[k] _) ?_);rw[ho])|(at_builtin;refine rK rfl _ _ 130 rfl AD w rfl (hown.alloc _) aG ⟨_,0,none⟩ 1 1 [.int .u8 (s[k].toNat:Int)] rfl rfl (eR (c:= #[.int .u8 (s[k].toNat:Int)]) (by simp[go_sem])) (by simp[Value.oneCell']) (by unfold maxLen;omega) om ?_;intro v' Z' hown' _))
      go_roundw
      case rel=>exact⟨k+1,out++[s[k]],Z',by omega,by rw[HL2.out];omega,by go_num,rfl,by rw[HL.out,HL2.out];exact hown',HV⟩
      case measure=>simp[intOf];omega
     .have HV:Hid (qU R=aN #[aD ⟨#[]⟩,aB aC k,aB aC 2]):=by
       show _=_;rw[<-HK.out,HD.out,DV _ c34 c92 ho];simp[TR.app,qU]
      clear c34 c92;go_wp2_with(go_at_call 112;(with_reducible refine zQ (BM s[k] _) ?_);rw[ho])
      go_ret3
      exact aH.of (by rw[HV.out];rfl) aG
  .have HE:=aA (uW s k om);have HV:Hid (qU R=aN #[aD ⟨#[]⟩,aB aC 0,aB aC 2]):=by
    show _=_;rw[<-HK.out,HE.out,eY];simp[TR.app,qU]
   go_wp2
   go_ret3
   exact aH.of (by rw[HV.out];rfl) aG
theorem Ke (c:UInt8):decide (0<=eE [58,59,42] c)=BV c:=by
 have h: ∀n:Fin 256,decide (0<=eE [58,59,42] (UInt8.ofNat n.val))=decide (n.val=58\/n.val=59\/n.val=42):=by decide+kernel
 have:=h ⟨c.toNat,c.toNat_lt⟩;simpa[BV]using this
theorem Ka (c:UInt8) (w:World):Calls aE 148 #[aD ⟨#[58,59,42]⟩,.int .u8 c.toNat] w λe w'=>e=aL (aB aC (eE [58,59,42] c))/\w=w':=by
 refine(Tryz.strings_IndexByte _ _ w).mono ?_;rintro e w' ⟨rfl,rfl⟩;simp
theorem JZ (s:ByteArray) (n:Nat):s.extract 0 n=⟨(s.data.toList.take n).toArray⟩:=by
 apply ByteArray.ext;rw[ByteArray.data_extract];apply Array.toList_inj.1;rw[Array.toList_extract,Xl];simp
theorem Ks:pB 152 iW:=⟨enters_of Tryz.func152 kr rfl,Kv⟩
theorem NP:pB 109 aQ:=⟨enters_of Tryz.func109 kr rfl,qD⟩
def nV (q:Bool):PR->Value
 | .ok k t n=> aN #[Value.agg #[aB aC k,aB aC 0,aD ⟨t.toArray⟩],aB aC n,aB aC 0]
 | .bad n=> aN #[Value.agg #[aB aC (if q then 3 else 0),aB aC 0,aD ⟨#[]⟩],aB aC n,aB aC 2]
def uE (l:Bs):Value:=nV (decide ((l.headD 0).toNat=34)) (iA l)
theorem EM {l:Bs} {c:UInt8} {r:Bs} (h:l=c::r):uE l=nV (decide (c.toNat=34)) (iA (c::r)):=by subst h;rfl
theorem QU (p:UInt8->Bool) (r:Bs):r.take (tw p r)=r.takeWhile p:=by
 induction r with
 |nil=>rfl
 |cons c r ih=>
  cases h:p c
  .rw[AT r h];simp[h]
  .rw[AS r h];simp[h,ih]
theorem Df (s:ByteArray) (w:World) (h1:1<=s.size) (hm:s.size<=140737488355328):
  Calls aE 89 #[aD s] w (aH (uE s.data.toList) w):=by
 have HS:Hid (s.data.toList=s[0]::s.data.toList.drop 1):=by have:=oB s 0 h1;rw[List.drop_zero]at this;exact this
 have HT:=aA (λW=>P0 s W h1 hm);have HI:=aA (Ke s[0]);generalize hj:eE [58,59,42] s[0]=j at*;have HJ:Hid (∀W,Calls aE 148 #[aD ⟨#[58,59,42]⟩,.int .u8 s[0].toNat] W λe w'=>e=aL (aB aC j)/\W=w'):=λW=>hj ▸ Ka s[0] W;clear hj;by_cases c34:s[0].toNat=34
 .have b34:((s[0].toNat:Int)==34)=true:=by simp;omega
  have HV:Hid (uE s.data.toList=nV true (eY (s.data.toList.drop 1)).pr):=by
   show _=_;rw[EM HS.out,Dg _ c34,decide_eq_true c34]
  generalize eY (s.data.toList.drop 1)=R at*;cases R;all_goals
   simp only[TR.app,TR.pr,qU,List.nil_append,nV,if_true]at HT HV;have HT:=aA HT;have HV:=aA HV;clear c34 HS;go_enter je,Yq;go_wp2_with(first|(go_at_call 148;(with_reducible refine zQ (HJ.out _) ?_))|(go_at_call 149;(with_reducible refine zG (HT.out.out _) λX=>?_)))
   rw[HV.out.out];refine bodyPost_ret ?_ rfl (aH.of rfl aG);simp[results,Xx,go_sem]
 .have b34:((s[0].toNat:Int)==34)=false:=by simp;omega
  cases hl:eG s[0]
  .cases hd:aQ s[0]
   .have HV:Hid (uE s.data.toList=nV false (if BV s[0]then .ok 4 [s[0]] 1 else .bad 0)):=by
     show _=_;rw[EM HS.out,iA,if_neg c34,decide_eq_false c34,if_neg (by rw[hl];simp),if_neg (by rw[hd];simp)]
    have HE:Hid (s.extract 0 1=⟨[s[0]].toArray⟩):=by
     show _=_;rw[JZ,HS.out];rfl
    cases hm:BV s[0]
    .have hj:decide (0<=j)=false:=by have:=HI.out;rw[hm]at this;exact this
     rw[hm]at HV;simp only[nV,gW,if_false]at HV;have HV:=aA HV;clear HI hm HS c34;go_enter je,Yq;go_wp2_with(first|(go_at_call 148;(with_reducible refine zQ (HJ.out _) ?_))|(go_at_call 150;(with_reducible refine zQ (xC s[0] _) ?_);rw[hl])|(go_at_call 109;(with_reducible refine zQ (qD s[0] _) ?_);rw[hd]))
     rw[HV.out.out];refine bodyPost_ret ?_ rfl (aH.of rfl aG);simp[results,Xx,go_sem]
    .have hj:decide (0<=j)=true:=by have:=HI.out;rw[hm]at this;exact this
     rw[hm]at HV;simp only[nV,if_true]at HV;have HV:=aA HV;clear HI hm HS c34;go_enter je,Yq;go_wp2_with(first|(go_at_call 148;(with_reducible refine zQ (HJ.out _) ?_))|(go_at_call 150;(with_reducible refine zQ (xC s[0] _) ?_);rw[hl])|(go_at_call 109;(with_reducible refine zQ (qD s[0] _) ?_);rw[hd]))
     rw[HV.out.out,<-HE.out];refine bodyPost_ret ?_ rfl (aH.of rfl aG);simp[results,Xx,go_sem]
   .obtain⟨n,hn⟩: ∃n,tw aQ (s.data.toList.drop 1)=n:=⟨_,rfl⟩;have hns:n<s.size:=by have:=vL aQ (s.data.toList.drop 1);rw[hn,bL,cU]at this;omega
    have HV:Hid (uE s.data.toList=nV false (if n<9 then .ok 2 (s.data.toList.take (1+n)) (1+n)else .bad 0)):=by
     show _=_;rw[EM HS.out,iA,if_neg c34,decide_eq_false c34,if_neg (by rw[hl];simp),if_pos hd];have e1:(xr aQ (s.data.toList.drop 1)).length=n:=hn;have e2:s[0]::xr aQ (s.data.toList.drop 1)=s.data.toList.take (1+n):=by
      rw[<-QU,hn,Nat.add_comm 1 n];conv=>rhs;rw[HS.out]
      rw[jg]
     rw[e1,e2]
    have HE:=aA (JZ s (1+n));have HR:Hid (∀W,Calls aE 151 #[aD s,.func (.func 109) #[] #[]] W λe w'=>e=aL (aB aC (1+n:Nat))/\W=w'):=λW=>hn ▸ SZ s _ aQ W NP h1 om;clear hn;by_cases h9:n<9
    .have b9:decide ((1:Int)+n<=9)=true:=by simp;omega
     rw[if_pos h9]at HV;simp only[nV]at HV;have HV:=aA HV;clear HI HS c34 h9;go_enter je,Yq;go_wp2_with(first|(go_at_call 148;(with_reducible refine zQ (HJ.out _) ?_))|(go_at_call 150;(with_reducible refine zQ (xC s[0] _) ?_);rw[hl])|(go_at_call 109;(with_reducible refine zQ (qD s[0] _) ?_);rw[hd])|(go_at_call 151;(with_reducible refine zQ (HR.out _) ?_)))
     rw[HV.out.out,<-HE.out];refine bodyPost_ret ?_ rfl (aH.of rfl aG);simp[results,Xx,go_sem]
    .have b9:decide ((1:Int)+n<=9)=false:=by simp;omega
     rw[if_neg h9]at HV;simp only[nV,gW,if_false]at HV;have HV:=aA HV;clear HI HS c34 h9;go_enter je,Yq;go_wp2_with(first|(go_at_call 148;(with_reducible refine zQ (HJ.out _) ?_))|(go_at_call 150;(with_reducible refine zQ (xC s[0] _) ?_);rw[hl])|(go_at_call 109;(with_reducible refine zQ (qD s[0] _) ?_);rw[hd])|(go_at_call 151;(with_reducible refine zQ (HR.out _) ?_)))
     rw[HV.out.out];refine bodyPost_ret ?_ rfl (aH.of rfl aG);simp[results,Xx,go_sem]
  .obtain⟨n,hn⟩: ∃n,tw iW (s.data.toList.drop 1)=n:=⟨_,rfl⟩;have hns:n<s.size:=by have:=vL iW (s.data.toList.drop 1);rw[hn,bL,cU]at this;omega
   have HV:Hid (uE s.data.toList=nV false (if bW (s.data.toList.take (1+n))then .ok 1 (s.data.toList.take (1+n)) (1+n)else .bad 0)):=by
    show _=_;rw[EM HS.out,iA,if_neg c34,decide_eq_false c34,if_pos hl];have e1:(xr iW (s.data.toList.drop 1)).length=n:=hn;have e2:s[0]::xr iW (s.data.toList.drop 1)=s.data.toList.take (1+n):=by
     rw[<-QU,hn,Nat.add_comm 1 n];conv=>rhs;rw[HS.out]
     rw[jg]
    rw[e1,e2]
   have HE:=aA (JZ s (1+n));have HR:Hid (∀W,Calls aE 151 #[aD s,.func (.func 152) #[] #[]] W λe w'=>e=aL (aB aC (1+n:Nat))/\W=w'):=λW=>hn ▸ SZ s _ iW W Ks h1 om;have HD:Hid ((s.extract 0 (1+n)).data.toList=s.data.toList.take (1+n)):=by show _=_;rw[HE.out]
   have HZ:Hid ((s.extract 0 (1+n)).size<=9223372036854775807):=by show _<=_;rw[ByteArray.size_extract];omega
   have HW:Hid (∀W,Calls aE 55 #[aD (s.extract 0 (1+n))] W (aH (aI (bW (s.data.toList.take (1+n)))) W)):=λW=>HD.out ▸ PM (s.extract 0 (1+n)) W HZ.out;clear hn;cases hw:bW (s.data.toList.take (1+n))
   .rw[hw]at HV HW;simp only[nV,gW,if_false]at HV;have HV:=aA HV;clear HI HS c34 hw HD HZ;go_enter je,Yq;go_wp2_with(first|(go_at_call 148;(with_reducible refine zQ (HJ.out _) ?_))|(go_at_call 150;(with_reducible refine zQ (xC s[0] _) ?_);rw[hl])|(go_at_call 151;(with_reducible refine zQ (HR.out _) ?_))|(go_at_call 55;(with_reducible refine zG (HW.out _) λX=>?_)))
    rw[HV.out.out];refine bodyPost_ret ?_ rfl (aH.of rfl aG);simp[results,Xx,go_sem]
   .rw[hw]at HV HW;simp only[nV,if_true]at HV;have HV:=aA HV;clear HI HS c34 hw HD HZ;go_enter je,Yq;go_wp2_with(first|(go_at_call 148;(with_reducible refine zQ (HJ.out _) ?_))|(go_at_call 150;(with_reducible refine zQ (xC s[0] _) ?_);rw[hl])|(go_at_call 151;(with_reducible refine zQ (HR.out _) ?_))|(go_at_call 55;(with_reducible refine zG (HW.out _) λX=>?_)))
    rw[HV.out.out,<-HE.out];refine bodyPost_ret ?_ rfl (aH.of rfl aG);simp[results,Xx,go_sem]
