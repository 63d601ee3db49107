/- The walks of Holds: whether an attribute is an address. (written by gen_g.py) -/
import Derived.Test.YtbhhgbgfaemfdaaGreatDoorD2
import Derived.Test.YtbhhgbgfaemfdaaGreatDoorC3
namespace Go.Proofs.YtbhhgbgfaemfdaaGreatDoor
set_option maxRecDepth 100000
set_option maxHeartbeats 1600000
open Go.RowKit
attribute [local go_sem] Oper.semAt_some
def z0r:List Bs:=["href","src","action","formaction","cite","poster","background","longdesc","ping","manifest","data","usemap"].map (fun s=>s.toUTF8.data.toList)
def z0s (t:Bs):Bool:=decide (t∈z0r)
theorem zxa:z0r=[[104,114,101,102],[115,114,99],[97,99,116,105,111,110],[102,111,114,109,97,99,116,105,111,110],[99,105,116,101],[112,111,115,116,101,114],[98,97,99,107,103,114,111,117,110,100],[108,111,110,103,100,101,115,99],[112,105,110,103],[109,97,110,105,102,101,115,116],[100,97,116,97],[117,115,101,109,97,112]]:=by kernel_rfl
theorem zw9 (t:Bs) (w:World):Calls Tryz.prog 21 #[sv t] w (Ret (.bool (z0s t)) w):=by
 unfold z0s
 rw[zxa]
 unfold sv
 by_cases hm:t∈[[104,114,101,102],[115,114,99],[97,99,116,105,111,110],[102,111,114,109,97,99,116,105,111,110],[99,105,116,101],[112,111,115,116,101,114],[98,97,99,107,103,114,111,117,110,100],[108,111,110,103,100,101,115,99],[112,105,110,103],[109,97,110,105,102,101,115,116],[100,97,116,97],[117,115,101,109,97,112]]
 ·rw[decide_eq_true hm]
  simp only[List.mem_cons,List.not_mem_nil,or_false]at hm
  rcases hm with rfl|rfl|rfl|rfl|rfl|rfl|rfl|rfl|rfl|rfl|rfl|rfl
  all_goals
   go_enter Tryz.func21,Tryz.ntmps21
   go_wp2_with fail
   go_ret
   exact Ret.of rfl bel
 ·rw[decide_eq_false hm]
  simp only[List.mem_cons,List.not_mem_nil,or_false,not_or]at hm
  obtain⟨n0,n1,n2,n3,n4,n5,n6,n7,n8,n9,n10,n11⟩:=hm
  have m0:((⟨t.toArray⟩:ByteArray).toList==[104,114,101,102])=false:=by rw[zbj];exact decide_eq_false n0
  have m1:((⟨t.toArray⟩:ByteArray).toList==[115,114,99])=false:=by rw[zbj];exact decide_eq_false n1
  have m2:((⟨t.toArray⟩:ByteArray).toList==[97,99,116,105,111,110])=false:=by rw[zbj];exact decide_eq_false n2
  have m3:((⟨t.toArray⟩:ByteArray).toList==[102,111,114,109,97,99,116,105,111,110])=false:=by rw[zbj];exact decide_eq_false n3
  have m4:((⟨t.toArray⟩:ByteArray).toList==[99,105,116,101])=false:=by rw[zbj];exact decide_eq_false n4
  have m5:((⟨t.toArray⟩:ByteArray).toList==[112,111,115,116,101,114])=false:=by rw[zbj];exact decide_eq_false n5
  have m6:((⟨t.toArray⟩:ByteArray).toList==[98,97,99,107,103,114,111,117,110,100])=false:=by rw[zbj];exact decide_eq_false n6
  have m7:((⟨t.toArray⟩:ByteArray).toList==[108,111,110,103,100,101,115,99])=false:=by rw[zbj];exact decide_eq_false n7
  have m8:((⟨t.toArray⟩:ByteArray).toList==[112,105,110,103])=false:=by rw[zbj];exact decide_eq_false n8
  have m9:((⟨t.toArray⟩:ByteArray).toList==[109,97,110,105,102,101,115,116])=false:=by rw[zbj];exact decide_eq_false n9
  have m10:((⟨t.toArray⟩:ByteArray).toList==[100,97,116,97])=false:=by rw[zbj];exact decide_eq_false n10
  have m11:((⟨t.toArray⟩:ByteArray).toList==[117,115,101,109,97,112])=false:=by rw[zbj];exact decide_eq_false n11
  clear n0 n1 n2 n3 n4 n5 n6 n7 n8 n9 n10 n11
  generalize(⟨t.toArray⟩:ByteArray)=x at*
  go_enter Tryz.func21,Tryz.ntmps21
  go_wp2_with fail
  go_ret
  exact Ret.of rfl bel
end Go.Proofs.YtbhhgbgfaemfdaaGreatDoor

