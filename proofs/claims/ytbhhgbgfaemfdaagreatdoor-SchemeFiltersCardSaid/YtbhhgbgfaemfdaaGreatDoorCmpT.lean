/- The walks of what the reference says a tag has always, and of whether two lists of attributes are the same. (written by gen_rfor.py) -/
import Derived.BigRegion
import Derived.Test.YtbhhgbgfaemfdaaGreatDoorCmpS
import Derived.Test.YtbhhgbgfaemfdaaGreatDoorC3
import Derived.Test.YtbhhgbgfaemfdaaGreatDoorRG
namespace Go.Proofs.YtbhhgbgfaemfdaaGreatDoor
open Go.RowKit
attribute [local go_sem] Oper.semAt_some
theorem eq_atr (a b c d:ByteArray) (w:World):(Op.equalIn 10000 110 (.agg #[.string a,.string b]) (.agg #[.string c,.string d])).run Tryz.prog w= .ok ((a.toList==c.toList)&&(b.toList==d.toList)) w:=by
 have h2:Tryz.prog.underlying 110=some (.struct (Tryz.prog.fieldsOf 110)):=by kernel_rfl
 have h3:Tryz.prog.stoodInHeld 110=false:=by kernel_rfl
 rw[run_equalIn_agg _ _ _ _ _ h2 h3]
 simp only[Program.fieldsOf,Tryz.underlying110]
 cases h1:(a.toList==c.toList)<;>cases h4:(b.toList==d.toList)<;>simp[go_sem,Tryz.underlying9,h1,h4]
@[go_sem high] theorem neq_atr (a b c d:ByteArray) (w:World):(binOp .neq 110 (.agg #[.string a,.string b]) (.agg #[.string c,.string d])).run Tryz.prog w= .ok (.bool (!((a.toList==c.toList)&&(b.toList==d.toList)))) w:=by
 rw[run_neq_struct,eq_atr];rfl
@[go_sem] theorem guard_atr:Tryz.prog.eqGuardType Tryz.prog.depth 110=false:=by kernel_rfl
end Go.Proofs.YtbhhgbgfaemfdaaGreatDoor

