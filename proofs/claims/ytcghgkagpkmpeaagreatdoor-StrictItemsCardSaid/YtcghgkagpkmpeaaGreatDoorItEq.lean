/- Two items that are the same, compared as the document's. -/
import Derived.Test.YtcghgkagpkmpeaaGreatDoorJItW
set_option linter.unusedVariables false
set_option linter.unusedSimpArgs false
namespace Go.Proofs.YtcghgkagpkmpeaaGreatDoor.Loc
open Go.RowKit Utf All Small Strs Build EncC Pat Cls Dec Go.Proofs.YtcghgkagpkmpeaaGreatDoor.Sys
theorem infoRi:(Tryz.prog.info? 76).map (·.size)=some 3:=by kernel_rfl
theorem riStruct:Tryz.prog.underlying 76=some (.struct (Tryz.prog.fieldsOf 76)):=by kernel_rfl
theorem riHeld:Tryz.prog.stoodInHeld 76=false:=by kernel_rfl
theorem riGuard:Tryz.prog.eqGuardType Tryz.prog.depth 76=false:=by kernel_rfl
theorem neq_it (x:It) (w:World):(binOp .neq 76 (.agg #[.int .i64 x.1,.string ⟨x.2.1.toArray⟩,.int .i64 x.2.2]) (.agg #[.int .i64 x.1,.string ⟨x.2.1.toArray⟩,.int .i64 x.2.2])).run Tryz.prog w=.ok (.bool false) w:=by
 have u3:=Tryz.underlying3
 have a3:=Tryz.isAgg3
 have z3:=Tryz.sizeOf3
 have u9:=Tryz.underlying9
 have a9:=Tryz.isAgg9
 have z9:=Tryz.sizeOf9
 obtain ⟨k,t,j⟩:=x
 rw [run_neq_struct,show (10000:Nat)=9999+1 from rfl,run_equalIn_agg w 9999 76 _ _ riStruct riHeld]
 simp only [Program.fieldsOf,Tryz.underlying76]
 go_simp
end Go.Proofs.YtcghgkagpkmpeaaGreatDoor.Loc
