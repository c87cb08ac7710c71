/- WholeTrip: the closed facts of its row a -/
import Derived.Test.YtpojgmeoaflmoaaGreatDoorRows
import Derived.JoinedOf
import Derived.SevenTiedAt
set_option linter.unusedVariables false
set_option maxRecDepth 100000
set_option maxHeartbeats 16000000
namespace Go.Proofs.YtpojgmeoaflmoaaGreatDoor.wholeTrip
open Go.ChangeShapes Go.WideShapes
set_option maxRecDepth 100000
set_option maxHeartbeats 16000000
theorem both {a b:Bool}(h:a=true)(k:b=true):(a&&b)=true:=by rw[h,k];rfl
theorem closed:joinedFacts Tryz.prog 3 Tryz.f3 Rows.wholeTripSpec Rows.wholeTripRow=true:=by
 unfold joinedFacts
 repeat' (with_reducible refine both ?_ ?_)
 all_goals as_aux_lemma=>kernel_rfl
theorem nogo:Tryz.prog.funcs.toList.any Func.goes=false:=by kernel_rfl
theorem zpz {P:Program}(h:P.funcs.toList.any Func.goes=false)(f:FuncId):P.goes f=false:=by
 have hall:∀fn ∈ P.funcs,Func.goes fn=false:=fun fn hf=>by
  have:=List.any_eq_false.1 h fn (Array.mem_toList_iff.2 hf);simpa using this
 unfold Program.goes;rw[Bool.or_eq_false_iff]
 constructor
 ·rw[List.any_eq_false]
  intro g _;cases e:P.funcs[g]? with
  |none=>simp
  |some fn=>simp[hall fn (Array.mem_of_getElem? e)]
 ·have:P.funcs.any Func.goes=false:=by
   rw[Array.any_eq_false];intro i hi;simp[hall _ (Array.getElem_mem hi)]
  rw[this,Bool.and_false]
theorem ziq {P:Program}(h:P.funcs.toList.any Func.goes=false)(n:String):P.goesFrom n=false:=by
 unfold Program.goesFrom;cases P.funcNamed n with
 |none=>rfl
 |some f=>exact zpz h f
theorem zlJ {P:Program}{c:OpenClaim}(hs:c.start = .entering)(h:P.funcs.toList.any Func.goes=false):false=c.goesBy P:=by
 unfold OpenClaim.goesBy Program.goesAt;rw[hs,ziq h]
 rfl
theorem byText:Rows.wholeTripRow.wfByText (OpenSpec.ofChange Rows.wholeTripSpec)=true:=by kernel_rfl
theorem mainOf:Tryz.prog.mainIs=some (true,"1b3454584cbf7f456faeb1422643d437df98e241d406892023e13a473173c930".toList):=by kernel_rfl
theorem looksOf:true=Tryz.prog.looks []:=by kernel_rfl
theorem nameOf:Tryz.prog.funcNamed "holdfast/holdfasttop.WholeTrip" = some 3:=by kernel_rfl
end Go.Proofs.YtpojgmeoaflmoaaGreatDoor.wholeTrip
