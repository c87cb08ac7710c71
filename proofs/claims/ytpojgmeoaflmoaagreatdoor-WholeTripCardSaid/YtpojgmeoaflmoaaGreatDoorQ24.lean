/- A sequencer as plain numbers: an epoch,  -/
set_option linter.unusedVariables false
set_option maxRecDepth 100000
set_option maxHeartbeats 16000000
namespace Go.Proofs.YtpojgmeoaflmoaaGreatDoor
def askE (ep x:Int):Int:=if x<ep then 6 else if ep<x then 7 else 0
def fitB (lo hi n:Int):Bool:=decide (lo≤n∧n≤hi)
def zcA (ep x:Int)(fits:Bool):Int:=if fits then askE ep x else 1
def raiseE (ep x n:Int):Int:=zcA ep x (fitB 0 1048576 n)
def raiseN (ep nx x n:Int):Int:=if raiseE ep x n=0 then (if nx<n then n else nx) else nx
def setE (ep x n:Int):Int:=if fitB 0 1099511627776 x&&fitB 0 1048576 n then (if x≤ep then 6 else 0) else 1
def setP (ep x n:Int):Int:=if setE ep x n=0 then x else ep
def setN (ep nx x n:Int):Int:=if setE ep x n=0 then n else nx
def tailV (ep nx x:Int):Int:=if askE ep x=0 then nx else 0
def SqIn (ep nx:Int):Prop:=0≤ep∧ep≤1099511627776∧0≤nx∧nx≤1048576
theorem zlF {lo hi n:Int}(h:fitB lo hi n=true):lo≤n∧n≤hi:=of_decide_eq_true h
theorem zpy {lo hi n:Int}(h:lo≤n)(h':n≤hi):fitB lo hi n=true:=decide_eq_true ⟨h,h'⟩
theorem zlE {lo hi n:Int}(h:n<lo∨hi<n):fitB lo hi n=false:=decide_eq_false (by omega)
end Go.Proofs.YtpojgmeoaflmoaaGreatDoor
