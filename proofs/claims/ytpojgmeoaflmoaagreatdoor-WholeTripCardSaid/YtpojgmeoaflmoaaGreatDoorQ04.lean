/- Acts on a unit: Check, Put: walked. -/
import Derived.Test.YtpojgmeoaflmoaaGreatDoorQ03
set_option linter.unusedVariables false
set_option maxRecDepth 100000
set_option maxHeartbeats 16000000
namespace Go.Proofs.YtpojgmeoaflmoaaGreatDoor
open Go.RowKit Go.Maps
def zbq (k e a:Nat)(dv:Value):Obj:=.cells #[.int .i64 k,.int .i64 e,.int .i64 a,dv] 119 (0,0)
section
variable {w : World} {b k e a : Nat} {dv : Value}
theorem ac_0 (h:w.heap[b]? = some (zbq k e a dv)):w.cell? ⟨b,0,none⟩=some (.int .i64 k):=by simp[World.cell?,h,zbq]
theorem ac_1 (h:w.heap[b]? = some (zbq k e a dv)):w.cell? ⟨b,1,none⟩=some (.int .i64 e):=by simp[World.cell?,h,zbq]
theorem ac_2 (h:w.heap[b]? = some (zbq k e a dv)):w.cell? ⟨b,2,none⟩=some (.int .i64 a):=by simp[World.cell?,h,zbq]
theorem ac_3 (h:w.heap[b]? = some (zbq k e a dv)):w.cell? ⟨b,3,none⟩=some dv:=by simp[World.cell?,h,zbq]
end
def actT (k e a:Nat)(d:List UInt8):List UInt8:=zm [k,e]++(if k=1 then [] else zm [a])++(if k=2 then zaG d else [])
def zaE (k e a:Nat)(d:List UInt8):List UInt8:=zbb (actT k e a d)
theorem zc2 (x most:Int)(w:World)(h1:0≤x)(h2:x≤most) :
 Calls Tryz.prog 267 #[.int .i64 x,.int .i64 most] w fun e w'=>e = .returned (.bool true)∧w'=w:=by
 go_enter Tryz.func267,Tryz.ntmps267
 go_wp2_with fail
 go_ret;exact⟨rfl,rfl⟩
theorem zmq (w:World):Calls Tryz.prog 268 #[.int .i64 2] w fun e w'=>e = .returned (.int .i64 1048575)∧w'=w:=by
 go_enter Tryz.func268,Tryz.ntmps268
 go_wp2_with fail
 go_ret;exact⟨rfl,rfl⟩
theorem zmr (w:World):Calls Tryz.prog 268 #[.int .i64 3] w fun e w'=>e = .returned (.int .i64 1048575)∧w'=w:=by
 go_enter Tryz.func268,Tryz.ntmps268
 go_wp2_with fail
 go_ret;exact⟨rfl,rfl⟩
theorem zea (k:Int)(w:World)(h2:(k==2)=false)(h3:(k==3)=false):Calls Tryz.prog 268 #[.int .i64 k] w fun e w'=>e = .returned (.int .i64 1048576)∧w'=w:=by
 go_enter Tryz.func268,Tryz.ntmps268
 go_wp2_with fail
 go_ret;exact⟨rfl,rfl⟩
theorem zdT (e:Nat)(w:World)(he:e≤1099511627776) :
 Calls Tryz.prog 210 #[.agg #[.int .i64 1,.int .i64 e,.int .i64 0,.slice none 0 0]] w fun r w'=>r = .returned .nilIface∧za zq2 w w':=by
 go_enter Tryz.func210,Tryz.ntmps210
 go_wp2_with fail
 go_region_law(go_simp;first
  |(go_at_call 267;refine(zc2 _ _ _ (by omega) (by omega)).mono ?_;rintro r w1 ⟨rfl,e1⟩;subst e1)
  |(go_at_call 268;refine(zea _ _ (by decide) (by decide)).mono ?_;rintro r w1 ⟨rfl,e1⟩;subst e1))
 all_goals go_wp2_with fail
 all_goals
  go_ret
  first|exact⟨rfl,(za.refl _ _).alloc _⟩|exact⟨rfl,((za.refl _ _).alloc _).drew⟩|exact⟨rfl,((za.refl _ _).alloc _).drew.drew⟩
theorem zds (e a n c:Nat)(pa:Option Addr)(w:World)(he:e≤1099511627776)(ha:a≤1048575)(hn:n≤64) :
 Calls Tryz.prog 210 #[.agg #[.int .i64 2,.int .i64 e,.int .i64 a,.slice pa n c]] w fun r w'=>r = .returned .nilIface∧za zq2 w w':=by
 go_enter Tryz.func210,Tryz.ntmps210
 go_wp2_with fail
 go_region_law(go_simp;first
  |(go_at_call 267;refine(zc2 _ _ _ (by omega) (by omega)).mono ?_;rintro r w1 ⟨rfl,e1⟩;subst e1)
  |(go_at_call 268;refine(zmq _).mono ?_;rintro r w1 ⟨rfl,e1⟩;subst e1))
 all_goals go_wp2_with fail
 all_goals
  go_ret
  first|exact⟨rfl,(za.refl _ _).alloc _⟩|exact⟨rfl,((za.refl _ _).alloc _).drew⟩|exact⟨rfl,((za.refl _ _).alloc _).drew.drew⟩
theorem zdS (e a:Nat)(w:World)(he:e≤1099511627776)(ha:a≤1048575) :
 Calls Tryz.prog 210 #[.agg #[.int .i64 3,.int .i64 e,.int .i64 a,.slice none 0 0]] w fun r w'=>r = .returned .nilIface∧za zq2 w w':=by
 go_enter Tryz.func210,Tryz.ntmps210
 go_wp2_with fail
 go_region_law(go_simp;first
  |(go_at_call 267;refine(zc2 _ _ _ (by omega) (by omega)).mono ?_;rintro r w1 ⟨rfl,e1⟩;subst e1)
  |(go_at_call 268;refine(zmr _).mono ?_;rintro r w1 ⟨rfl,e1⟩;subst e1))
 all_goals go_wp2_with fail
 all_goals
  go_ret
  first|exact⟨rfl,(za.refl _ _).alloc _⟩|exact⟨rfl,((za.refl _ _).alloc _).drew⟩|exact⟨rfl,((za.refl _ _).alloc _).drew.drew⟩
theorem zdU (e a:Nat)(w:World)(he:e≤1099511627776)(ha:a≤1048576) :
 Calls Tryz.prog 210 #[.agg #[.int .i64 4,.int .i64 e,.int .i64 a,.slice none 0 0]] w fun r w'=>r = .returned .nilIface∧za zq2 w w':=by
 go_enter Tryz.func210,Tryz.ntmps210
 go_wp2_with fail
 go_region_law(go_simp;first
  |(go_at_call 267;refine(zc2 _ _ _ (by omega) (by omega)).mono ?_;rintro r w1 ⟨rfl,e1⟩;subst e1)
  |(go_at_call 268;refine(zea _ _ (by decide) (by decide)).mono ?_;rintro r w1 ⟨rfl,e1⟩;subst e1))
 all_goals go_wp2_with fail
 all_goals
  go_ret
  first|exact⟨rfl,(za.refl _ _).alloc _⟩|exact⟨rfl,((za.refl _ _).alloc _).drew⟩|exact⟨rfl,((za.refl _ _).alloc _).drew.drew⟩
theorem zel (e a:Nat)(w:World)(he:e≤1099511627776)(ha:a≤1048576) :
 Calls Tryz.prog 210 #[.agg #[.int .i64 5,.int .i64 e,.int .i64 a,.slice none 0 0]] w fun r w'=>r = .returned .nilIface∧za zq2 w w':=by
 go_enter Tryz.func210,Tryz.ntmps210
 go_wp2_with fail
 go_region_law(go_simp;first
  |(go_at_call 267;refine(zc2 _ _ _ (by omega) (by omega)).mono ?_;rintro r w1 ⟨rfl,e1⟩;subst e1)
  |(go_at_call 268;refine(zea _ _ (by decide) (by decide)).mono ?_;rintro r w1 ⟨rfl,e1⟩;subst e1))
 all_goals go_wp2_with fail
 all_goals
  go_ret
  first|exact⟨rfl,(za.refl _ _).alloc _⟩|exact⟨rfl,((za.refl _ _).alloc _).drew⟩|exact⟨rfl,((za.refl _ _).alloc _).drew.drew⟩
end Go.Proofs.YtpojgmeoaflmoaaGreatDoor
