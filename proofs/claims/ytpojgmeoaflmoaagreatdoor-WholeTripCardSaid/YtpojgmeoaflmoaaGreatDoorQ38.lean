/- (*Restore).save, end over their callees: -/
import Derived.Test.YtpojgmeoaflmoaaGreatDoorQ12
set_option linter.unusedVariables false
set_option maxRecDepth 100000
set_option maxHeartbeats 16000000
namespace Go.Proofs.YtpojgmeoaflmoaaGreatDoor
open Go.RowKit
def zaw:List UInt8:=[99,45,114,101,115,116,111,114,101]
theorem zjG (x b lb q N B M t u:Nat)(ia:Option Addr)(il ic:Nat)(Q:World→Prop)(w:World)(hx:w.heap[x]? = some (RsB b lb q N B M (.slice ia il ic) t false))(hQ:∀w',Q w'→w'.heap[x]? = some (RsB b lb q N B M (.slice ia il ic) t false))
 (hs:∀W,za zq2 w W→Calls Tryz.prog 65 #[.pointer (some ⟨q,0,none⟩),.string ⟨zaw.toArray⟩,.agg #[.int .i64 u,.int .i64 u,.int .i64 N,.int .i64 M,.slice none 0 0]] W fun e w'=>e = .returned .nilIface∧Q w') :
 Calls Tryz.prog 79 #[.pointer (some ⟨x,0,none⟩),.int .i64 u] w fun e w'=>e = .returned .nilIface∧∃w1,Q w1∧w'=w1.setCell ⟨x,7,none⟩ (.int .i64 u):=by
 have c2:=rs_2 hx;have c3:=rs_3 hx;have c5:=rs_5 hx;have HS:=zz0 (hs w.drew (za.refl zq2 w).drew);have HQ:=zz0 hQ;clear hx hQ hs;unfold zaw at HS
 go_enter Tryz.func79,Tryz.ntmps79
 go_wp2_with fail
 go_region_law(go_simp;go_at_call 65;refine HS.out.mono ?_;rintro e w1 ⟨rfl,q1⟩;have h1:=HQ.out w1 q1;have c7:=rs_7 h1;have f7:=rs_f h1 7)
 all_goals go_wp2_with fail
 all_goals
  go_ret;exact⟨rfl,w1,q1,rfl⟩
theorem zpY (x b lb q N B M t:Nat)(ia:Option Addr)(il ic:Nat)(Q1 Q2 Q3:World→Prop)(w:World)(hx:w.heap[x]? = some (RsB b lb q N B M (.slice ia il ic) t false))
 (hQ1:∀w',Q1 w'→w'.heap[x]? = some (RsB b lb q N B M (.slice ia il ic) t false)) (hQ2:∀w',Q2 w'→w'.heap[x]? = some (RsB b lb q N B M (.slice ia il ic) t false))
 (h1:∀W,za zq2 w W→Calls Tryz.prog 7 #[.pointer (some ⟨lb,0,none⟩),.int .i64 (if M<B then (B:Int) else M)] W fun e w'=>e = .returned .nilIface∧Q1 w')
 (h2:∀w1 W,Q1 w1→za zq2 w1 W→Calls Tryz.prog 203 #[.pointer (some ⟨lb,0,none⟩),.int .i64 N] W fun e w'=>e = .returned .nilIface∧Q2 w')
 (h3:∀w2,Q2 w2→Calls Tryz.prog 70 #[.pointer (some ⟨q,0,none⟩),.string ⟨zaw.toArray⟩] (w2.setCell ⟨x,8,none⟩ (.bool true)) fun e w'=>e = .returned .nilIface∧Q3 w') :
 Calls Tryz.prog 135 #[.pointer (some ⟨x,0,none⟩)] w fun e w'=>e = .returned .nilIface∧Q3 w':=by
 have c1:=rs_1 hx;have c4:=rs_4 hx;have c5:=rs_5 hx;have H1:=zz0 (h1 w.drew (za.refl zq2 w).drew);have H1M:Hid (Calls Tryz.prog 7 #[.pointer (some ⟨lb,0,none⟩),.int .i64 (max (M:Int) (B:Int))] w.drew fun e w'=>e = .returned .nilIface∧Q1 w'):=zz0 (by
  have e:max (M:Int) (B:Int)=(if M<B then (B:Int) else M):=by split<;>omega
  rw[e];exact h1 w.drew (za.refl zq2 w).drew)
 have HQ1:=zz0 hQ1;have HQ2:=zz0 hQ2;have H2:=zz0 h2;have H3:=zz0 h3;clear hx hQ1 hQ2 h1 h2 h3;unfold zaw at H3
 go_enter Tryz.func135,Tryz.ntmps135
 go_wp2_with fail
 go_region_law(go_simp;go_at_call 7;((first|with_reducible refine H1.out.mono ?_|with_reducible refine H1M.out.mono ?_);rintro e w1 ⟨rfl,q1⟩);have y:=HQ1.out w1 q1;have d1:=rs_1 y;have d3:=rs_3 y;have H2W:=zz0 (H2.out w1 w1.drew q1 (za.refl zq2 w1).drew);clear y)
 all_goals go_wp2_with fail
 all_goals go_region_law(go_simp;go_at_call 203;((with_reducible refine H2W.out.mono ?_);rintro e w2 ⟨rfl,q2⟩);have y:=HQ2.out w2 q2;have d8:=rs_8 y;have f8:=rs_f y 8;have d2:=rs_2 (zmz y true);have H3W:=zz0 (H3.out w2 q2);clear y)
 all_goals go_wp2_with(go_at_call 70;((with_reducible refine H3W.out.mono ?_);rintro e w3 ⟨rfl,q3⟩))
 all_goals
  go_ret;exact⟨rfl,q3⟩
end Go.Proofs.YtpojgmeoaflmoaaGreatDoor
