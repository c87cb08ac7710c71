/- unit.Trim, Cut: walked. · slices.Concat of ints: walked (turned from the text for bytes). · slices.Clone of ints: a new row (turned from the text for  -/
import Derived.Test.YtnboipdpccnedaaGreatDoorQ21
import Derived.Test.YtnboipdpccnedaaGreatDoorQ22
import Derived.Test.YtnboipdpccnedaaGreatDoorQ24
set_option linter.unusedVariables false
set_option maxRecDepth 100000
set_option maxHeartbeats 16000000
namespace Go.Proofs.YtnboipdpccnedaaGreatDoor
open Go.RowKit Go.Maps
def ltL (n:Nat):Lit→Bool
  | .int _ x=>decide (x < (n:Int))
  | _=>false
def geL (n:Nat):Lit→Bool
  | .int _ x=>decide ((n:Int)≤x)
  | _=>false
def cutLo (n:Nat) (D:Un):Un:=Lib.deleteFuncD (fun kl _=>ltL n kl) D
def cutHi (n:Nat) (D:Un):Un:=Lib.deleteFuncD (fun kl _=>geL n kl) D
theorem zlG (p b l:Nat) (x k:Int) (a:Option Addr) (n c:Nat) (W:World) (h1:W.cell? ⟨p,0,none⟩=some (.pointer (some ⟨b,0,none⟩))) (h2:W.cell? ⟨b,1,none⟩=some (.int .i64 l)) :
    Calls Tryz.prog 322 #[.int .i64 x,.agg #[.int .i64 k,.slice a n c],.pointer (some ⟨p,0,none⟩)] W fun e w'=>e = .returned (.bool (ltL l (.int .i64 x)))∧Keep Non W w':=by
  have kA:Keep Non W (W.alloc (ClB k (.slice a n c))):=(Keep.refl _ _).alloc _
  have c1:=(World.cell?_of_block (kA.block p (World.block_lt_of_cell? _ _ h1) (fun e=>e))).trans h1
  have c2:=(World.cell?_of_block (kA.block b (World.block_lt_of_cell? _ _ h2) (fun e=>e))).trans h2
  have KA:=zz0 kA
  unfold ClB at c1 c2
  clear h1 h2 kA
  go_enter Tryz.func322,Tryz.ntmps322
  go_wp2_with fail
  go_ret
  exact ⟨rfl,KA.out⟩
theorem znq (p l:Nat) (x k:Int) (a:Option Addr) (n c:Nat) (W:World) (h1:W.cell? ⟨p,0,none⟩=some (.int .i64 l)) :
    Calls Tryz.prog 323 #[.int .i64 x,.agg #[.int .i64 k,.slice a n c],.pointer (some ⟨p,0,none⟩)] W fun e w'=>e = .returned (.bool (geL l (.int .i64 x)))∧Keep Non W w':=by
  have kA:Keep Non W (W.alloc (ClB k (.slice a n c))):=(Keep.refl _ _).alloc _
  have c1:=(World.cell?_of_block (kA.block p (World.block_lt_of_cell? _ _ h1) (fun e=>e))).trans h1
  have KA:=zz0 kA
  unfold ClB at c1
  clear h1 kA
  go_enter Tryz.func323,Tryz.ntmps323
  go_wp2_with fail
  go_ret
  exact ⟨rfl,KA.out⟩
theorem ziP (D:Un) (pd:Lit→DataW Cl→Bool) (hD:IsMap D) (kl:Lit) (h:has (Lib.deleteFuncD pd D) kl=true):has D kl=true:=by
  obtain ⟨es,rfl⟩:=hD
  obtain ⟨p,hp,hk⟩:=List.any_eq_true.1 h
  exact List.any_eq_true.2 ⟨p,(List.mem_filter.1 hp).1,hk⟩
theorem keysOk.cut {D:Un} (h:keysOk D) (hD:IsMap D) (pd:Lit→DataW Cl→Bool):keysOk (Lib.deleteFuncD pd D):=fun kl hk=>h kl (ziP D pd hD kl hk)
theorem zbH {f:FuncId} {fn:Func} {c:Code} (hf:Tryz.prog.funcs[f]? = some fn) (hname:(fn.name == "runtime.NumGoroutine")=false) (hb:fn.body=some c) (args:Array Value) (w:World):(callFunc f args).run Tryz.prog w = .ok (.enter f args) w:=by
  have h1:fn.name≠ "runtime.NumGoroutine":=by simpa using hname
  simp [callFunc,hf,h1,hb]
theorem zlC {F T:Nat→Prop} {w:World} {b m e l l':Nat} {D:Un} (h:UnIn F T w b m e l D) (hl:l'≤1048576):UnIn F T (w.setCell ⟨b,1,none⟩ (.int .i64 l')) b m e l' D:=by
  have kS:Keep (One b) w (w.setCell ⟨b,1,none⟩ (.int .i64 l')):=(Keep.refl _ _).setOne 1 _
  exact ⟨zpw h.blk l',h.cells.keep kS (fun x=>h.apart x.symm) (fun g hg x=>h.outT.1 (by have x':g=b:=x;rw [← x'];exact hg)) (fun _ x=>x),h.inF,h.apart,⟨h.outT.1,h.outT.2.1,fun g x=>kS.lt (h.outT.2.2 g x)⟩,h.ep,hl,h.keys⟩
theorem zjr (args:Array Value) (w:World):(callFunc 322 args).run Tryz.prog w = .ok (.enter 322 args) w:=zbH Tryz.func322 (by kernel_rfl) rfl args w
theorem zjS (args:Array Value) (w:World):(callFunc 323 args).run Tryz.prog w = .ok (.enter 323 args) w:=zbH Tryz.func323 (by kernel_rfl) rfl args w
theorem znn {F T:Nat→Prop} {W:World} {b m e l p:Nat} {D:Un} (h:UnIn F T W b m e l D) (hp:W.cell? ⟨p,0,none⟩=some (.pointer (some ⟨b,0,none⟩))) (hpm:p≠m) :
    Calls Tryz.prog 321 #[.map (some m),.func (.func 322) #[] #[.pointer (some ⟨p,0,none⟩)]] W fun r w'=>r = .returned (.tuple #[])∧Keep (One m) W w'∧UnIn F T w' b m e l (cutLo l D):=by
  refine (zis _ m _ T D (ltL l) W zjr h.cells h.outT.2.1 (fun W' x k a n c kk=>?_)).mono ?_
  · exact zlG p b l x k a n c W' ((World.cell?_of_block (kk.block p (World.block_lt_of_cell? _ _ hp) (fun x=>hpm x))).trans hp) (un_1 (kk.at h.blk h.apart))
  · rintro r w' ⟨rfl,k1,m1⟩
    exact ⟨rfl,k1,k1.at h.blk h.apart,m1,h.inF,h.apart,⟨h.outT.1,h.outT.2.1,fun g x=>k1.lt (h.outT.2.2 g x)⟩,h.ep,h.lo,h.keys.cut (MapAt.isMap h.cells) _⟩
theorem zn7 {F T:Nat→Prop} {W:World} {b m e l a p:Nat} {D:Un} (h:UnIn F T W b m e l D) (hp:W.cell? ⟨p,0,none⟩=some (.int .i64 a)) (hpm:p≠m) :
    Calls Tryz.prog 321 #[.map (some m),.func (.func 323) #[] #[.pointer (some ⟨p,0,none⟩)]] W fun r w'=>r = .returned (.tuple #[])∧Keep (One m) W w'∧UnIn F T w' b m e l (cutHi a D):=by
  refine (zis _ m _ T D (geL a) W zjS h.cells h.outT.2.1 (fun W' x k pa n c kk=>?_)).mono ?_
  · exact znq p a x k pa n c W' ((World.cell?_of_block (kk.block p (World.block_lt_of_cell? _ _ hp) (fun x=>hpm x))).trans hp)
  · rintro r w' ⟨rfl,k1,m1⟩
    exact ⟨rfl,k1,k1.at h.blk h.apart,m1,h.inF,h.apart,⟨h.outT.1,h.outT.2.1,fun g x=>k1.lt (h.outT.2.2 g x)⟩,h.ep,h.lo,h.keys.cut (MapAt.isMap h.cells) _⟩
theorem zlH (F:Nat→Prop) (b e l a:Nat) (D:Un) (w:World) (h:UnAt F w b e l D) (ha:a≤1048576) :
    Calls Tryz.prog 254 #[.pointer (some ⟨b,0,none⟩),.int .i64 e,.int .i64 a] w fun r w'=>r = .returned .nilIface∧UnTo F w b e (max l a) (cutLo (max l a) D) w':=by
  obtain ⟨T,m,h⟩:=h
  have H:=zz0 h
  have AS:=zz0 (fun W (k:Keep Non w W)=>zcZ F b e l D W ⟨T,m,h.keep k (fun _ _ x=>x)⟩)
  clear h
  go_enter Tryz.func254,Tryz.ntmps254
  go_wp2_with fail
  have kA:Keep Non w (w.alloc (.cells #[.pointer (some ⟨b,0,none⟩)] 221)):=(Keep.refl _ _).alloc _
  have bA:=zab w (.cells #[.pointer (some ⟨b,0,none⟩)] 221 (0,0))
  obtain ⟨wA,hwA⟩:∃ wA,wA=w.alloc (.cells #[.pointer (some ⟨b,0,none⟩)] 221):=⟨_,rfl⟩
  rw [← hwA] at kA bA ⊢
  clear hwA
  have cA:wA.cell? ⟨w.heap.size,0,none⟩=some (.pointer (some ⟨b,0,none⟩)):=by simp [World.cell?,bA]
  have cAd:wA.drew.cell? ⟨w.heap.size,0,none⟩=some (.pointer (some ⟨b,0,none⟩)):=cA
  have hA:=H.out.keep kA (fun _ _ x=>x)
  have c1:=un_1 hA.blk
  have c2:=un_2 hA.blk
  have f1:=un_f hA.blk 1
  have AA:=zz0 (AS.out wA.drew (kA.trans1 (Keep.refl Non wA).drew))
  have HA:=zz0 hA
  have KA:=zz0 kA
  have BA:=zz0 bA
  clear hA kA bA AS
  go_region_law (go_simp;first
    | (go_at_call 231;refine (zcr _ _ _ (by omega) (by omega)).mono ?_;rintro r w1 ⟨rfl,e1⟩;subst e1)
    | (go_at_call 230;refine AA.out.mono ?_;rintro r w1 ⟨rfl,e1⟩;subst e1))
  all_goals
    have hmx:max (l:Int) (a:Int)=((max l a:Nat):Int):=by omega
    have hlo:=HA.out.lo
    have hS:=zlC (l':=max l a) HA.out (by omega)
    have kS:Keep (One b) wA (wA.setCell ⟨b,1,none⟩ (.int .i64 (max l a:Nat))):=(Keep.refl _ _).setOne 1 _
    have bS:=kS.at BA.out (fun x=>by have x':w.heap.size=b:=x;have:=lt_of_block H.out.blk;omega)
    have cS:(wA.setCell ⟨b,1,none⟩ (.int .i64 (max l a:Nat))).cell? ⟨w.heap.size,0,none⟩=some (.pointer (some ⟨b,0,none⟩)):=by simp [World.cell?,bS]
    have d2:=un_2 hS.blk
    have HS:=zz0 hS
    have KS:=zz0 kS
    clear hS kS bS
    go_wp2_with fail
  all_goals go_region_law fail
  all_goals
    have hif:(if l < a then (a:Int) else (l:Int))=((max l a:Nat):Int):=by split <;> omega
    try rw [hif]
    clear hif hmx
    generalize hn:max l a=n at HS KS cS d2 ⊢
    have DL:=zz0 (znn (p:=w.heap.size) (HS.out.keep ((Keep.refl Non _).drew.drew) (fun _ _ x=>x)) cS (fun x=>by have:=MapAt.lt H.out.cells;omega))
    go_wp2_with (go_at_call 321;refine DL.out.mono ?_;rintro r w2 ⟨rfl,k2,h2⟩;have K2:=zz0 k2;have H2:=zz0 h2;clear k2 h2)
    go_ret
    have k02:Keep F wA w2:=(((KS.out.mono (fun g _ x=>by have x':g=b:=x;rw [x'];exact H.out.inF.1)).drew).drew).trans K2.out (fun _ _ x=>x) (fun g _ x=>by have x':g=m:=x;rw [x'];exact H.out.inF.2.1)
    rw [hn]
    exact ⟨rfl,KA.out.ofNon.trans1 k02,F,Sub.refl _ _,T,m,H2.out⟩
theorem znr (F:Nat→Prop) (b e l a:Nat) (D:Un) (w:World) (h:UnAt F w b e l D) (ha:a≤1048576) (hl:l≤a) :
    Calls Tryz.prog 255 #[.pointer (some ⟨b,0,none⟩),.int .i64 e,.int .i64 a] w fun r w'=>(∃ n:Int,r = .returned (.tuple #[.int .i64 n,.nilIface]))∧UnTo F w b e l (cutHi a D) w':=by
  obtain ⟨T,m,h⟩:=h
  have H:=zz0 h
  have AS:=zz0 (fun W (k:Keep Non w W)=>zcZ F b e l D W ⟨T,m,h.keep k (fun _ _ x=>x)⟩)
  clear h
  go_enter Tryz.func255,Tryz.ntmps255
  have kA:Keep Non w (w.alloc (.cells #[.int .i64 a] 3)):=(Keep.refl _ _).alloc _
  have bA:=zab w (.cells #[.int .i64 a] 3 (0,0))
  go_wp2_with fail
  obtain ⟨wA,hwA⟩:∃ wA,wA=w.alloc (.cells #[.int .i64 a] 3):=⟨_,rfl⟩
  rw [← hwA] at kA bA ⊢
  clear hwA
  have cA:wA.cell? ⟨w.heap.size,0,none⟩=some (.int .i64 a):=by simp [World.cell?,bA]
  have hA:=H.out.keep kA (fun _ _ x=>x)
  have c1:=un_1 hA.blk
  have c2:=un_2 hA.blk
  have AA:=zz0 (AS.out wA kA)
  have HA:=zz0 hA
  have KA:=zz0 kA
  have hll:¬ (a:Int) < l:=by omega
  have DL:=zz0 (zn7 (W:=wA.drew) (p:=w.heap.size) (hA.keep (Keep.refl Non wA).drew (fun _ _ x=>x)) cA (fun x=>by have:=MapAt.lt H.out.cells;omega))
  clear hA kA bA AS
  refine (zcr _ _ _ (by omega) (by omega)).mono ?_
  rintro r w1 ⟨rfl,e1⟩
  subst e1
  go_wp2_with (go_at_call 230;refine AA.out.mono ?_;rintro r w1 ⟨rfl,e1⟩;subst e1)
  have hln:=World.ownsMap.len (HA.out.keep (Keep.refl Non _).drew (fun _ _ x=>x)).cells (t:=283) (e:=60) Tryz.underlying283
  go_region_law fail
  all_goals go_wp2_with (go_at_call 321;refine DL.out.mono ?_;rintro r w2 ⟨rfl,k2,h2⟩;have K2:=zz0 k2;have H2:=zz0 h2;have d2:=un_2 h2.blk;have hln2:=World.ownsMap.len h2.cells (t:=283) (e:=60) Tryz.underlying283;clear k2 h2)
  all_goals
    go_ret2
    have k2:Keep F w w2:=(KA.out.ofNon.trans1 (Keep.refl F _).drew).trans K2.out (fun _ _ x=>x) (fun g _ x=>by have x':g=m:=x;rw [x'];exact H.out.inF.2.1)
    exact ⟨⟨_,rfl⟩,k2,F,Sub.refl _ _,T,m,H2.out⟩
end Go.Proofs.YtnboipdpccnedaaGreatDoor
namespace Go.Proofs.YtnboipdpccnedaaGreatDoor
open Go.RowKit
abbrev Is (w:World) (v:Value) (l:List Nat):Prop:=Rd w v (l.map iv)
def NewI (w:World) (l:List Nat):Ending→World→Prop:=fun e w'=>∃ v',e = .returned v'∧Keep Non w w'∧w'.ownsRow w.heap.size 3 1 v' l.length (l.map iv)
theorem infoInt:(Tryz.prog.info? 3).map (fun i=>(i.zero,i.size,i.bytes))=some (some (.int .i64 0),1,8):=by kernel_rfl
theorem zdm (l:List Nat):∀ u ∈ l.map iv,u.oneCell'=true:=by
  intro u hu
  obtain ⟨x,_,rfl⟩:=List.mem_map.1 hu
  rfl
theorem zkj (n:Nat) (w:World) (hn:n≤100000000) :
    Calls Tryz.prog 169 #[.slice none 0 0,.int .i64 n] w fun e w'=>∃ v,e = .returned v∧Keep Non w w'∧w'.ownsRow w.heap.size 3 1 v 0 []:=by
  have hb1:Tryz.t3.bytes=8:=rfl
  by_cases hn0:n=0
  · subst hn0
    go_enter Tryz.func169,Tryz.ntmps169
    go_wp2_with fail
    go_ret
    exact ⟨_,rfl,Keep.refl _ _,World.ownsRow_nil _ _ _ _⟩
  · have hns:Builtin.nextslicecap n 0=n:=by unfold Builtin.nextslicecap;rw [if_pos (by omega)]
    have hn1:0 < n:=by omega
    have hcap:(Question.appendCap n 0 3).cut (w.tape w.drawn (Question.appendCap n 0 3))=n+w.tape w.drawn (Question.appendCap n 0 3) % (2 ^ 63 - n):=rfl
    have hmod:w.tape w.drawn (Question.appendCap n 0 3) % (2 ^ 63 - n) < 2 ^ 63 - n:=Nat.mod_lt _ (by omega)
    have HC:=zz0 (And.intro hcap hmod)
    clear hcap hmod
    go_enter Tryz.func169,Tryz.ntmps169
    go_wp2_with fail
    · go_ret
      obtain ⟨q1,q2⟩:=HC.out
      have z0:∀ k,(Builtin.zeroCells #[Value.int .i64 0] k).size=k:=fun k=>by simp [Builtin.zeroCells]
      refine ⟨_,rfl,((Keep.refl _ _).alloc _).drew,rfl,.inr ⟨w.heap.size,_,_,rfl,Nat.le_refl _,zab _ _,Nat.zero_le _,?_,?_,rfl⟩⟩
      · unfold maxLen;omega
      · rw [Array.size_append,z0,z0];omega
def Iss (w:World) (vs:List Value) (ls:List (List Nat)):Prop:=vs.length=ls.length∧∀ (i:Nat) u l,vs[i]? = some u→ls[i]? = some l→Is w u l
theorem zdS (g:Nat) (vs:List Value) (ls:List (List Nat)) (c:Nat) (w:World) (h:Rd w (.slice (some ⟨g,0,none⟩) vs.length c) vs) (hb:Iss w vs ls) (hl:ls.flatten.length≤100000000) (hvl:vs.length≤1000) :
    Calls Tryz.prog 112 #[.slice (some ⟨g,0,none⟩) vs.length c] w (NewI w ls.flatten):=by
  have H:=zz0 h
  have HB:=zz0 hb
  clear h hb
  obtain ⟨i0,hi0,hz0,hz1,hz2⟩:=info_parts infoInt
  go_enter Tryz.func112,Tryz.ntmps112
  go_wp2_with fail
  go_loopw [3,11] (fun o i wr=>∃ j:Nat,j≤vs.length∧i = .int .i64 j∧o = .int .i64 (ls.take j).flatten.length∧wr=w) (fun _ i _=>vs.length - (intOf i).toNat)
  case atStart=>exact ⟨0,by omega,rfl,rfl,rfl⟩
  case round =>
    obtain ⟨j,hj,rfl,rfl,rfl⟩:=hrel
    by_cases hlt:j < vs.length
    · have hjl:j < ls.length:=by rw [← HB.out.1];exact hlt
      have hu:=(HB.out.2 j vs[j] ls[j] (by simp [hlt]) (by simp [hjl]))
      obtain ⟨g',off,e,hc⟩:∃ g' off,some (⟨g,0,none⟩:Addr)=some ⟨g',off,none⟩∧∀ j u,vs[j]? = some u→wr.cell? ⟨g',off+j,none⟩=some u:=by
        obtain ⟨a',c',e,hx⟩:=H.out
        injection e with e1 e2 e3
        obtain ⟨g,off,e4,hc⟩:=hx (by intro e;rw [e] at hlt;exact absurd hlt (by simp))
        exact ⟨g,off,e1.trans e4,hc⟩
      injection e with e
      injection e with e1 e2
      subst e1
      subst e2
      have hcell:=hc j _ (List.getElem?_eq_getElem hlt)
      rw [Nat.zero_add] at hcell
      obtain ⟨a1,c1,e,_⟩:=hu
      rw [e,List.length_map] at hcell
      have HS:Hid ((ls.take (j+1)).flatten.length=(ls.take j).flatten.length+ls[j].length):=zz0 (by rw [List.take_succ_eq_append_getElem hjl,List.flatten_append,List.length_append,List.flatten_cons,List.flatten_nil,List.append_nil])
      have hle:(ls.take j).flatten.length+ls[j].length≤100000000:=by
        rw [← HS.out]
        refine Nat.le_trans ?_ hl
        conv=>rhs;rw [← List.take_append_drop (j+1) ls,List.flatten_append,List.length_append]
        omega
      clear hc e
      generalize (ls.take j).flatten.length=s0 at HS hle
      generalize ls[j].length=s1 at HS hle hcell
      go_wp2_with fail
      exact ⟨⟨j+1,by omega,by go_num,by rw [HS.out];go_num,trivial⟩,by simp [intOf];omega⟩
    · obtain rfl:j=vs.length:=by omega
      rw [HB.out.1,List.take_length]
      generalize hL:ls.flatten.length=L at hl
      go_wp2_with (go_at_call 169;refine (zkj L _ hl).mono ?_;rintro e w1 ⟨v1,rfl,k1,o1⟩;have K1:=zz0 k1;have O1:=zz0 o1;clear k1 o1)
      have HL:=zz0 hL
      clear hL
      obtain ⟨w0,hw0⟩:∃ w0,w0=wr:=⟨_,rfl⟩
      subst hw0
      go_loopw [6,27] (fun o i wr2=> ∃ j:Nat,j≤ls.length∧i = .int .i64 j∧Keep Non w0 wr2∧wr2.ownsRow w0.heap.size 3 1 o (ls.take j).flatten.length ((ls.take j).flatten.map iv)) (fun _ i _=>ls.length - (intOf i).toNat)
      case atStart=>exact ⟨0,by omega,rfl,K1.out,O1.out⟩
      case round =>
        obtain ⟨j,hj,rfl,k2,o2⟩:=hrel
        have K2:=zz0 k2
        have O2:=zz0 o2
        clear k2 o2
        by_cases hlt:j < ls.length
        · have hlv:j < vs.length:=by rw [HB.out.1];exact hlt
          have hu:=(HB.out.2 j vs[j] ls[j] (by simp [hlv]) (by simp [hlt])).keepNon K2.out
          obtain ⟨g',off,e,hc⟩:∃ g' off,some (⟨g,0,none⟩:Addr)=some ⟨g',off,none⟩∧∀ j u,vs[j]? = some u→wr.cell? ⟨g',off+j,none⟩=some u:=by
            obtain ⟨a',c',e,hx⟩:=H.out.keepNon K2.out
            injection e with e1 e2 e3
            obtain ⟨g,off,e4,hc⟩:=hx (by intro e;rw [e] at hlv;exact absurd hlv (by simp))
            exact ⟨g,off,e1.trans e4,hc⟩
          injection e with e
          injection e with e1 e2
          subst e1
          subst e2
          have hcell:=hc j _ (List.getElem?_eq_getElem hlv)
          rw [Nat.zero_add] at hcell
          have HU:=zz0 hu
          obtain ⟨a1,c1,e,_⟩:=hu
          rw [e,List.length_map] at hcell HU
          have HS:Hid ((ls.take (j+1)).flatten=(ls.take j).flatten ++ ls[j]):=zz0 (by rw [List.take_succ_eq_append_getElem hlt,List.flatten_append,List.flatten_cons,List.flatten_nil,List.append_nil])
          have hle:(ls.take j).flatten.length+ls[j].length≤100000000:=by
            rw [← List.length_append,← HS.out]
            refine Nat.le_trans ?_ hl
            rw [← HL.out]
            conv=>rhs;rw [← List.take_append_drop (j+1) ls,List.flatten_append,List.length_append]
            omega
          clear hc e
          generalize (ls.take j).flatten=s0 at HS hle O2
          generalize ls[j]=s1 at HS hle hcell HU
          obtain ⟨va,vc,rfl,_,_⟩:=zaa O2.out
          go_wp2_with (refine zah rfl _ _ 23 rfl w0.heap.size 3 i0 (.int .i64 0) 8 Tryz.underlying23 hi0 hz0 hz1 hz2 rfl _ _ _ rfl O2.out _ rfl (s1.map iv) HU.out (zdm s1) (by unfold maxLen;simp;omega) (by simp;omega) K2.out.size ?_;intro v' w' ho hg hpp;have HO3:=zz0 ho;have HG:=zz0 hg;clear ho hg hpp)
          have h3:=HO3.out
          rw [← List.map_append,← HS.out] at h3
          refine ⟨⟨j+1,by omega,by go_num,K2.out.grown HG.out (fun q e=>.inr ((O2.out.lt q e).1)),?_⟩,by simp [intOf];omega⟩
          rw [show (ls.take (j+1)).flatten.length=s0.length+(s1.map iv).length by rw [HS.out];simp]
          exact h3
        · obtain rfl:j=ls.length:=by omega
          have o2:=O2.out
          rw [List.take_length] at o2
          have O3:=zz0 o2
          clear o2
          go_wp2_with fail
          go_ret
          exact ⟨_,rfl,K2.out,O3.out⟩
theorem zdQ (a:Addr) (c:Nat) (l:List Nat) (w:World) (h:Is w (.slice (some a) l.length c) l) (hlen:l.length≤1000000) :
    Calls Tryz.prog 118 #[.slice (some a) l.length c] w (NewI w l):=by
  have hq:=fun (w:World)=>Lib.run_eql_slice_nil (P:=Tryz.prog) w 23 3 (some a) l.length c 0 0 Tryz.underlying23
  obtain ⟨i0,hi,hz0,hz1,hz2⟩:=info_parts infoInt
  have h':Is (w.alloc (.cells #[] 3)) (.slice (some a) l.length c) l:=by
    obtain ⟨a',cap',e1,hx⟩:=h
    refine ⟨a',cap',e1,fun hne=>?_⟩
    obtain ⟨g,off,e2,hc⟩:=hx hne
    exact ⟨g,off,e2,fun j u hu=>(World.cell?_alloc_lt _ _ _ (World.block_lt_of_cell? _ _ (hc j u hu))).trans (hc j u hu)⟩
  have hnews:=(Rd.news h' rfl).2
  have HN:=zz0 hnews
  have HL:=zz0 hlen
  have hown:Hid ((w.alloc (.cells #[] 3)).ownsRow w.heap.size 3 1 (.slice (some ⟨w.heap.size,0,none⟩) 0 0) 0 []):=World.ownsRow_made w #[] 0 (Nat.le_refl _) (by decide) rfl
  clear hnews h h' hlen
  go_enter Tryz.func118,Tryz.ntmps118
  go_wp2_with (at_builtin;refine zaj rfl _ _ 23 rfl w.heap.size 3 i0 (.int .i64 0) 1 8 Tryz.underlying23 hi hz0 hz1 hz2 rfl (by decide) _ _ _ rfl hown.out a l.length c (l.map iv) rfl (by simp) HN.out (zdm l) (by have:=HL.out;unfold maxLen;omega) (by have:=HL.out;omega) (by simp) ?_;intro v' w' ho hg hp;have HO:=zz0 ho;have HP:=zz0 hp;clear ho hp)
  go_ret
  have hk:Keep Non w w':=by
    have:=((Keep.refl Non w).alloc (.cells #[] 3)).trans ((Keep.refl (One w.heap.size) _).grown hg (row:=some w.heap.size) (fun k e=>.inl (by injection e with e;exact e.symm))) (U:=Non) (fun _ _ h=>h) (fun i hi h=>by unfold One at h;omega)
    exact this
  have ho:=HO.out
  rw [List.nil_append,show 0+l.length=(l.map iv).length by simp] at ho
  exact ⟨v',rfl,hk,by simpa using ho⟩
end Go.Proofs.YtnboipdpccnedaaGreatDoor
namespace Go.Proofs.YtnboipdpccnedaaGreatDoor
open Go.RowKit Go.Maps
theorem zhi (F:Nat→Prop) (b e l:Nat) (D:Un) (e2:Nat) (w:World) (h:UnAt F w b e l D) (he:e < e2) (he2:e2≤1099511627776) :
    Calls Tryz.prog 179 #[.pointer (some ⟨b,0,none⟩),.agg #[.int .i64 1,.int .i64 e2,.int .i64 0,.slice none 0 0]] w fun r w'=>(∃ n:Int,r = .returned (.tuple #[.int .i64 n,.nilIface]))∧UnTo F w b e2 l D w':=by
  have CK:=zz0 (fun W=>zcT e2 W he2)
  have OP:=zz0 (fun W (k:Keep Non w W)=>zlF F b e e2 l D W (h.keepNon k) he he2)
  clear h
  go_enter Tryz.func179,Tryz.ntmps179
  go_wp2_with (first
    | (go_at_call 250;refine (CK.out _).mono ?_;rintro r w1 ⟨rfl,k1⟩;have b1:=nonAt k1 (zab w (ActB 1 e2 0 (.slice none 0 0)));have c0:=ac_0 b1;have c1:=ac_1 b1;have c2:=ac_2 b1;have c3:=ac_3 b1;have K1':=((Keep.refl Non w).alloc (ActB 1 e2 0 (.slice none 0 0))).trans1 k1;have OPW:=zz0 (OP.out w1 K1');have OPD:=zz0 (OP.out w1.drew (K1'.trans1 (Keep.refl Non _).drew));have K1:=zz0 K1';clear k1 K1' b1)
    | (go_at_call 251;refine OPW.out.mono ?_;rintro r w2 ⟨⟨n,rfl⟩,t2⟩;have T2:=zz0 t2;clear t2))
  go_ret2
  obtain ⟨k2,F',s,u⟩:=T2.out
  refine ⟨⟨_,rfl⟩,K1.out.ofNon.trans1 k2,F',Sub.trans (Sub.refl _ _) s K1.out.size,u⟩
theorem zgx (F:Nat→Prop) (b e l:Nat) (D:Un) (a:Nat) (pa:Option Addr) (d:List UInt8) (dc:Nat) (w:World) (h:UnAt F w b e l D) (he:e≤1099511627776) (ha:a≤1048575) (hd:Bs w (.slice pa d.length dc) d) (hdl:d.length≤64) (hs:size D≤1000000) (h0:(uat l D a).1=0) :
    Calls Tryz.prog 179 #[.pointer (some ⟨b,0,none⟩),.agg #[.int .i64 2,.int .i64 e,.int .i64 a,.slice pa d.length dc]] w fun r w'=>(∃ n:Int,r = .returned (.tuple #[.int .i64 n,.nilIface]))∧UnTo F w b e l (uput D a (1,d)) w':=by
  have CK:=zz0 (fun W=>zcw e a d.length dc pa W he ha hdl)
  have OP:=zz0 (fun W (k:Keep Non w W)=>zhC F b e l a D d _ W (h.keepNon k) ha hs (hd.keepNon k) hdl h0)
  clear h
  go_enter Tryz.func179,Tryz.ntmps179
  go_wp2_with (first
    | (go_at_call 250;refine (CK.out _).mono ?_;rintro r w1 ⟨rfl,k1⟩;have b1:=nonAt k1 (zab w (ActB 2 e a (.slice pa d.length dc)));have c0:=ac_0 b1;have c1:=ac_1 b1;have c2:=ac_2 b1;have c3:=ac_3 b1;have K1':=((Keep.refl Non w).alloc (ActB 2 e a (.slice pa d.length dc))).trans1 k1;have OPW:=zz0 (OP.out w1 K1');have OPD:=zz0 (OP.out w1.drew (K1'.trans1 (Keep.refl Non _).drew));have K1:=zz0 K1';clear k1 K1' b1)
    | (go_at_call 252;refine OPW.out.mono ?_;rintro r w2 ⟨rfl,t2⟩;have T2:=zz0 t2;clear t2))
  go_ret2
  obtain ⟨k2,F',s,u⟩:=T2.out
  refine ⟨⟨_,rfl⟩,K1.out.ofNon.trans1 k2,F',Sub.trans (Sub.refl _ _) s K1.out.size,u⟩
theorem zhh (F:Nat→Prop) (b e l:Nat) (D:Un) (a:Nat) (w:World) (h:UnAt F w b e l D) (he:e≤1099511627776) (ha:a≤1048575) (hs:size D≤1000000) (h3:(uat l D a).1≠3) (h1:(uat l D a).1≠1) :
    Calls Tryz.prog 179 #[.pointer (some ⟨b,0,none⟩),.agg #[.int .i64 3,.int .i64 e,.int .i64 a,.slice none 0 0]] w fun r w'=>(∃ n:Int,r = .returned (.tuple #[.int .i64 n,.nilIface]))∧UnTo F w b e l (uput D a (2,[])) w':=by
  have CK:=zz0 (fun W=>zcS e a W he ha)
  have OP:=zz0 (fun W (k:Keep Non w W)=>zjt F b e l a D W (h.keepNon k) ha hs h3 h1)
  clear h
  go_enter Tryz.func179,Tryz.ntmps179
  go_wp2_with (first
    | (go_at_call 250;refine (CK.out _).mono ?_;rintro r w1 ⟨rfl,k1⟩;have b1:=nonAt k1 (zab w (ActB 3 e a (.slice none 0 0)));have c0:=ac_0 b1;have c1:=ac_1 b1;have c2:=ac_2 b1;have c3:=ac_3 b1;have K1':=((Keep.refl Non w).alloc (ActB 3 e a (.slice none 0 0))).trans1 k1;have OPW:=zz0 (OP.out w1 K1');have OPD:=zz0 (OP.out w1.drew (K1'.trans1 (Keep.refl Non _).drew));have K1:=zz0 K1';clear k1 K1' b1)
    | (go_at_call 253;refine OPW.out.mono ?_;rintro r w2 ⟨rfl,t2⟩;have T2:=zz0 t2;clear t2))
  go_ret2
  obtain ⟨k2,F',s,u⟩:=T2.out
  refine ⟨⟨_,rfl⟩,K1.out.ofNon.trans1 k2,F',Sub.trans (Sub.refl _ _) s K1.out.size,u⟩
theorem zhj (F:Nat→Prop) (b e l:Nat) (D:Un) (a:Nat) (w:World) (h:UnAt F w b e l D) (he:e≤1099511627776) (ha:a≤1048576) :
    Calls Tryz.prog 179 #[.pointer (some ⟨b,0,none⟩),.agg #[.int .i64 4,.int .i64 e,.int .i64 a,.slice none 0 0]] w fun r w'=>(∃ n:Int,r = .returned (.tuple #[.int .i64 n,.nilIface]))∧UnTo F w b e (max l a) (cutLo (max l a) D) w':=by
  have CK:=zz0 (fun W=>zcU e a W he ha)
  have OP:=zz0 (fun W (k:Keep Non w W)=>zlH F b e l a D W (h.keepNon k) ha)
  clear h
  go_enter Tryz.func179,Tryz.ntmps179
  go_wp2_with (first
    | (go_at_call 250;refine (CK.out _).mono ?_;rintro r w1 ⟨rfl,k1⟩;have b1:=nonAt k1 (zab w (ActB 4 e a (.slice none 0 0)));have c0:=ac_0 b1;have c1:=ac_1 b1;have c2:=ac_2 b1;have c3:=ac_3 b1;have K1':=((Keep.refl Non w).alloc (ActB 4 e a (.slice none 0 0))).trans1 k1;have OPW:=zz0 (OP.out w1 K1');have OPD:=zz0 (OP.out w1.drew (K1'.trans1 (Keep.refl Non _).drew));have K1:=zz0 K1';clear k1 K1' b1)
    | (go_at_call 254;refine OPW.out.mono ?_;rintro r w2 ⟨rfl,t2⟩;have T2:=zz0 t2;clear t2))
  go_ret2
  obtain ⟨k2,F',s,u⟩:=T2.out
  refine ⟨⟨_,rfl⟩,K1.out.ofNon.trans1 k2,F',Sub.trans (Sub.refl _ _) s K1.out.size,u⟩
theorem zi7 (F:Nat→Prop) (b e l:Nat) (D:Un) (a:Nat) (w:World) (h:UnAt F w b e l D) (he:e≤1099511627776) (ha:a≤1048576) (hl:l≤a) :
    Calls Tryz.prog 179 #[.pointer (some ⟨b,0,none⟩),.agg #[.int .i64 5,.int .i64 e,.int .i64 a,.slice none 0 0]] w fun r w'=>(∃ n:Int,r = .returned (.tuple #[.int .i64 n,.nilIface]))∧UnTo F w b e l (cutHi a D) w':=by
  have CK:=zz0 (fun W=>zdo e a W he ha)
  have OP:=zz0 (fun W (k:Keep Non w W)=>znr F b e l a D W (h.keepNon k) ha hl)
  clear h
  go_enter Tryz.func179,Tryz.ntmps179
  go_wp2_with (first
    | (go_at_call 250;refine (CK.out _).mono ?_;rintro r w1 ⟨rfl,k1⟩;have b1:=nonAt k1 (zab w (ActB 5 e a (.slice none 0 0)));have c0:=ac_0 b1;have c1:=ac_1 b1;have c2:=ac_2 b1;have c3:=ac_3 b1;have K1':=((Keep.refl Non w).alloc (ActB 5 e a (.slice none 0 0))).trans1 k1;have OPW:=zz0 (OP.out w1 K1');have OPD:=zz0 (OP.out w1.drew (K1'.trans1 (Keep.refl Non _).drew));have K1:=zz0 K1';clear k1 K1' b1)
    | (go_at_call 255;refine OPW.out.mono ?_;rintro r w2 ⟨⟨n,rfl⟩,t2⟩;have T2:=zz0 t2;clear t2))
  go_ret2
  obtain ⟨k2,F',s,u⟩:=T2.out
  refine ⟨⟨_,rfl⟩,K1.out.ofNon.trans1 k2,F',Sub.trans (Sub.refl _ _) s K1.out.size,u⟩
def ShB (q u n:Nat):Obj:=.cells #[.pointer (some ⟨q,0,none⟩),.pointer (some ⟨u,0,none⟩),.int .i64 n,.bool false] 262 (0,0)
section
variable {w : World} {b q u n : Nat}
theorem sh_0 (h:w.heap[b]? = some (ShB q u n)):w.cell? ⟨b,0,none⟩=some (.pointer (some ⟨q,0,none⟩)):=by simp [World.cell?,h,ShB]
theorem sh_1 (h:w.heap[b]? = some (ShB q u n)):w.cell? ⟨b,1,none⟩=some (.pointer (some ⟨u,0,none⟩)):=by simp [World.cell?,h,ShB]
theorem sh_2 (h:w.heap[b]? = some (ShB q u n)):w.cell? ⟨b,2,none⟩=some (.int .i64 n):=by simp [World.cell?,h,ShB]
theorem sh_3 (h:w.heap[b]? = some (ShB q u n)):w.cell? ⟨b,3,none⟩=some (.bool false):=by simp [World.cell?,h,ShB]
theorem sh_f (h:w.heap[b]? = some (ShB q u n)) (i:Nat):w.frozen? ⟨b,i,none⟩=false:=by simp [World.frozen?,h,ShB]
theorem zho (h:w.heap[b]? = some (ShB q u n)) (k:Nat):(w.setCell ⟨b,1,none⟩ (.pointer (some ⟨k,0,none⟩))).heap[b]? = some (ShB q k n):=zaf h 1 _
theorem zo9 (h:w.heap[b]? = some (ShB q u n)) (k:Nat):(w.setCell ⟨b,2,none⟩ (.int .i64 k)).heap[b]? = some (ShB q u k):=zaf h 2 _
end
structure Sh where
  X:Dk
  e:Nat
  l:Nat
  D:Un
  next:Nat
structure ShIn (F FS FU:Nat→Prop) (w:World) (p dp q u:Nat) (s:Sh):Prop where
  blk:w.heap[p]? = some (ShB q u s.next)
  store:StoreAt FS w q dp s.X
  unit:UnAt FU w u s.e s.l s.D
  inF:F p
  inS:∀ g,FS g→F g∧g≠p
  inU:∀ g,FU g→F g∧g≠p
  apart:∀ g,FS g→¬ FU g
  low:∀ g,F g→g < w.heap.size
def ShAt (F:Nat→Prop) (w:World) (p dp:Nat) (s:Sh):Prop:=∃ FS FU q u,ShIn F FS FU w p dp q u s
def ShTo (F:Nat→Prop) (w:World) (p dp:Nat) (s:Sh) (w':World):Prop:=Keep F w w'∧∃ F',Sub F' F w∧ShAt F' w' p dp s
theorem ShIn.keep {F FS FU S:Nat→Prop} {w w':World} {p dp q u:Nat} {s:Sh} (h:ShIn F FS FU w p dp q u s) (k:Keep S w w') (hn:∀ g,F g→¬ S g):ShIn F FS FU w' p dp q u s :=
  ⟨k.at h.blk (hn _ h.inF),h.store.keep k (fun g e=>hn g (h.inS g e).1),h.unit.keep k (fun g e=>hn g (h.inU g e).1),h.inF,h.inS,h.inU,h.apart,fun g e=>k.lt (h.low g e)⟩
theorem ShAt.keep {F S:Nat→Prop} {w w':World} {p dp:Nat} {s:Sh} (h:ShAt F w p dp s) (k:Keep S w w') (hn:∀ g,F g→¬ S g):ShAt F w' p dp s:=by
  obtain ⟨FS,FU,q,u,h⟩:=h
  exact ⟨FS,FU,q,u,h.keep k hn⟩
theorem ShAt.keepNon {F:Nat→Prop} {w w':World} {p dp:Nat} {s:Sh} (h:ShAt F w p dp s) (k:Keep Non w w'):ShAt F w' p dp s:=h.keep k (fun _ _ e=>e)
theorem ShAt.low {F:Nat→Prop} {w:World} {p dp:Nat} {s:Sh} (h:ShAt F w p dp s):∀ g,F g→g < w.heap.size:=by
  obtain ⟨FS,FU,q,u,h⟩:=h
  exact h.low
theorem UnAt.low {F:Nat→Prop} {w:World} {b e l:Nat} {D:Un} (h:UnAt F w b e l D):UnAt (fun g=>F g∧g < w.heap.size) w b e l D:=by
  obtain ⟨T,m,h⟩:=h
  exact ⟨T,m,h.blk,h.cells,⟨⟨h.inF.1,lt_of_block h.blk⟩,⟨h.inF.2.1,MapAt.lt h.cells⟩,fun g e=>⟨h.inF.2.2 g e,h.outT.2.2 g e⟩⟩,h.apart,h.outT,h.ep,h.lo,h.keys⟩
theorem zff {F:Nat→Prop} {p dp:Nat} {s:Sh} (w:World) (h:ShAt F w p dp s) :
    Calls Tryz.prog 177 #[.pointer (some ⟨p,0,none⟩)] w fun r w'=>r = .returned .nilIface∧w'=w:=by
  obtain ⟨FS,FU,q,u,h⟩:=h
  have c3:=sh_3 h.blk
  clear h
  go_enter Tryz.func177,Tryz.ntmps177
  go_wp2_with fail
  go_ret
  exact ⟨rfl,rfl⟩
theorem zhp {F:Nat→Prop} {p dp:Nat} {s:Sh} (w:World) (h:ShAt F w p dp s) :
    Calls Tryz.prog 350 #[.pointer (some ⟨p,0,none⟩)] w fun r w'=>r = .returned (.bool false)∧w'=w:=by
  obtain ⟨FS,FU,q,u,h⟩:=h
  have c3:=sh_3 h.blk
  clear h
  go_enter Tryz.func350,Tryz.ntmps350
  go_wp2_with fail
  go_ret
  exact ⟨rfl,rfl⟩
theorem zjh {F:Nat→Prop} {p dp:Nat} {s:Sh} (w:World) (h:ShAt F w p dp s) :
    Calls Tryz.prog 351 #[.pointer (some ⟨p,0,none⟩)] w fun r w'=>r = .returned (.int .i64 s.e)∧w'=w:=by
  obtain ⟨FS,FU,q,u,h⟩:=h
  have c1:=sh_1 h.blk
  have EP:=zz0 (zjs FU u s.e s.l s.D w h.unit)
  clear h
  go_enter Tryz.func351,Tryz.ntmps351
  go_wp2_with (go_at_call 373;refine EP.out.mono ?_;rintro r w1 ⟨rfl,e1⟩;subst e1)
  go_ret
  exact ⟨rfl,rfl⟩
theorem zgF {F:Nat→Prop} {p dp:Nat} {s:Sh} (w:World) (h:ShAt F w p dp s) :
    Calls Tryz.prog 191 #[.pointer (some ⟨p,0,none⟩)] w fun r w'=>∃ b',r = .returned (.pointer (some ⟨b',0,none⟩))∧Keep Non w w'∧UnAt (fun g=>F g∨(w.heap.size≤g∧g < w'.heap.size)) w' b' s.e s.l s.D:=by
  obtain ⟨FS,FU,q,u,h⟩:=h
  have c1:=sh_1 h.blk
  have EP:=zz0 (zgR FU u s.e s.l s.D w h.unit (fun g e=>h.low g (h.inU g e).1))
  have IU:=zz0 h.inU
  clear h
  go_enter Tryz.func191,Tryz.ntmps191
  go_wp2_with (go_at_call 178;refine EP.out.mono ?_;rintro r w1 ⟨b',rfl,k1,_,u1⟩;have K1:=zz0 k1;have U1:=zz0 u1;clear k1 u1)
  go_ret
  exact ⟨_,rfl,K1.out,U1.out.mono (fun g e=>by rcases e with e | e;exact .inl (IU.out g e).1;exact .inr e)⟩
theorem zm8 (q p:Nat) (w:World) (h:w.heap[q]? = some (StB p)) :
    Calls Tryz.prog 229 #[.pointer (some ⟨q,0,none⟩)] w fun r w'=>r = .returned (.pointer (some ⟨p,0,none⟩))∧w'=w:=by
  have c0:=st_0 h
  clear h
  go_enter Tryz.func229,Tryz.ntmps229
  go_wp2_with fail
  go_ret
  exact ⟨rfl,rfl⟩
theorem zji {F:Nat→Prop} {p dp:Nat} {s:Sh} (w:World) (h:ShAt F w p dp s) (hd:s.X.down=false) :
    Calls Tryz.prog 167 #[.pointer (some ⟨p,0,none⟩)] w fun r w'=>r = .returned .nilIface∧w'=w:=by
  have WK:=zz0 (zff w h)
  obtain ⟨FS,FU,q,u,h⟩:=h
  have c0:=sh_0 h.blk
  have SD:=zz0 (zm8 q dp w h.store.blk)
  obtain ⟨G,dg,_⟩:=h.store.disk
  have DW:=zf9 G dp s.X w dg
  rw [hd] at DW
  have DN:=zz0 DW
  clear h dg DW
  go_enter Tryz.func167,Tryz.ntmps167
  go_wp2_with (first
    | (go_at_call 177;refine WK.out.mono ?_;rintro r w1 ⟨rfl,e1⟩;subst e1)
    | (go_at_call 229;refine SD.out.mono ?_;rintro r w1 ⟨rfl,e1⟩;subst e1)
    | (go_at_call 27;refine DN.out.mono ?_;rintro r w1 ⟨rfl,e1⟩;subst e1))
  go_ret
  exact ⟨rfl,rfl⟩
theorem zll {F:Nat→Prop} {p dp a:Nat} {s:Sh} (w:World) (h:ShAt F w p dp s) (hd:s.X.down=false) (ha:a≤1048575) (hx:(uat s.l s.D a).2.length≤100000000) :
    Calls Tryz.prog 110 #[.pointer (some ⟨p,0,none⟩),.int .i64 s.e,.int .i64 a] w fun r w'=>∃ v,r = .returned (.tuple #[.agg #[.int .i64 (uat s.l s.D a).1,v],.nilIface])∧Keep Non w w'∧w'.ownsRow w.heap.size 5 1 v (uat s.l s.D a).2.length ((uat s.l s.D a).2.map bv):=by
  have LK:=zz0 (fun W (k:Keep Non w W)=>zji W (h.keepNon k) hd)
  obtain ⟨FS,FU,q,u,h⟩:=h
  have RD:=zz0 (fun W (k:Keep Non w W)=>zlE FU u s.e s.l a s.D W (h.unit.keepNon k) ha hx)
  have B:=zz0 h.blk
  clear h
  generalize uat s.l s.D a=x at *
  obtain ⟨kx,lx⟩:=x
  dsimp only at hx RD ⊢
  have kA:Keep Non w (w.alloc (ClB 0 (.slice none 0 0))):=(Keep.refl _ _).alloc _
  have BA:=zz0 (zab w (ClB 0 (.slice none 0 0)))
  have c1:=sh_1 (nonAt kA B.out)
  have LKA:=zz0 (LK.out _ kA)
  have RDA:=zz0 (RD.out _ kA)
  have KA:=zz0 kA
  unfold ClB at c1
  dsimp only [ClB] at LKA RDA
  clear kA LK RD
  go_enter Tryz.func110,Tryz.ntmps110
  go_wp2_with (first
    | (go_at_call 167;refine LKA.out.mono ?_;rintro r w1 ⟨rfl,rfl⟩)
    | (go_at_call 168;refine RDA.out.mono ?_;rintro r w2 ⟨v2,rfl,k2,o2⟩;obtain ⟨a2,c2,rfl,_,_⟩:=zaa o2;have b2:=nonAt k2 BA.out;have d0:=cl0 b2;have d1:=cl1 b2;have f0:=clf b2 0;have f1:=clf b2 1;have q0:=cl0 (zbd (zaY b2 kx) (.slice a2 lx.length c2));have q1:=cl1 (zbd (zaY b2 kx) (.slice a2 lx.length c2));have K2:=zz0 (KA.out.trans1 k2);have O2:=zz0 o2;clear k2 o2 b2))
  refine bodyPost_ret (v:=.tuple #[.agg #[.int .i64 kx,.slice a2 lx.length c2],.nilIface]) (by simp [results,Tryz.results110,go_sem,q0,q1]) rfl ?_
  have k3:Keep (One w.heap.size) w2 ((w2.setCell ⟨w.heap.size,0,none⟩ (.int .i64 kx)).setCell ⟨w.heap.size,1,none⟩ (.slice a2 lx.length c2)):=((Keep.refl _ _).setOne _ _).setOne _ _
  have o2:=O2.out
  rw [World.size_alloc] at o2
  exact ⟨_,rfl,K2.out.trans k3 (fun _ _ e=>e) (fun g hg e=>by have e':g=w.heap.size:=e;omega),zad (zac o2 k3 (fun g hg e=>by have e':g=w.heap.size:=e;have:=(o2.lt g hg).1;omega)) (by omega)⟩
end Go.Proofs.YtnboipdpccnedaaGreatDoor
