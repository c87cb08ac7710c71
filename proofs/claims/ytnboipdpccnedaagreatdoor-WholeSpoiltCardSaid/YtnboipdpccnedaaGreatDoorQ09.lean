/- A file for which there is no room: walked. · DERIVED: THE SHELF's CONTRACTS AT THIS DUMP, IN PLAIN WORDS (tools/lay-plain.mjs out of 'TryzIterL.lean', -/
import Derived.Shelf.SlIter.Nil
import Derived.Ground.GgzProg
import Derived.Test.YtnboipdpccnedaaGreatDoorQ08
set_option linter.unusedVariables false
set_option maxRecDepth 100000
set_option maxHeartbeats 16000000
namespace Go.Proofs.YtnboipdpccnedaaGreatDoor
open Go.RowKit Go.Maps
theorem zj2 (F T:Nat→Prop) (p s h:Nat) (pv v:Value) (n:Byt) (X:Dk) (w:World) (d:DiskIn F T w p s h pv X) (hf:X.fuse≤1000000000) (hw:X.works.1=14) :
    Calls Tryz.prog 39 #[.pointer (some ⟨p,0,none⟩),sv n,v] w fun e w'=>e = .returned (.iface 55 (.int .i64 14))∧Keep (One p) w w'∧DiskIn F T w' p s h pv X.works.2:=by
  have W:=zaE F T p s h pv X w d hf
  rw [hw] at W
  have W2:Hid (Calls Tryz.prog 89 #[.pointer (some ⟨p,0,none⟩)] w fun e w'=>e = .returned (.iface 55 (.int .i64 14))∧Keep (One p) w w'∧DiskIn F T w' p s h pv X.works.2):=W
  clear W d
  go_enter Tryz.func39,Tryz.ntmps39
  go_wp2_with (go_at_call 89;refine W2.out.mono ?_;rintro e w1 ⟨rfl,k1,d1⟩;have K1:=zz0 k1;have D1:=zz0 d1;clear k1 d1)
  go_ret
  exact ⟨rfl,K1.out,D1.out⟩
theorem zg4 (F T:Nat→Prop) (p s h:Nat) (pv v:Value) (n b:Byt) (X:Dk) (w:World) (d:DiskIn F T w p s h pv X) (hw:X.works.1=0) (hfu:X.fuse≤1000000000) (hv:Bs w v b) (hn:okName n) (hb:b.length≤65536) (hs:size X.shown≤100000) (hp:X.pend.length≤1000000) (hu:fused X.shown≤1000000000) (hg:(fget X.shown n).length≤1000000000) (hs5:size X.shown < 512) (hover:X.works.2.room+(fget X.works.2.shown n).length < fused X.works.2.shown+b.length) :
    Calls Tryz.prog 39 #[.pointer (some ⟨p,0,none⟩),sv n,v] w fun e w'=>e = .returned (.iface 55 (.int .i64 5))∧Keep F w w'∧DiskIn F T w' p s h pv X.works.2:=by
  have W:=zaE F T p s h pv X w d hfu
  rw [hw] at W
  have W2:Hid (Calls Tryz.prog 89 #[.pointer (some ⟨p,0,none⟩)] w fun e w'=>e = .returned .nilIface∧Keep (One p) w w'∧DiskIn F T w' p s h pv X.works.2):=W
  have V:=zz0 hv
  have D:=zz0 d
  obtain ⟨r1,r2,r3,r4⟩:=zav X
  have hX2:size X.works.2.shown≤100000:=by rw [r2];exact hs
  have hP2:X.works.2.pend.length≤1000000:=by rw [r3];exact hp
  have hU2:fused X.works.2.shown≤1000000000:=by rw [r2];exact hu
  have hG2:(fget X.works.2.shown n).length≤1000000000:=by rw [r2];exact hg
  obtain ⟨a,c,rfl,_⟩:=zaw hv
  have law:=string_keyed Tryz.underlying9
  have hkey:=zbX n (by unfold maxLen;have:=hn.2.1;omega)
  have hz:=fun w=>Tryz.zeroValue44 w
  have hnl:n.length≤1000:=by have:=hn.2.1;omega
  have NM:=zz0 (fun w=>zbg n w hn)
  clear W d hv
  have hs5':size X.works.2.shown < 512:=by rw [r2];exact hs5
  have rm:X.works.2.room≤1073741824:=by rw [r1];exact D.out.room
  generalize X.works.2=Y at W2 hover hX2 hP2 hU2 hG2 hs5' rm ⊢
  have hf2:=hover
  clear hover
  cases hhas:fhas Y.shown n with
  | true =>
    have hh:has Y.shown (.string n)=true:=hhas
    unfold sv at hkey NM ⊢
    generalize hold:fget Y.shown n=old at hf2 hG2
    have HOLD:=zz0 hold
    clear hold
    generalize hus:fused Y.shown=us at hf2 hU2
    have HUS:=zz0 hus
    clear hus
    go_enter Tryz.func39,Tryz.ntmps39
    go_wp2_with (first
      | (go_at_call 89;refine W2.out.mono ?_;rintro e w1 ⟨rfl,k1,d1⟩;have c2:=dk_2 d1.blk;have c0:=dk_0 d1.blk;have M1:=zz0 d1.shown;have K1:=zz0 k1;have D1:=zz0 d1;clear k1 d1)
      | (at_lookup;refine zak rfl _ _ 132 rfl 44 law Tryz.underlying132 (hz _) [] (BsIn.fun1 _ T) (zaP _ _) rfl M1.out _ _ rfl hkey ?_;rw [hh];intro lv ly hlv hat;obtain rfl:ly=old:=(by have e:=HOLD.out;unfold fget at e;rw [hat] at e;exact e);obtain ⟨⟨la,lc,rfl,_⟩,_⟩:=hlv;rw [List.length_map];clear hat)
      | (go_at_call 77;refine (NM.out _).mono ?_;rintro e w2 ⟨rfl,k2⟩;have K2:=zz0 k2;clear k2;have B2:=K2.out.at D1.out.blk (fun e=>e);have e2:=dk_2 B2;have e0:=dk_0 B2;have M2:=zz0 (FlAt.keep M1.out K2.out (fun e=>e) (fun _ _ e=>e) (fun _ e=>e));clear B2))
    obtain ⟨es,clock,hes,hsz⟩:=zcO M2.out
    have S0:w2.drew.cell? ⟨p,0,none⟩=some (.int .i64 Y.room)∧w2.drew.cell? ⟨p,2,none⟩=some (.map (some h))∧w2.drew.heap[h]? = some (.map es clock)∧Keep Non w2 w2.drew:=⟨e0,e2,hes,(Keep.refl _ _).drew⟩
    have USED:Hid (∀ W,(W.cell? ⟨p,0,none⟩=some (.int .i64 Y.room)∧W.cell? ⟨p,2,none⟩=some (.map (some h))∧W.heap[h]? = some (.map es clock)∧Keep Non w2 W)→Calls Tryz.prog 90 #[.map (some h)] W fun e w'=>e = .returned (.int .i64 us)∧Keep Non W w'):=zz0 (fun W hW=>by
      have:=zdC T h Y.shown W (FlAt.keep M2.out hW.2.2.2 (fun e=>e) (fun _ _ e=>e) (fun _ e=>e)) (by rw [HUS.out];omega)
      rw [HUS.out] at this
      exact this)
    have wr1:IntKind.i64.wrap ((us:Int) - (ly.length:Int))=(us:Int) - (ly.length:Int):=IntWalk.i64_in _ (by omega)
    have wr2:IntKind.i64.wrap ((us:Int) - (ly.length:Int)+(b.length:Int))=(us:Int) - (ly.length:Int)+(b.length:Int):=IntWalk.i64_in _ (by omega)
    have wr3:(Y.room:Int) < (us:Int) - (ly.length:Int)+(b.length:Int):=by omega
    refine wp_region_noPanic ?_
    refine wp_region_held_drew (S:=fun W=>W.cell? ⟨p,0,none⟩=some (.int .i64 Y.room)∧W.cell? ⟨p,2,none⟩=some (.map (some h))∧W.heap[h]? = some (.map es clock)∧Keep Non w2 W) (by as_aux_lemma=>kernel_rfl) S0 (fun hHeld=>?_)
    refine tq 0 ?_;refine tq 1 ?_;refine tq 2 ?_
    refine tu (i:=3) ?_
    simp only [Act.put,List.setIfInBounds_toArray,List.set_cons_zero,List.set_cons_succ]
    refine tu (i:=4) ?_
    simp only [Act.put,List.setIfInBounds_toArray,List.set_cons_zero,List.set_cons_succ]
    refine tu (i:=5) ?_
    simp only [Act.put,List.setIfInBounds_toArray,List.set_cons_zero,List.set_cons_succ]
    refine tu (i:=6) ?_
    simp only [Act.put,List.setIfInBounds_toArray,List.set_cons_zero,List.set_cons_succ]
    refine tu (i:=7) ?_
    simp only [Act.put,List.setIfInBounds_toArray,List.set_cons_zero,List.set_cons_succ]
    refine tu (i:=8) ?_
    simp only [Act.put,List.setIfInBounds_toArray,List.set_cons_zero,List.set_cons_succ]
    refine tq 9 ?_;refine tq 10 ?_;refine tq 11 ?_;refine tq 12 ?_;refine tq 13 ?_;refine tq 14 ?_;refine tq 16 ?_;refine tq 17 ?_;refine tq 19 ?_;refine tq 20 ?_;refine tq 22 ?_;refine tq 23 ?_;refine tq 24 ?_;refine tq 25 ?_
    refine rc (i:=15) (fun K hK=>?_)
    go_simp
    refine (USED.out _ (by assumption)).mono ?_
    rintro e w3 ⟨rfl,k3⟩
    go_wp2_with fail
    refine hK.out _ _ (zhZ (by assumption) k3) (fun hHeld82=>?_)
    clear hK K
    try simp only [Act.put,List.setIfInBounds_toArray,List.set_cons_zero,List.set_cons_succ]
    refine tq 18 ?_;refine tq 21 ?_;refine tq 26 ?_;refine tq 27 ?_;refine tq 28 ?_
    refine wpAnyH_done (by as_aux_lemma=>kernel_rfl) ?_ _
    refine NoPanic.normal ?_
    go_simp
    have K3:=zz0 (zax k3)
    clear k3 hHeld
    go_wp2_with fail
    go_ret
    exact ⟨rfl,(K1.out.mono (fun i _ e=>by have e':i=p:=e;rw [e'];exact D.out.inF.1)).trans1 (K2.out.trans1 K3.out).ofNon,D1.out.keep (K2.out.trans1 K3.out) (fun _ _ e=>e)⟩
  | false =>
    have hh:has Y.shown (.string n)=false:=hhas
    unfold sv at hkey NM ⊢
    generalize hold:fget Y.shown n=old at hf2 hG2
    have HOLD:=zz0 hold
    clear hold
    generalize hus:fused Y.shown=us at hf2 hU2
    have HUS:=zz0 hus
    clear hus
    go_enter Tryz.func39,Tryz.ntmps39
    go_wp2_with (first
      | (go_at_call 89;refine W2.out.mono ?_;rintro e w1 ⟨rfl,k1,d1⟩;have c2:=dk_2 d1.blk;have c0:=dk_0 d1.blk;have M1:=zz0 d1.shown;have K1:=zz0 k1;have D1:=zz0 d1;clear k1 d1)
      | (at_lookup;refine zak rfl _ _ 132 rfl 44 law Tryz.underlying132 (hz _) [] (BsIn.fun1 _ T) (zaP _ _) rfl M1.out _ _ rfl hkey ?_;rw [hh];intro lv ly hlv hat;obtain rfl:ly=old:=(by have e:=HOLD.out;unfold fget at e;rw [hat] at e;exact e);obtain ⟨⟨la,lc,rfl,_⟩,_⟩:=hlv;rw [List.length_map];clear hat)
      | (go_at_call 77;refine (NM.out _).mono ?_;rintro e w2 ⟨rfl,k2⟩;have K2:=zz0 k2;clear k2;have B2:=K2.out.at D1.out.blk (fun e=>e);have e2:=dk_2 B2;have e0:=dk_0 B2;have M2:=zz0 (FlAt.keep M1.out K2.out (fun e=>e) (fun _ _ e=>e) (fun _ e=>e));clear B2))
    obtain ⟨es,clock,hes,hsz⟩:=zcO M2.out
    have LEN:∀ W:World,W.heap[h]? = some (.map es clock)→(Builtin.len_ #[132] 3 #[.map (some h)]).run Tryz.prog W = .ok (.int .i64 es.size) W:=fun W hW=>by simp [Builtin.len_,run_underlying Tryz.underlying132,MapKept.run_getObj_map hW,goInt,Result.andThen]
    have hs8:¬ (512:Int)≤(size Y.shown:Int):=by omega
    have hs6:¬ (512:Int)≤(es.size:Int):=by omega
    have hs7:¬ 512≤es.size:=by omega
    have S0:w2.drew.cell? ⟨p,0,none⟩=some (.int .i64 Y.room)∧w2.drew.cell? ⟨p,2,none⟩=some (.map (some h))∧w2.drew.heap[h]? = some (.map es clock)∧Keep Non w2 w2.drew:=⟨e0,e2,hes,(Keep.refl _ _).drew⟩
    have USED:Hid (∀ W,(W.cell? ⟨p,0,none⟩=some (.int .i64 Y.room)∧W.cell? ⟨p,2,none⟩=some (.map (some h))∧W.heap[h]? = some (.map es clock)∧Keep Non w2 W)→Calls Tryz.prog 90 #[.map (some h)] W fun e w'=>e = .returned (.int .i64 us)∧Keep Non W w'):=zz0 (fun W hW=>by
      have:=zdC T h Y.shown W (FlAt.keep M2.out hW.2.2.2 (fun e=>e) (fun _ _ e=>e) (fun _ e=>e)) (by rw [HUS.out];omega)
      rw [HUS.out] at this
      exact this)
    have wr1:IntKind.i64.wrap ((us:Int) - (ly.length:Int))=(us:Int) - (ly.length:Int):=IntWalk.i64_in _ (by omega)
    have wr2:IntKind.i64.wrap ((us:Int) - (ly.length:Int)+(b.length:Int))=(us:Int) - (ly.length:Int)+(b.length:Int):=IntWalk.i64_in _ (by omega)
    have wr3:(Y.room:Int) < (us:Int) - (ly.length:Int)+(b.length:Int):=by omega
    refine wp_region_noPanic ?_
    refine wp_region_held_drew (S:=fun W=>W.cell? ⟨p,0,none⟩=some (.int .i64 Y.room)∧W.cell? ⟨p,2,none⟩=some (.map (some h))∧W.heap[h]? = some (.map es clock)∧Keep Non w2 W) (by as_aux_lemma=>kernel_rfl) S0 (fun hHeld=>?_)
    refine tq 0 ?_;refine tq 1 ?_;refine tq 2 ?_;refine tq 3 ?_;refine tq 4 ?_;refine tq 5 ?_;refine tq 6 ?_;refine tq 7 ?_;refine tq 8 ?_;refine tq 9 ?_;refine tq 10 ?_;refine tq 11 ?_;refine tq 12 ?_;refine tq 13 ?_;refine tq 14 ?_;refine tq 16 ?_;refine tq 17 ?_;refine tq 19 ?_;refine tq 20 ?_;refine tq 22 ?_;refine tq 23 ?_;refine tq 24 ?_;refine tq 25 ?_
    refine rc (i:=15) (fun K hK=>?_)
    go_simp
    refine (USED.out _ (by assumption)).mono ?_
    rintro e w3 ⟨rfl,k3⟩
    go_wp2_with fail
    refine hK.out _ _ (zhZ (by assumption) k3) (fun hHeld111=>?_)
    clear hK K
    try simp only [Act.put,List.setIfInBounds_toArray,List.set_cons_zero,List.set_cons_succ]
    refine tq 18 ?_;refine tq 21 ?_;refine tq 26 ?_;refine tq 27 ?_;refine tq 28 ?_
    refine wpAnyH_done (by as_aux_lemma=>kernel_rfl) ?_ _
    refine NoPanic.normal ?_
    go_simp
    have K3:=zz0 (zax k3)
    clear k3 hHeld
    go_wp2_with fail
    go_ret
    exact ⟨rfl,(K1.out.mono (fun i _ e=>by have e':i=p:=e;rw [e'];exact D.out.inF.1)).trans1 (K2.out.trans1 K3.out).ofNon,D1.out.keep (K2.out.trans1 K3.out) (fun _ _ e=>e)⟩
end Go.Proofs.YtnboipdpccnedaaGreatDoor
namespace Go.Proofs
open Go.RowKit Go.Maps Go.Sort Go.Shelf
def Tryz.keys76_ren:Go.Shelf.Ren:=⟨fun | 7=>76 | 10=>142 | n=>n,fun | 23=>132 | 26=>9 | 3=>44 | 28=>157 | 0=>0 | 27=>156 | 33=>82 | 4=>4 | n=>n,fun | n=>n⟩
theorem Tryz.keys76:Go.Proofs.SlLaysZ.n7 Tryz.prog Tryz.keys76_ren:={
  mixed:=by kernel_rfl
  f7:=⟨Tryz.f76.name,by decide,Tryz.func76.trans (congrArg some (by kernel_rfl))⟩
  f10:=⟨Tryz.f142.name,by decide,Tryz.func142.trans (congrArg some (by kernel_rfl))⟩
  t0:=Tryz.underlying0
  a0:=Tryz.isAgg0
  z0:=Tryz.sizeOf0
  v0:=Tryz.zeroValue0
  t4:=Tryz.underlying4
  a4:=Tryz.isAgg4
  z4:=Tryz.sizeOf4
  v4:=Tryz.zeroValue4
  t23:=Tryz.underlying132
  a23:=Tryz.isAgg132
  z23:=Tryz.sizeOf132
  v23:=Tryz.zeroValue132
  t26:=Tryz.underlying9
  a26:=Tryz.isAgg9
  z26:=Tryz.sizeOf9
  v26:=Tryz.zeroValue9
  t27:=Tryz.underlying156
  a27:=Tryz.isAgg156
  z27:=Tryz.sizeOf156
  v27:=Tryz.zeroValue156
  t28:=Tryz.underlying157
  a28:=Tryz.isAgg157
  z28:=Tryz.sizeOf157
  v28:=Tryz.zeroValue157
  t33:=Tryz.underlying82
  a33:=Tryz.isAgg82
  z33:=Tryz.sizeOf82
  v33:=Tryz.zeroValue82 }
def Tryz.sorted75_ren:Go.Shelf.Ren:=⟨fun | 6=>75 | 8=>140 | 9=>141 | 11=>200 | 13=>174 | 12=>201 | 23=>243 | 24=>244 | 14=>269 | 15=>270 | 16=>271 | 17=>272 | 18=>273 | 19=>274 | 20=>275 | 21=>276 | 22=>277 | 25=>327 | 26=>306 | 27=>307 | 28=>328 | 29=>329 | 30=>330 | 31=>362 | n=>n,fun | 26=>9 | 28=>157 | 24=>34 | 0=>0 | 3=>3 | 37=>43 | 48=>167 | 50=>162 | 4=>4 | 40=>327 | 39=>326 | 45=>331 | 5=>5 | 9=>9 | 51=>386 | 55=>389 | 57=>421 | 58=>422 | 33=>82 | n=>n,fun | n=>n⟩
theorem Tryz.sorted75:Go.Proofs.SlLaysZ.n6 Tryz.prog Tryz.sorted75_ren:={
  mixed:=by kernel_rfl
  f6:=⟨Tryz.f75.name,by decide,Tryz.func75.trans (congrArg some (by kernel_rfl))⟩
  f8:=⟨Tryz.f140.name,by decide,Tryz.func140.trans (congrArg some (by kernel_rfl))⟩
  f11:=⟨Tryz.f200.name,by decide,Tryz.func200.trans (congrArg some (by kernel_rfl))⟩
  t0:=Tryz.underlying0
  a0:=Tryz.isAgg0
  z0:=Tryz.sizeOf0
  v0:=Tryz.zeroValue0
  t24:=Tryz.underlying34
  a24:=Tryz.isAgg34
  z24:=Tryz.sizeOf34
  v24:=Tryz.zeroValue34
  t26:=Tryz.underlying9
  a26:=Tryz.isAgg9
  z26:=Tryz.sizeOf9
  v26:=Tryz.zeroValue9
  t28:=Tryz.underlying157
  a28:=Tryz.isAgg157
  z28:=Tryz.sizeOf157
  v28:=Tryz.zeroValue157
  i26:=by kernel_rfl }
def Tryz.sort141_ren:Go.Shelf.Ren:=⟨fun | 6=>141 | 8=>174 | 9=>201 | 19=>243 | 20=>244 | 21=>269 | 22=>270 | 23=>271 | 24=>272 | 25=>273 | 26=>274 | 27=>275 | 28=>276 | 29=>277 | 36=>327 | 31=>306 | 32=>307 | 37=>328 | 38=>329 | 39=>330 | 41=>362 | n=>n,fun | 27=>34 | 29=>9 | 3=>3 | 32=>43 | 26=>34 | 0=>0 | 44=>167 | 46=>162 | 4=>4 | 36=>327 | 35=>326 | 41=>331 | 5=>5 | 9=>9 | 53=>386 | 57=>389 | 63=>421 | 64=>422 | n=>n,fun | n=>n⟩
theorem Tryz.sort141:Go.Proofs.SlLaysM.n6 Tryz.prog Tryz.sort141_ren:={
  mixed:=by kernel_rfl
  f6:=⟨Tryz.f141.name,by decide,Tryz.func141.trans (congrArg some (by kernel_rfl))⟩
  f8:=Tryz.func174.trans (congrArg some (by kernel_rfl))
  f9:=⟨Tryz.f201.name,by decide,Tryz.func201.trans (congrArg some (by kernel_rfl))⟩
  f19:=Tryz.func243.trans (congrArg some (by kernel_rfl))
  f20:=Tryz.func244.trans (congrArg some (by kernel_rfl))
  f21:=⟨Tryz.f269.name,by decide,Tryz.func269.trans (congrArg some (by kernel_rfl))⟩
  f22:=⟨Tryz.f270.name,by decide,Tryz.func270.trans (congrArg some (by kernel_rfl))⟩
  f23:=⟨Tryz.f271.name,by decide,Tryz.func271.trans (congrArg some (by kernel_rfl))⟩
  f24:=⟨Tryz.f272.name,by decide,Tryz.func272.trans (congrArg some (by kernel_rfl))⟩
  f25:=⟨Tryz.f273.name,by decide,Tryz.func273.trans (congrArg some (by kernel_rfl))⟩
  f26:=⟨Tryz.f274.name,by decide,Tryz.func274.trans (congrArg some (by kernel_rfl))⟩
  f27:=⟨Tryz.f275.name,by decide,Tryz.func275.trans (congrArg some (by kernel_rfl))⟩
  f28:=⟨Tryz.f276.name,by decide,Tryz.func276.trans (congrArg some (by kernel_rfl))⟩
  f29:=⟨Tryz.f277.name,by decide,Tryz.func277.trans (congrArg some (by kernel_rfl))⟩
  f31:=Tryz.func306.trans (congrArg some (by kernel_rfl))
  f32:=Tryz.func307.trans (congrArg some (by kernel_rfl))
  f36:=⟨Tryz.f327.name,by decide,Tryz.func327.trans (congrArg some (by kernel_rfl))⟩
  f37:=⟨Tryz.f328.name,by decide,Tryz.func328.trans (congrArg some (by kernel_rfl))⟩
  f38:=⟨Tryz.f329.name,by decide,Tryz.func329.trans (congrArg some (by kernel_rfl))⟩
  f39:=⟨Tryz.f330.name,by decide,Tryz.func330.trans (congrArg some (by kernel_rfl))⟩
  f41:=⟨Tryz.f362.name,by decide,Tryz.func362.trans (congrArg some (by kernel_rfl))⟩
  t0:=Tryz.underlying0
  a0:=Tryz.isAgg0
  z0:=Tryz.sizeOf0
  v0:=Tryz.zeroValue0
  t3:=Tryz.underlying3
  a3:=Tryz.isAgg3
  z3:=Tryz.sizeOf3
  v3:=Tryz.zeroValue3
  t4:=Tryz.underlying4
  a4:=Tryz.isAgg4
  z4:=Tryz.sizeOf4
  v4:=Tryz.zeroValue4
  t5:=Tryz.underlying5
  a5:=Tryz.isAgg5
  z5:=Tryz.sizeOf5
  v5:=Tryz.zeroValue5
  t9:=Tryz.underlying9
  a9:=Tryz.isAgg9
  z9:=Tryz.sizeOf9
  v9:=Tryz.zeroValue9
  t26:=Tryz.underlying34
  a26:=Tryz.isAgg34
  z26:=Tryz.sizeOf34
  v26:=Tryz.zeroValue34
  t27:=Tryz.underlying34
  a27:=Tryz.isAgg34
  z27:=Tryz.sizeOf34
  v27:=Tryz.zeroValue34
  t29:=Tryz.underlying9
  a29:=Tryz.isAgg9
  z29:=Tryz.sizeOf9
  v29:=Tryz.zeroValue9
  t32:=Tryz.underlying43
  a32:=Tryz.isAgg43
  z32:=Tryz.sizeOf43
  v32:=Tryz.zeroValue43
  t35:=Tryz.underlying326
  a35:=Tryz.isAgg326
  z35:=Tryz.sizeOf326
  v35:=Tryz.zeroValue326
  t36:=Tryz.underlying327
  a36:=Tryz.isAgg327
  z36:=Tryz.sizeOf327
  v36:=Tryz.zeroValue327
  t41:=Tryz.underlying331
  a41:=Tryz.isAgg331
  z41:=Tryz.sizeOf331
  v41:=Tryz.zeroValue331
  t44:=Tryz.underlying167
  a44:=Tryz.isAgg167
  z44:=Tryz.sizeOf167
  v44:=Tryz.zeroValue167
  t46:=Tryz.underlying162
  a46:=Tryz.isAgg162
  z46:=Tryz.sizeOf162
  v46:=Tryz.zeroValue162
  t53:=Tryz.underlying386
  a53:=Tryz.isAgg386
  z53:=Tryz.sizeOf386
  v53:=Tryz.zeroValue386
  t57:=Tryz.underlying389
  a57:=Tryz.isAgg389
  z57:=Tryz.sizeOf389
  v57:=Tryz.zeroValue389
  t63:=Tryz.underlying421
  a63:=Tryz.isAgg421
  z63:=Tryz.sizeOf421
  v63:=Tryz.zeroValue421
  t64:=Tryz.underlying422
  a64:=Tryz.isAgg422
  z64:=Tryz.sizeOf422
  v64:=Tryz.zeroValue422 }
theorem Tryz.sorts75 (m:Nat):AnyZ.SortsIn Tryz.prog Tryz.sorted75_ren Fence.wide m :=
  ⟨fun blk off cap ss W hH hblk hsz=>callsIn_wide.2 (AnyM.slices_Sort_string Tryz.sort141 blk off cap ss W hH hblk hsz),
   fun p cap W=>callsIn_wide.2 (AnyM.slices_Sort_string_none Tryz.sort141 p cap W)⟩
theorem Tryz.maps_Keys_76 (mb:Option Nat) (W:World):CallsIn Fence.wide 5 Tryz.prog 76 #[.map mb] W fun e w'=>e = .returned (.func (.func 142) #[] #[.pointer (some ⟨W.heap.size,0,none⟩)])∧w'=W.alloc (.cells #[.map mb] 132) :=
  AnyZ.keys_in Tryz.keys76 Fence.wide 5 trivial rfl mb W
theorem Tryz.slices_Sorted_keys_75_76 {H:Type} (b nn:Nat) (D0:DataW H) (R:Value→Option (DataW H × List MemPlace)) (w:World) (hown:w.ownsMap Tryz.prog 9 R b nn D0) (hmax:Maps.size D0≤maxLen) (hbytes:Maps.size D0 * 16≤140737488355328) :
    CallsIn Fence.wide 5 Tryz.prog 75 #[.func (.func 142) #[] #[.pointer (some ⟨w.heap.size,0,none⟩)]] (w.alloc (.cells #[.map (some b)] 132)) fun e w'=>∃ (v:Value) (ss:List (List UInt8)),e = .returned v∧ss.Perm (strKeys D0) ∧
      w'.ownsRow (w.alloc (.cells #[.map (some b)] 132)).heap.size 9 1 v ss.length ((ss.mergeSort (fun x y=>decide (x≤y))).map encStr)∧(v = .slice none 0 0 ↔ ss = [])∧Below (w.alloc (.cells #[.map (some b)] 132)).heap.size (w.alloc (.cells #[.map (some b)] 132)) w':=by
  have hbl:=hown.lt
  have hseq:SeqGives Fence.wide 2 Tryz.prog 142 #[.pointer (some ⟨w.heap.size,0,none⟩)] encStr (fun ss=>ss.Perm (strKeys D0)) (Maps.size D0) (w.alloc (.cells #[.map (some b)] 132)) :=
    AnyZ.keys_gives (ρ:=Tryz.keys76_ren) { Tryz.keys76 with } Fence.wide _ trivial rfl (by omega) w.heap.size b nn D0 _ (by simp) (by simp) (by
      obtain ⟨es,clock,hb,Ft,hs,hD⟩:=hown
      exact ⟨es,clock,(Below.heap_alloc _ _ b hbl).trans hb,Ft,hs,hD⟩)
  exact AnyZ.sorted_in Tryz.sorted75 Fence.wide 5 trivial trivial trivial trivial rfl (by omega) (Tryz.sorts75 _) (enters_of Tryz.func141 (by kernel_rfl) rfl) 142 #[.pointer (some ⟨w.heap.size,0,none⟩)] trivial (enters_of Tryz.func142 (by kernel_rfl) rfl) _ _ hmax hbytes _ hseq
end Go.Proofs
namespace Go.Proofs.YtnboipdpccnedaaGreatDoor
open Go.RowKit Go.Maps
theorem zkb (D:Fl) (n:Byt):(fget D n).length≤fused D:=by
  cases D with
  | map es =>
    unfold fget fused
    simp only [DataW.atKey]
    induction es with
    | nil=>simp [heldB]
    | cons y r ih =>
      rw [List.find?_cons]
      split
      · rename_i q h
        split at h
        · injection h with h;subst h;simp
        · rename_i h2
          have h3:(heldB q.2).length≤(r.map (fun p=>(heldB p.2).length)).sum:=by
            have:=ih
            rw [h] at this
            exact this
          simp only [List.map_cons,List.sum_cons]
          omega
      · simp [heldB]
  | _=>simp [fget,DataW.atKey,heldB]
def Dk.mild (X:Dk):Prop:=size X.shown < 512∧X.pend.length≤1000∧fused X.shown≤500000000∧X.fuse≤1000000000
def DiskTo (F:Nat→Prop) (w:World) (p:Nat) (X:Dk) (w':World):Prop:=Keep F w w'∧∃ F',Sub F' F w∧DiskAt F' w' p X
theorem zb5 {F T:Nat→Prop} {w w':World} {p s h:Nat} {pv:Value} {X:Dk} (d:DiskIn F T w p s h pv X) (k:Keep (One p) w w'):Keep F w w':=k.mono (fun i _ e=>by have e':i=p:=e;rw [e'];exact d.inF.1)
theorem zmd (F:Nat→Prop) (p:Nat) (v:Value) (n b:Byt) (X:Dk) (w:World) (d:DiskAt F w p X) (hm:X.mild) (hn:okName n) (hv:Bs w v b) (hb:b.length≤65536) (hnp:∀ g,v.ownBlock=some g→¬ F g) :
    Calls Tryz.prog 39 #[.pointer (some ⟨p,0,none⟩),sv n,v] w fun e w'=>e = .returned (errv (X.write n b).1)∧DiskTo F w p (X.write n b).2 w':=by
  obtain ⟨T,s,h,pv,d⟩:=d
  obtain ⟨m1,m2,m3,m4⟩:=hm
  obtain ⟨r1,r2,r3,r4⟩:=zav X
  rcases zbV X with hw | hw
  · by_cases hf:X.works.2.full n b
    · have e:X.write n b=(5,X.works.2):=by unfold Dk.write;rw [if_neg (by omega),if_neg (by omega),if_pos hf]
      rw [e]
      have hover:X.works.2.room+(fget X.works.2.shown n).length < fused X.works.2.shown+b.length:=by
        rcases hf with ⟨_,h2⟩ | h2
        · rw [r2] at h2;omega
        · exact h2
      refine (zg4 F T p s h pv v n b X w d hw m4 hv hn hb (by omega) (by omega) (by omega) (by have:=zkb X.shown n;omega) m1 hover).mono ?_
      rintro e w' ⟨rfl,k,d'⟩
      exact ⟨rfl,k,F,Sub.refl _ _,T,s,h,pv,d'⟩
    · have e:X.write n b=(0,X.works.2.add (.write n b)):=by unfold Dk.write;rw [if_neg (by omega),if_neg (by omega),if_neg hf]
      rw [e]
      refine (zj3 F T p s h pv v n b X w d hw m4 hv hn hb (by omega) (by omega) (by omega) (by have:=zkb X.shown n;omega) hf (fun g e e2=>hnp g e (e2 ▸ d.inF.1))).mono ?_
      rintro e w' ⟨rfl,k,F',hF',d'⟩
      exact ⟨rfl,k,F',hF',d'⟩
  · have e:X.write n b=X.works:=by unfold Dk.write;rw [if_pos (by omega)]
    rw [e,hw]
    refine (zj2 F T p s h pv v n X w d m4 hw).mono ?_
    rintro e w' ⟨rfl,k,d'⟩
    exact ⟨rfl,zb5 d k,F,Sub.refl _ _,T,s,h,pv,d'⟩
theorem zg3 (F:Nat→Prop) (p:Nat) (X:Dk) (w:World) (d:DiskAt F w p X) (hm:X.fuse≤1000000000) :
    Calls Tryz.prog 40 #[.pointer (some ⟨p,0,none⟩)] w fun e w'=>e = .returned (errv X.sync.1)∧DiskTo F w p X.sync.2 w':=by
  obtain ⟨T,s,h,pv,d⟩:=d
  obtain ⟨r1,r2,r3,r4⟩:=zav X
  rcases zbV X with hw | hw
  · have e:X.sync=(0,{ X.works.2 with sure:=X.works.2.shown,pend:=[] }):=by unfold Dk.sync;rw [if_neg (by omega)]
    rw [e,r2]
    refine (zmc F T p s h pv X w d hm hw).mono ?_
    rintro e w' ⟨rfl,k,s',hs',d'⟩
    exact ⟨rfl,zb5 d k,_,fun g e=>by rcases e with e | e;exact .inl e;exact .inr (by omega),T,s',h,_,d'⟩
  · have e:X.sync=X.works:=by unfold Dk.sync;rw [if_pos (by omega)]
    rw [e,hw]
    refine (zmb F T p s h pv X w d hm hw).mono ?_
    rintro e w' ⟨rfl,k,d'⟩
    exact ⟨rfl,zb5 d k,F,Sub.refl _ _,T,s,h,pv,d'⟩
theorem ziK (F T:Nat→Prop) (p s h:Nat) (pv:Value) (n m:Byt) (X:Dk) (w:World) (d:DiskIn F T w p s h pv X) (hf:X.fuse≤1000000000) (hw:X.works.1=14) :
    Calls Tryz.prog 41 #[.pointer (some ⟨p,0,none⟩),sv n,sv m] w fun e w'=>e = .returned (.iface 55 (.int .i64 14))∧Keep (One p) w w'∧DiskIn F T w' p s h pv X.works.2:=by
  have W:=zaE F T p s h pv X w d hf
  rw [hw] at W
  have W2:Hid (Calls Tryz.prog 89 #[.pointer (some ⟨p,0,none⟩)] w fun e w'=>e = .returned (.iface 55 (.int .i64 14))∧Keep (One p) w w'∧DiskIn F T w' p s h pv X.works.2):=W
  clear W d
  go_enter Tryz.func41,Tryz.ntmps41
  go_wp2_with (go_at_call 89;refine W2.out.mono ?_;rintro e w1 ⟨rfl,k1,d1⟩;have K1:=zz0 k1;have D1:=zz0 d1;clear k1 d1)
  go_ret
  exact ⟨rfl,K1.out,D1.out⟩
theorem ziI (F T:Nat→Prop) (p s h:Nat) (pv:Value) (n:Byt) (X:Dk) (w:World) (d:DiskIn F T w p s h pv X) (hf:X.fuse≤1000000000) (hw:X.works.1=14) :
    Calls Tryz.prog 92 #[.pointer (some ⟨p,0,none⟩),sv n] w fun e w'=>e = .returned (.iface 55 (.int .i64 14))∧Keep (One p) w w'∧DiskIn F T w' p s h pv X.works.2:=by
  have W:=zaE F T p s h pv X w d hf
  rw [hw] at W
  have W2:Hid (Calls Tryz.prog 89 #[.pointer (some ⟨p,0,none⟩)] w fun e w'=>e = .returned (.iface 55 (.int .i64 14))∧Keep (One p) w w'∧DiskIn F T w' p s h pv X.works.2):=W
  clear W d
  go_enter Tryz.func92,Tryz.ntmps92
  go_wp2_with (go_at_call 89;refine W2.out.mono ?_;rintro e w1 ⟨rfl,k1,d1⟩;have K1:=zz0 k1;have D1:=zz0 d1;clear k1 d1)
  go_ret
  exact ⟨rfl,K1.out,D1.out⟩
theorem zj0 (F:Nat→Prop) (p:Nat) (n m:Byt) (X:Dk) (w:World) (d:DiskAt F w p X) (hm:X.mild) (hn:okName n) (hn2:okName m) :
    Calls Tryz.prog 41 #[.pointer (some ⟨p,0,none⟩),sv n,sv m] w fun e w'=>e = .returned (errv (X.rename n m).1)∧DiskTo F w p (X.rename n m).2 w':=by
  obtain ⟨T,s,h,pv,d⟩:=d
  obtain ⟨m1,m2,m3,m4⟩:=hm
  obtain ⟨r1,r2,r3,r4⟩:=zav X
  rcases zbV X with hw | hw
  · cases hh:fhas X.shown n with
    | true =>
      have e:X.rename n m=(0,X.works.2.add (.rename n m)):=by unfold Dk.rename;rw [if_neg (by omega),if_pos (by rw [r2];exact hh)]
      rw [e]
      refine (ziL F T p s h pv n m X w d hw m4 hn hn2 (by omega) (by omega) hh).mono ?_
      rintro e w' ⟨rfl,k,F',hF',d'⟩
      exact ⟨rfl,k,F',hF',d'⟩
    | false =>
      have e:X.rename n m=(4,X.works.2):=by unfold Dk.rename;rw [if_neg (by omega),if_neg (by rw [r2,hh];decide)]
      rw [e]
      refine (zgd F T p s h pv n m X w d hw m4 hn hn2 (by omega) (by omega) hh).mono ?_
      rintro e w' ⟨rfl,k,d'⟩
      exact ⟨rfl,zb5 d k,F,Sub.refl _ _,T,s,h,pv,d'⟩
  · have e:X.rename n m=X.works:=by unfold Dk.rename;rw [if_pos (by omega)]
    rw [e,hw]
    refine (ziK F T p s h pv n m X w d m4 hw).mono ?_
    rintro e w' ⟨rfl,k,d'⟩
    exact ⟨rfl,zb5 d k,F,Sub.refl _ _,T,s,h,pv,d'⟩
theorem zgc (F:Nat→Prop) (p:Nat) (n:Byt) (X:Dk) (w:World) (d:DiskAt F w p X) (hm:X.mild) (hn:okName n) :
    Calls Tryz.prog 92 #[.pointer (some ⟨p,0,none⟩),sv n] w fun e w'=>e = .returned (errv (X.remove n).1)∧DiskTo F w p (X.remove n).2 w':=by
  obtain ⟨T,s,h,pv,d⟩:=d
  obtain ⟨m1,m2,m3,m4⟩:=hm
  obtain ⟨r1,r2,r3,r4⟩:=zav X
  rcases zbV X with hw | hw
  · cases hh:fhas X.shown n with
    | true =>
      have e:X.remove n=(0,X.works.2.add (.remove n)):=by unfold Dk.remove;rw [if_neg (by omega),if_pos (by rw [r2];exact hh)]
      rw [e]
      refine (ziJ F T p s h pv n X w d hw m4 hn (by omega) (by omega) hh).mono ?_
      rintro e w' ⟨rfl,k,F',hF',d'⟩
      exact ⟨rfl,k,F',hF',d'⟩
    | false =>
      have e:X.remove n=(4,X.works.2):=by unfold Dk.remove;rw [if_neg (by omega),if_neg (by rw [r2,hh];decide)]
      rw [e]
      refine (zgb F T p s h pv n X w d hw m4 hn (by omega) (by omega) hh).mono ?_
      rintro e w' ⟨rfl,k,d'⟩
      exact ⟨rfl,zb5 d k,F,Sub.refl _ _,T,s,h,pv,d'⟩
  · have e:X.remove n=X.works:=by unfold Dk.remove;rw [if_pos (by omega)]
    rw [e,hw]
    refine (ziI F T p s h pv n X w d m4 hw).mono ?_
    rintro e w' ⟨rfl,k,d'⟩
    exact ⟨rfl,zb5 d k,F,Sub.refl _ _,T,s,h,pv,d'⟩
end Go.Proofs.YtnboipdpccnedaaGreatDoor
