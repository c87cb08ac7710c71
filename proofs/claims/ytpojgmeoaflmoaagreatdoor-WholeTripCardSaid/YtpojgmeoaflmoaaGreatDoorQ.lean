/- DERIVED. WholeTrip: for every input the law's Go function returns true, and each argument reads as it did; the package-level variables that the law's code names start as the program's text lays them (the card ties them). No other condition. -/
import Derived.Test.YtpojgmeoaflmoaaGreatDoorTie
import Derived.Test.YtpojgmeoaflmoaaGreatDoorCards
import Derived.ShutString
import Derived.Below
import Derived.Test.YtpojgmeoaflmoaaGreatDoorQ50
import Derived.Test.YtpojgmeoaflmoaaGreatDoorQ51
set_option linter.unusedVariables false
set_option maxRecDepth 100000
set_option maxHeartbeats 16000000
namespace Go.Proofs.YtpojgmeoaflmoaaGreatDoor.wholeTrip
open Go.ChangeShapes Go.WideShapes Go.ChangeAt Go.RowKit Go.Deep
open Go.ChangeMaps (open_string shut_string)
theorem lifted (os:Os)(started:os.Started)(H:Type)(enc:TypeId×Value→H) :
 ReturnsInHanded {} Tryz.checked os 3 .any (fun w args=>(Rows.wholeTripSpec.pre enc Tryz.prog Tryz.f3 [] false w args∧laidMetH Tryz.prog laid9 w)∧sizedMet enc Tryz.prog Tryz.f3 (OpenSpec.ofChange Rows.wholeTripSpec) false w args) (Rows.wholeTripSpec.post enc Tryz.prog Tryz.f3 false true false false):=by
 refine returnsInHanded_of_change_and (C:=Tryz.checked) (X:=fun w _=>laidMetH Tryz.prog laid9 w) (fun _ _ _ hh h=>h.of_heap hh) own started (by kernel_rfl) Tryz.func3
  (ChangeSpec.witness_shaped (enc:=enc) (C:=Tryz.checked) (os:=os) (X:=fun w _=>laidMetH Tryz.prog laid9 w) false (World.laidAll Tryz.prog os laid9) #[.slice none 0 0,.agg #[.slice none 0 0,.slice none 0 0,.int .i64 0],.slice none 0 0] 8 (World.laidAll_os _ _ _)
    (World.shaped_of_ZipB (by kernel_rfl) (by kernel_rfl)) (by kernel_rfl) (by kernel_rfl) (by kernel_rfl)
    (by rw[MakeChecks.laidMetH_plain _ _ _ (by kernel_rfl)];exact laidMet_laidAll _ (by kernel_rfl) (by kernel_rfl))) ?_
 intro W base args ds gs before hval0 hW _ _ hL _;have hval:∀(j:Nat) t v,Tryz.f3.params[j]? = some t→args[j]? = some v→Value.okWide Tryz.prog W .any base t v:=hval0;have hW':=hW;obtain⟨p,q,hA0,hV,rfl,hfz,hnd⟩:=hW;have hA:DataW.TrodAll enc Tryz.prog W 0 (fun _=>true) true Tryz.f3.params.toList args.toList ds p:=hA0
 rw[Tryz.params3] at hA hval;obtain⟨v0,vs0,d0,ds0,p0,q0,hargs,rfl,rfl,h0,r0⟩:=trodAll_cons hA;obtain⟨v1,vs1,d1,ds1,p1,q1,rfl,rfl,rfl,h1,r1⟩:=trodAll_cons r0;obtain⟨v2,vs2,d2,ds2,p2,q2,rfl,rfl,rfl,h2,r2⟩:=trodAll_cons r1;obtain⟨rfl,rfl,rfl⟩:=trodAll_nil r2;obtain rfl:args = #[v0,v1,v2]:=by cases args;simp_all
 obtain⟨rfl,rfl⟩:=trodVars_none hV;have k0:=h0;have lt0:∀x ∈ p0,x.block<W.heap.size:=by obtain⟨m,hm⟩:=k0;exact DataW.trod_lt m _ _ _ hm
 have k1:=h1;have lt1:∀x ∈ p1,x.block<W.heap.size:=by obtain⟨m,hm⟩:=k1;exact DataW.trod_lt m _ _ _ hm
 have k2:=h2;have lt2:∀x ∈ p2,x.block<W.heap.size:=by obtain⟨m,hm⟩:=k2;exact DataW.trod_lt m _ _ _ hm
 obtain⟨x0,len0,cap0,rfl⟩:=okWide_slice Tryz.underlying22 (hval 0 22 v0 rfl rfl);obtain⟨cl0,hc0,hm0⟩:∃cl,zbF W (.slice x0 len0 cap0) cl∧cl.length≤maxLen:=by obtain⟨m,hm⟩:=h0;exact zkp (by simpa [Value.cells] using hm)
 obtain⟨ea,ta,el,ec,tl,tc,N,es,ts,rfl,hre,hrt⟩:=zmc (hval 1 25 v1 rfl rfl) h1;obtain⟨x2,len2,cap2,rfl⟩:=okWide_slice Tryz.underlying23 (hval 2 23 v2 rfl rfl);obtain⟨es2,hr2⟩:∃es:List Int,Rd W (.slice x2 len2 cap2) (es.map (fun x=>Value.int .i64 x)):=by obtain⟨m,hm⟩:=h2;exact zfl (by simpa [Value.cells] using hm)
 obtain⟨hlay,h10⟩:=zpN hL;clear hA0 hval0;refine(zkZ _ _ _ _ cl0 es ts es2 N W hc0 (Nat.le_trans hm0 (by decide)) hre hrt hr2 hlay h10).mono fun e W' ⟨he,bel0⟩=>?_
 have bel:=bel0.below;subst he;exact⟨_,rfl,_,_,_,[],_,[],hW',trodAll_mk1 (shut_bool Tryz.underlying4 _),(trodAll_cons_mk (Below.trod laidOut (by kernel_rfl) (of_decide_eq_true (by kernel_rfl)) k0 bel lt0) (trodAll_cons_mk (Below.trod laidOut (by kernel_rfl) (of_decide_eq_true (by kernel_rfl)) k1 bel lt1) (trodAll_cons_mk (Below.trod laidOut (by kernel_rfl) (of_decide_eq_true (by kernel_rfl)) k2 bel lt2) trodAll_mk0))),rfl,bel.frame _,fun h=>by cases h⟩
theorem over:Rows.wholeTripRow.holds Tryz.pinned (OpenSpec.ofChange Rows.wholeTripSpec) :=
 OpenClaim.holds_of_wide 3 Tryz.f3 rfl rfl rfl rfl rfl rfl rfl ⟨rfl,rfl,rfl,rfl,rfl⟩ rfl rfl rfl rfl rfl nameOf Tryz.func3 closed
  (of_decide_eq_true (by kernel_rfl)) (by unfold Func.isWrapper;first|(rw[if_pos (by decide +kernel)];kernel_rfl)|(rw[if_neg (by decide +kernel)];exact⟨rfl,rfl⟩))
  (fun os started H enc _=>lifted os started H enc)
theorem said:Rows.WholeTripSaid:=over
theorem proved:Rows.WholeTripCardSaid :=
 Claim7.holds_tied_plain_at .later [] [.data,.data,.data,.data,.sentinel,.sentinel,.data,.data,.pinned] true (true,"1b3454584cbf7f456faeb1422643d437df98e241d406892023e13a473173c930") true
  said (fun _ h=>by cases h) byText (fun _ h=>by cases h) wholeTrip_row_tie rfl ⟨rfl,rfl⟩ mainOf rfl
  (fun f fn hf hfn=>by
    obtain rfl:f=3:=Option.some.inj (nameOf.symm.trans hf) |>.symm
    obtain rfl:fn=Tryz.f3:=(Option.some.inj (Tryz.func3.symm.trans hfn)).symm;exact⟨looksOf,fun j t ht=>by
     rw[Tryz.params3] at ht;have hm:t ∈ [22,25,23]:=by simpa using Array.mem_of_getElem? ht
     have hall:([22,25,23].all fun u=>!Tryz.prog.wantsStandIn u)=true:=by kernel_rfl
     exact(show Tryz.prog.wantsStandIn t=false by simpa using List.all_eq_true.1 hall t hm)⟩)
  (zlJ rfl nogo)
#print axioms proved
end Go.Proofs.YtpojgmeoaflmoaaGreatDoor.wholeTrip
