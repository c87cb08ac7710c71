/- cursor.Done, Save, Clear, Load where there is none: walked. · vault.Open, where there is no manifest: walked. -/
import Derived.Lib.IfaceEq
import Derived.Test.YtnboipdpccnedaaGreatDoorQ24
set_option linter.unusedVariables false
set_option maxRecDepth 100000
set_option maxHeartbeats 16000000
namespace Go.Proofs.YtnboipdpccnedaaGreatDoor
open Go.RowKit Go.Maps
theorem zd4 (i j:Int) (w:World):(binOp .eql 36 (.iface 55 (.int .i64 i)) (.iface 55 (.int .i64 j))).run Tryz.prog w = .ok (.bool (i == j)) w :=
  Lib.run_eql_iface_int w i j Tryz.underlying36 (by kernel_rfl) Tryz.underlying55
theorem zd5 (j:Int) (w:World):(binOp .eql 36 .nilIface (.iface 55 (.int .i64 j))).run Tryz.prog w = .ok (.bool false) w:=by
  have h:∀ d:Nat,(Op.equalIn (d+1) 36 .nilIface (.iface 55 (.int .i64 j))).run Tryz.prog w = .ok false w:=fun d=>by simp [Op.equalIn,run_underlying Tryz.underlying36]
  simp only [binOp]
  simp [Op.equal,Op.maxDepth,h 9999]
theorem zeX (c:Cu) (a:Option Addr) (n k:Nat) (w:World) :
    Calls Tryz.prog 135 #[cuV c (.slice a n k)] w fun e w'=>e = .returned (.bool (decide (c.next=c.hi)))∧Keep Non w w':=by
  unfold cuV
  go_enter Tryz.func135,Tryz.ntmps135
  go_wp2_with fail
  go_ret
  refine ⟨congrArg (fun b=>Ending.returned (.bool b)) ?_,(Keep.refl _ _).alloc _⟩
  show ((c.next:Int) == c.hi)=_
  by_cases h:c.next=c.hi
  · simp [h]
  · simp [h];omega
theorem zcj (F:Nat→Prop) (q p:Nat) (c:Cu) (pv:Value) (n:Byt) (X:Dk) (a k f:Nat) (w:World) (d:StoreAt F w q p X) (hl:X.lim a k f) (ha:a≤505) (hk:k≤990) (hf:f≤400000000) (hF:∀ g,F g→g < w.heap.size)
    (hn:okObj n) (h:okCu c) (hp:PtsAt w pv c.parts) (hb:(cuBy c).length≤65536) :
    Calls Tryz.prog 69 #[.pointer (some ⟨q,0,none⟩),sv n,cuV c pv] w fun e w'=>e = .returned (errv (X.sput n (cuBy c)).1)∧StoreTo F w q p (X.sput n (cuBy c)).2 w':=by
  have PU:=zz0 (fun w1 (k:Keep Non w w1)=>zl7 c pv w1 h (hp.keepNon k))
  have SP:Hid (∀ w2 v,Keep Non w w2→Bs w2 v (cuBy c)→(∀ g,v.ownBlock=some g→w.heap.size≤g)→Calls Tryz.prog 14 #[.pointer (some ⟨q,0,none⟩),.string ⟨n.toArray⟩,v] w2 fun e w'=>e = .returned (errv (X.sput n (cuBy c)).1)∧StoreTo F w q p (X.sput n (cuBy c)).2 w'):=zz0 (fun w2 v k2 hv hg=>by
    refine (zcX F q p v n (cuBy c) X a k f w2 (d.keep k2 (fun _ _ e=>e)) hl ha hk hf hn hv hb (fun g e e2=>by have:=hg g e;have:=hF g e2;omega)).mono ?_
    rintro e w' ⟨rfl,t⟩
    exact ⟨rfl,StoreTo.trans (Sub.refl _ _) k2.ofNon t⟩)
  obtain ⟨ra,rk,rfl,_,_,_⟩:=hp
  clear d hl hF h
  generalize (X.sput n (cuBy c)).1=code at SP ⊢
  generalize (X.sput n (cuBy c)).2=Y at SP ⊢
  unfold cuV sv at *
  go_enter Tryz.func69,Tryz.ntmps69
  go_wp2_with (first
    | (go_at_call 134;refine (PU.out _ ((Keep.refl _ _).alloc _)).mono ?_;rintro e w1 ⟨v1,rfl,k1,o1⟩;obtain ⟨a1,c1,rfl,_,_⟩:=zaa o1;have b1:=nonAt k1 (zab w (CuB c (.slice ra c.parts.length rk)));have K1:=zz0 (((Keep.refl Non w).alloc _).trans1 k1);have O1:=zz0 o1;clear k1 o1 b1)
    | (go_at_call 14;refine (SP.out w1 _ K1.out (Rd.ofOwns O1.out) (fun g e=>by have:=(O1.out.lt g e).1;simp at this;omega)).mono ?_;rintro e w2 ⟨rfl,t2⟩;have T2:=zz0 t2;clear t2))
  go_ret
  exact ⟨rfl,T2.out⟩
theorem zdX (F:Nat→Prop) (q p:Nat) (n:Byt) (X:Dk) (w:World) (d:StoreAt F w q p X) (hm:X.mild) (hmap:IsMap X.shown) (hn:okObj n) :
    Calls Tryz.prog 73 #[.pointer (some ⟨q,0,none⟩),sv n] w fun e w'=>e = .returned (errv (if (X.sdel n).1=4 then 0 else (X.sdel n).1))∧StoreTo F w q p (X.sdel n).2 w':=by
  have SD:=zz0 (zm7 F q p n X w d hm hmap hn)
  clear d hm hmap
  have hee:=fun (i:Int)=>zd4 i 4
  have hne:=zd5 4
  generalize (X.sdel n).1=code at SD ⊢
  generalize (X.sdel n).2=Y at SD ⊢
  by_cases h0:code=0
  · rw [if_neg (by omega)]
    have e0:=zbe h0
    rw [e0] at SD ⊢
    unfold sv at *
    go_enter Tryz.func73,Tryz.ntmps73
    go_wp2_with (go_at_call 139;refine SD.out.mono ?_;rintro e w1 ⟨rfl,t1⟩;have T1:=zz0 t1;clear t1)
    go_ret
    exact ⟨rfl,T1.out⟩
  · by_cases h4:code=4
    · subst h4
      rw [if_pos rfl,zaK]
      have e0:=zaU (c:=4) (by decide)
      rw [e0] at SD
      unfold sv at *
      go_enter Tryz.func73,Tryz.ntmps73
      go_wp2_with (go_at_call 139;refine SD.out.mono ?_;rintro e w1 ⟨rfl,t1⟩;have T1:=zz0 t1;clear t1)
      go_ret
      exact ⟨rfl,T1.out⟩
    · rw [if_neg h4]
      have e0:=zaU h0
      rw [e0] at SD ⊢
      have hc4:(code == 4)=false:=by simpa using h4
      unfold sv at *
      go_enter Tryz.func73,Tryz.ntmps73
      go_wp2_with (go_at_call 139;refine SD.out.mono ?_;rintro e w1 ⟨rfl,t1⟩;have T1:=zz0 t1;clear t1)
      go_ret
      exact ⟨rfl,T1.out⟩
theorem zdY (F:Nat→Prop) (q p:Nat) (n:Byt) (X:Dk) (w:World) (d:StoreAt F w q p X) (hn:okObj n) (hd:X.down=false) (hh:fhas X.shown n=false) :
    Calls Tryz.prog 128 #[.pointer (some ⟨q,0,none⟩),sv n] w fun e w'=>e = .returned (.tuple #[.agg #[.int .i64 0,.int .i64 0,.int .i64 0,.int .i64 0,.slice none 0 0],.bool false,.nilIface])∧Keep Non w w':=by
  have G:=zz0 (fun w1 (k:Keep Non w w1)=>zcW F q p n X w1 (d.keep k (fun _ _ e=>e)) hn hd hh)
  have hee:=zd4 4 4
  rw [show ((4:Int) == 4)=true from rfl] at hee
  clear d
  unfold sv at *
  go_enter Tryz.func128,Tryz.ntmps128
  go_wp2_with (go_at_call 11;refine (G.out _ ((Keep.refl _ _).alloc _)).mono ?_;rintro e w1 ⟨rfl,k1⟩;have b1:=nonAt k1 (zab w (CuB ⟨0,0,0,0,[]⟩ (.slice none 0 0)));have K1:=zz0 (((Keep.refl Non w).alloc _).trans1 k1);have B1:=zz0 b1;have i0':=cu_0 b1;have i1':=cu_1 b1;have i2':=cu_2 b1;have i3':=cu_3 b1;have i4':=cu_4 b1;have j0':=cu_f b1 0;have j1':=cu_f b1 1;have j2':=cu_f b1 2;have j3':=cu_f b1 3;have j4':=cu_f b1 4;clear k1 b1)
  obtain ⟨r0,r1,r2,r3,r4,kf⟩:=zfo B1.out (.int .i64 0) (.int .i64 0) (.int .i64 0) (.int .i64 0) (.slice none 0 0) _ rfl
  refine bodyPost_ret (v:=.tuple #[.agg #[.int .i64 0,.int .i64 0,.int .i64 0,.int .i64 0,.slice none 0 0],.bool false,.nilIface]) (by simp [results,Tryz.results128,go_sem,r0,r1,r2,r3,r4]) rfl ?_
  exact ⟨rfl,K1.out.trans kf (fun _ _ e=>e) (fun g hg e=>by have e':g=w.heap.size:=e;omega)⟩
section
attribute [local go_sem ↓] hV84 hV106 hV87 hW84 hW106 hW87 hB106 hB87
theorem znv (F0:Nat→Prop) (p:Nat) (X:Dk) (a k f:Nat) (w:World) (d0:DiskAt F0 w p X) (hd:X.free) (hl:X.lim a k f) (ha:a≤505) (hk:k+a≤990) (hf:f≤400000000) (ht:X.tidy) (hh:fhas X.shown (titleN 0)=false) :
    Calls Tryz.prog 15 #[.pointer (some ⟨p,0,none⟩)] w fun e w'=>∃ b q,e = .returned (.tuple #[.pointer (some ⟨b,0,none⟩),.nilIface])∧w'.heap[b]? = some (VtB q (.slice none 0 0))∧Keep F0 w w'∧w.heap.size≤b∧∃ F',Sub F' F0 w∧¬ F' b∧(∀ g,F' g→g < w'.heap.size)∧StoreAt F' w' q p X:=by
  have SO:Hid (Calls Tryz.prog 42 #[.pointer (some ⟨p,0,none⟩)] w fun e w'=>∃ q,e = .returned (.tuple #[.pointer (some ⟨q,0,none⟩),.nilIface])∧w.heap.size≤q∧StoreTo F0 w q p X w'):=zz0 (by
    refine (zdA F0 p X a k f w d0 hd hl ha hk hf (fun n h=>(ht n h).1)).mono ?_
    rintro e w' ⟨q,ns,rfl,hq,hp,t⟩
    rw [zda ht ns hp d0.str] at t
    exact ⟨q,rfl,hq,t⟩)
  have TT:=zz0 (fun W=>zeJ 0 W (by omega))
  have GT:=zz0 (fun F q W (d:StoreAt F W q p X)=>zcW F q p (titleN 0) X W d (zaJ 0 (by omega)) hd.1 hh)
  have EE:=zd4 4 4
  clear d0 hd hl ht hh
  unfold sv at TT GT
  go_enter Tryz.func15,Tryz.ntmps15
  go_wp2_with (go_at_call 42;refine SO.out.mono ?_;rintro r w1 ⟨q,rfl,hq,k1,F1,s1,d1⟩;have K1:=zz0 k1;have S1:=zz0 s1;have D1:=zz0 d1;clear k1 s1 d1)
  have kB:Keep Non w1 (w1.alloc (VtB q (.slice none 0 0))):=(Keep.refl _ _).alloc _
  have BB:=zz0 (zab w1 (VtB q (.slice none 0 0)))
  have x1:=vt_1 (zab w1 (VtB q (.slice none 0 0)))
  have KB:=zz0 kB
  have TTB:=zz0 (TT.out (w1.alloc (VtB q (.slice none 0 0))))
  have DB:=zz0 (fun W (k:Keep Non (w1.alloc (VtB q (.slice none 0 0))) W)=>D1.out.keep (kB.trans1 k) (fun _ _ e=>e))
  have VB:Hid (∀ W,Keep Non (w1.alloc (VtB q (.slice none 0 0))) W→W.cell? ⟨w1.heap.size,1,none⟩=some (.slice none 0 0)):=zz0 (fun W k=>vt_1 (k.at (zab w1 _) (fun e=>e)))
  unfold VtB at x1 TTB
  clear kB TT
  refine wp_loop_rounds 1 ?_
  rw [rounds_succ]
  go_wp2_with (first
    | (go_at_call 43;refine TTB.out.mono ?_;rintro r w2 ⟨rfl,k2⟩;have GTW:=zz0 (GT.out F1 q w2 (DB.out _ k2));have K2:=zz0 k2;clear k2)
    | (go_at_call 11;refine GTW.out.mono ?_;rintro r w3 ⟨rfl,k3⟩;have x3:=VB.out _ (K2.out.trans1 k3);have K3:=zz0 (K2.out.trans1 k3);clear k3)
    | (go_at_call 45;refine (zdN none 0 w3).mono ?_;rintro r w4 ⟨rfl,k4⟩;have K4:=zz0 (K3.out.trans1 k4);clear k4))
  go_ret2
  have k14:=KB.out.trans1 K4.out
  have kF:Keep F0 w w4:=K1.out.trans1 k14.ofNon
  have hs1:=K1.out.size
  have hs4:=k14.size
  have sB:(w1.alloc (VtB q (.slice none 0 0))).heap.size=w1.heap.size+1:=by simp
  have hs5:=K4.out.size
  refine ⟨_,q,rfl,K4.out.at BB.out (fun e=>e),kF,hs1,fun g=>F1 g∧g < w1.heap.size,fun g x=>S1.out g x.1,fun x=>by have:=x.2;omega,fun g x=>by have:=x.2;omega,?_⟩
  have d:=D1.out
  obtain ⟨b1,i1,G,dg,hg⟩:=d
  have dl:StoreAt (fun g=>F1 g∧g < w1.heap.size) w1 q p X:=⟨b1,⟨i1,lt_of_block b1⟩,fun g=>G g∧g < w1.heap.size,dg.low,fun g x=>⟨⟨(hg g x.1).1,x.2⟩,(hg g x.1).2⟩⟩
  exact dl.keep k14 (fun _ _ e=>e)
end
end Go.Proofs.YtnboipdpccnedaaGreatDoor
