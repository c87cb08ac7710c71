/- A change of a name is added to a disk: walked. · maps.Clone, at files and at a unit's cells: walked. · All changes of a disk become sure: walked. · A  -/
import Derived.Shelf.SlMaps.Clone
import Derived.Shelf.Strings.SlTrimAscii
import Derived.Test.YtnboipdpccnedaaGreatDoorQ04
import Derived.Test.YtnboipdpccnedaaGreatDoorQ06
set_option linter.unusedVariables false
set_option maxRecDepth 100000
set_option maxHeartbeats 16000000
namespace Go.Proofs.YtnboipdpccnedaaGreatDoor
open Go.RowKit Go.Maps
theorem zg2 (F T:Nat→Prop) (p s h:Nat) (pv:Value) (n m:Byt) (X:Dk) (w:World) (d:DiskIn F T w p s h pv X) (hs:size X.shown≤1000000) (hp:X.pend.length≤1000000) (hn:n.length≤1000) (hn2:m.length≤1000) (hh:fhas X.shown n=true) :
    Calls Tryz.prog 91 #[.pointer (some ⟨p,0,none⟩),chgV (.rename n m) (.slice none 0 0)] w fun e w'=>e = .returned (.tuple #[])∧Keep F w w'∧∃ pv',(∀ g,pv'.ownBlock=some g→F g∨w.heap.size≤g)∧DiskIn (fun g=>F g∨pv'.ownBlock=some g) T w' p s h pv' (X.add (.rename n m)):=by
  have D:=zz0 d
  have B:=zz0 d.blk
  have c2:=dk_2 d.blk
  have c3:=dk_3 d.blk
  have f3:=dk_f d.blk 3
  obtain ⟨i0,hi0,hz0,hz1,hz2⟩:=info_parts infoChg
  obtain ⟨xs,p1,p2,p3⟩:=d.pend
  have P1:=zz0 p1
  have P23:=zz0 (And.intro p2 p3)
  obtain ⟨pa,pc,rfl,_,_⟩:=zaa p1
  clear d p1 p2 p3
  unfold chgV sv
  go_enter Tryz.func91,Tryz.ntmps91
  have ca:(w.alloc (.cells #[.int .i64 1,.string ⟨n.toArray⟩,.string ⟨m.toArray⟩,.slice none 0 0] 151)).cell? ⟨p,3,none⟩=some (.slice pa X.pend.length pc):=dk_3 (zae B.out _)
  have cb2:((w.alloc (.cells #[.int .i64 1,.string ⟨n.toArray⟩,.string ⟨m.toArray⟩,.slice none 0 0] 151)).alloc (.cells #[.int .i64 1,.string ⟨n.toArray⟩,.string ⟨m.toArray⟩,.slice none 0 0] 151)).cell? ⟨p,3,none⟩=some (.slice pa X.pend.length pc):=dk_3 (zae (zae B.out _) _)
  go_wp2_with fail
  have FN:=zz0 (zfy (w.alloc (.cells #[.int .i64 1,.string ⟨n.toArray⟩,.string ⟨m.toArray⟩,.slice none 0 0] 151)) (w.heap.size+1) (by simp) (.int .i64 1) (.string ⟨n.toArray⟩) (.string ⟨m.toArray⟩) (.slice none 0 0) 151)
  have KB:=zz0 (zdK w [.int .i64 1,.string ⟨n.toArray⟩,.string ⟨m.toArray⟩,.slice none 0 0])
  go_region_law (refine zag (by rfl) (.tmp 8) (.tmp 10) 133 (by rfl) 0 151 i0 chg0 4 64 Tryz.underlying133 hi0 hz0 hz1 hz2 rfl (by decide) (.slice pa X.pend.length pc) X.pend.length xs.flatten (by rfl) (zac (S:=Non) P1.out (by exact ⟨KB.out.os,KB.out.tape,KB.out.output,KB.out.size,KB.out.block⟩) (fun _ _ e=>e)) ⟨w.heap.size+1,0,none⟩ 1 1 [.int .i64 1,.string ⟨n.toArray⟩,.string ⟨m.toArray⟩,.slice none 0 0] (by rfl) (by rfl) (by exact FN.out) (by intro u hu;simp at hu;rcases hu with rfl | rfl | rfl | rfl <;> rfl) (by unfold maxLen;omega) (by omega) (Nat.zero_le _) ?_;intro v1 w1 ho hg hpp;obtain ⟨a1,c1,rfl,_,_⟩:=zaa ho;have HO:=zz0 ho;have HP:=zz0 hpp;have KG:Hid (Keep (fun k=>(Value.slice pa X.pend.length pc).ownBlock=some k) w w1):=zz0 (Keep.grown (a:=w) (by exact ⟨KB.out.os,KB.out.tape,KB.out.output,KB.out.size,fun k hk hn=>KB.out.block k hk (fun e=>e)⟩) hg (fun k e=>.inl e));have B1:=KG.out.at B.out (fun e=>(D.out.apart.2.2.2 p e).1 rfl);have e2:=dk_2 B1;have e3:=dk_3 B1;have g3:=dk_f B1 3;have BB1:=zz0 B1;have BX:Hid (w1.heap[w.heap.size]? = some (.cells #[.int .i64 1,.string ⟨n.toArray⟩,.string ⟨m.toArray⟩,.slice none 0 0] 151)):=zz0 ((hg.block w.heap.size (by simp;omega) (fun e=>by have:=(P1.out.lt w.heap.size e.symm).2;omega)).trans (by exact (zae (zab w _) _)));clear ho hg hpp B1)
  all_goals
    have hb3:(w1.setCell ⟨p,3,none⟩ (.slice a1 (X.pend.length+1) c1)).heap[p]? = some (DkB X.room s h (.slice a1 (X.pend.length+1) c1) X.fuse X.down):=zfr BB1.out _
    have r2:=dk_2 hb3
    have hpl:=lt_of_block B.out
    have bx3:(w1.setCell ⟨p,3,none⟩ (.slice a1 (X.pend.length+1) c1)).heap[w.heap.size]? = some (.cells #[.int .i64 1,.string ⟨n.toArray⟩,.string ⟨m.toArray⟩,.slice none 0 0] 151):=zcF BX.out (by omega) 3 _
    have q0:(w1.setCell ⟨p,3,none⟩ (.slice a1 (X.pend.length+1) c1)).cell? ⟨w.heap.size,0,none⟩=some (.int .i64 1):=by simp [World.cell?,bx3]
    have q1:(w1.setCell ⟨p,3,none⟩ (.slice a1 (X.pend.length+1) c1)).cell? ⟨w.heap.size,1,none⟩=some (.string ⟨n.toArray⟩):=by simp [World.cell?,bx3]
    have q2:(w1.setCell ⟨p,3,none⟩ (.slice a1 (X.pend.length+1) c1)).cell? ⟨w.heap.size,2,none⟩=some (.string ⟨m.toArray⟩):=by simp [World.cell?,bx3]
    have q3:(w1.setCell ⟨p,3,none⟩ (.slice a1 (X.pend.length+1) c1)).cell? ⟨w.heap.size,3,none⟩=some (.slice none 0 0):=by simp [World.cell?,bx3]
    have K3:=zz0 (KG.out.trans ((Keep.refl (One p) w1).setOne 3 (.slice a1 (X.pend.length+1) c1)) (U:=fun k=>(Value.slice pa X.pend.length pc).ownBlock=some k∨k=p) (fun _ _ e=>.inl e) (fun _ _ e=>.inr e))
    have hTn:Hid (∀ g,T g→¬ ((Value.slice pa X.pend.length pc).ownBlock=some g∨g=p)):=zz0 (fun g hg e=>by
      rcases e with e | e
      · exact D.out.outT.2.2.2.1 g e hg
      · exact D.out.outT.1 (e ▸ hg))
    have MS:=zz0 (FlAt.keep D.out.shown K3.out (fun e=>by rcases e with e | e;exact (D.out.apart.2.2.2 h e).2.2 rfl;exact D.out.apart.2.2.1 e.symm) hTn.out (fun _ e=>e))
    have MSd:=zz0 (FlAt.keep MS.out ((Keep.refl Non _).drew) (fun e=>e) (fun _ _ e=>e) (fun _ e=>e))
    have HB3:=zz0 hb3
    clear hb3 bx3
    go_simp
    go_wp2_with fail
    go_region_with (go_at_call 71;refine (zjZ T h X.shown n m _ MSd.out D.out.outT.2.2.1 hs hn hn2 (fun g e=>K3.out.lt (D.out.outT.2.2.2.2 g e)) hh).mono ?_;rintro e w4 ⟨rfl,k4,m4⟩;have K4:=zz0 (zax k4);have M4:=zz0 m4;clear k4 m4)
    all_goals
     go_wp2_with fail
     go_end0
     exact ⟨rfl,zc5 D.out P1.out P23.out (c:=.rename n m) (l:=[.int .i64 1,.string ⟨n.toArray⟩,.string ⟨m.toArray⟩,.slice none 0 0]) (by first | rfl | exact rfl) HO.out (HP.out.imp id (fun e=>e.trans (by congr 1;simp))) KG.out HB3.out K4.out (by show FlAt _ T h (if fhas X.shown n=true then _ else _);rw [if_pos hh];exact M4.out)⟩
theorem zg1 (F T:Nat→Prop) (p s h:Nat) (pv:Value) (n:Byt) (X:Dk) (w:World) (d:DiskIn F T w p s h pv X) (hs:size X.shown≤1000000) (hp:X.pend.length≤1000000) (hn:n.length≤1000) (hh:fhas X.shown n=true) :
    Calls Tryz.prog 91 #[.pointer (some ⟨p,0,none⟩),chgV (.remove n) (.slice none 0 0)] w fun e w'=>e = .returned (.tuple #[])∧Keep F w w'∧∃ pv',(∀ g,pv'.ownBlock=some g→F g∨w.heap.size≤g)∧DiskIn (fun g=>F g∨pv'.ownBlock=some g) T w' p s h pv' (X.add (.remove n)):=by
  have D:=zz0 d
  have B:=zz0 d.blk
  have c2:=dk_2 d.blk
  have c3:=dk_3 d.blk
  have f3:=dk_f d.blk 3
  obtain ⟨i0,hi0,hz0,hz1,hz2⟩:=info_parts infoChg
  obtain ⟨xs,p1,p2,p3⟩:=d.pend
  have P1:=zz0 p1
  have P23:=zz0 (And.intro p2 p3)
  obtain ⟨pa,pc,rfl,_,_⟩:=zaa p1
  clear d p1 p2 p3
  unfold chgV sv
  go_enter Tryz.func91,Tryz.ntmps91
  have ca:(w.alloc (.cells #[.int .i64 2,.string ⟨n.toArray⟩,.string ⟨#[]⟩,.slice none 0 0] 151)).cell? ⟨p,3,none⟩=some (.slice pa X.pend.length pc):=dk_3 (zae B.out _)
  have cb2:((w.alloc (.cells #[.int .i64 2,.string ⟨n.toArray⟩,.string ⟨#[]⟩,.slice none 0 0] 151)).alloc (.cells #[.int .i64 2,.string ⟨n.toArray⟩,.string ⟨#[]⟩,.slice none 0 0] 151)).cell? ⟨p,3,none⟩=some (.slice pa X.pend.length pc):=dk_3 (zae (zae B.out _) _)
  go_wp2_with fail
  have FN:=zz0 (zfy (w.alloc (.cells #[.int .i64 2,.string ⟨n.toArray⟩,.string ⟨#[]⟩,.slice none 0 0] 151)) (w.heap.size+1) (by simp) (.int .i64 2) (.string ⟨n.toArray⟩) (.string ⟨#[]⟩) (.slice none 0 0) 151)
  have KB:=zz0 (zdK w [.int .i64 2,.string ⟨n.toArray⟩,.string ⟨#[]⟩,.slice none 0 0])
  go_region_law (refine zag (by rfl) (.tmp 8) (.tmp 10) 133 (by rfl) 0 151 i0 chg0 4 64 Tryz.underlying133 hi0 hz0 hz1 hz2 rfl (by decide) (.slice pa X.pend.length pc) X.pend.length xs.flatten (by rfl) (zac (S:=Non) P1.out (by exact ⟨KB.out.os,KB.out.tape,KB.out.output,KB.out.size,KB.out.block⟩) (fun _ _ e=>e)) ⟨w.heap.size+1,0,none⟩ 1 1 [.int .i64 2,.string ⟨n.toArray⟩,.string ⟨#[]⟩,.slice none 0 0] (by rfl) (by rfl) (by exact FN.out) (by intro u hu;simp at hu;rcases hu with rfl | rfl | rfl | rfl <;> rfl) (by unfold maxLen;omega) (by omega) (Nat.zero_le _) ?_;intro v1 w1 ho hg hpp;obtain ⟨a1,c1,rfl,_,_⟩:=zaa ho;have HO:=zz0 ho;have HP:=zz0 hpp;have KG:Hid (Keep (fun k=>(Value.slice pa X.pend.length pc).ownBlock=some k) w w1):=zz0 (Keep.grown (a:=w) (by exact ⟨KB.out.os,KB.out.tape,KB.out.output,KB.out.size,fun k hk hn=>KB.out.block k hk (fun e=>e)⟩) hg (fun k e=>.inl e));have B1:=KG.out.at B.out (fun e=>(D.out.apart.2.2.2 p e).1 rfl);have e2:=dk_2 B1;have e3:=dk_3 B1;have g3:=dk_f B1 3;have BB1:=zz0 B1;have BX:Hid (w1.heap[w.heap.size]? = some (.cells #[.int .i64 2,.string ⟨n.toArray⟩,.string ⟨#[]⟩,.slice none 0 0] 151)):=zz0 ((hg.block w.heap.size (by simp;omega) (fun e=>by have:=(P1.out.lt w.heap.size e.symm).2;omega)).trans (by exact (zae (zab w _) _)));clear ho hg hpp B1)
  all_goals
    have hb3:(w1.setCell ⟨p,3,none⟩ (.slice a1 (X.pend.length+1) c1)).heap[p]? = some (DkB X.room s h (.slice a1 (X.pend.length+1) c1) X.fuse X.down):=zfr BB1.out _
    have r2:=dk_2 hb3
    have hpl:=lt_of_block B.out
    have bx3:(w1.setCell ⟨p,3,none⟩ (.slice a1 (X.pend.length+1) c1)).heap[w.heap.size]? = some (.cells #[.int .i64 2,.string ⟨n.toArray⟩,.string ⟨#[]⟩,.slice none 0 0] 151):=zcF BX.out (by omega) 3 _
    have q0:(w1.setCell ⟨p,3,none⟩ (.slice a1 (X.pend.length+1) c1)).cell? ⟨w.heap.size,0,none⟩=some (.int .i64 2):=by simp [World.cell?,bx3]
    have q1:(w1.setCell ⟨p,3,none⟩ (.slice a1 (X.pend.length+1) c1)).cell? ⟨w.heap.size,1,none⟩=some (.string ⟨n.toArray⟩):=by simp [World.cell?,bx3]
    have q2:(w1.setCell ⟨p,3,none⟩ (.slice a1 (X.pend.length+1) c1)).cell? ⟨w.heap.size,2,none⟩=some (.string ⟨#[]⟩):=by simp [World.cell?,bx3]
    have q3:(w1.setCell ⟨p,3,none⟩ (.slice a1 (X.pend.length+1) c1)).cell? ⟨w.heap.size,3,none⟩=some (.slice none 0 0):=by simp [World.cell?,bx3]
    have K3:=zz0 (KG.out.trans ((Keep.refl (One p) w1).setOne 3 (.slice a1 (X.pend.length+1) c1)) (U:=fun k=>(Value.slice pa X.pend.length pc).ownBlock=some k∨k=p) (fun _ _ e=>.inl e) (fun _ _ e=>.inr e))
    have hTn:Hid (∀ g,T g→¬ ((Value.slice pa X.pend.length pc).ownBlock=some g∨g=p)):=zz0 (fun g hg e=>by
      rcases e with e | e
      · exact D.out.outT.2.2.2.1 g e hg
      · exact D.out.outT.1 (e ▸ hg))
    have MS:=zz0 (FlAt.keep D.out.shown K3.out (fun e=>by rcases e with e | e;exact (D.out.apart.2.2.2 h e).2.2 rfl;exact D.out.apart.2.2.1 e.symm) hTn.out (fun _ e=>e))
    have MSd:=zz0 (FlAt.keep MS.out ((Keep.refl Non _).drew) (fun e=>e) (fun _ _ e=>e) (fun _ e=>e))
    have HB3:=zz0 hb3
    clear hb3 bx3
    go_simp
    go_wp2_with fail
    go_region_with (go_at_call 71;refine (zjY T h X.shown n _ MSd.out D.out.outT.2.2.1 hs hn (fun g e=>K3.out.lt (D.out.outT.2.2.2.2 g e)) hh).mono ?_;rintro e w4 ⟨rfl,k4,m4⟩;have K4:=zz0 (zax k4);have M4:=zz0 m4;clear k4 m4)
    all_goals
     go_wp2_with fail
     go_end0
     exact ⟨rfl,zc5 D.out P1.out P23.out (c:=.remove n) (l:=[.int .i64 2,.string ⟨n.toArray⟩,.string ⟨#[]⟩,.slice none 0 0]) (by first | rfl | exact rfl) HO.out (HP.out.imp id (fun e=>e.trans (by congr 1;simp))) KG.out HB3.out K4.out (by show FlAt _ T h (if fhas X.shown n=true then _ else _);rw [if_pos hh];exact M4.out)⟩
theorem zgl (b:Nat) (es:Array MapEntry) (clock:Nat) (w:World) (hb:w.heap[b]? = some (.map es clock)) :
    Calls Tryz.prog 72 #[.map (some b)] w fun e w'=>e = .returned (.map (some w.heap.size))∧w'=w.alloc (.map es clock):=by
  have hq:=fun w=>run_eql_map_nil_sl (P:=Tryz.prog) w 132 _ _ (some b) Tryz.underlying132
  go_enter Tryz.func72,Tryz.ntmps72
  go_wp2
  rw [run_callFunc_extern Tryz.func138 (by kernel_rfl) (by kernel_rfl) (by kernel_rfl) (e:=Extern.MapsClone.clone) (by kernel_rfl),run_maps_clone_sl w 132 hb]
  simp only [Result.andThen]
  rw [Oper.upon_value]
  go_wp2
  rw [run_typeAssert_map_sl _ 132 _ _ _ _ Tryz.underlying132]
  simp only [Result.andThen]
  rw [Oper.upon_value]
  go_wp2
  go_ret
  exact ⟨rfl,rfl⟩
theorem zgk (b:Nat) (es:Array MapEntry) (clock:Nat) (w:World) (hb:w.heap[b]? = some (.map es clock)) :
    Calls Tryz.prog 249 #[.map (some b)] w fun e w'=>e = .returned (.map (some w.heap.size))∧w'=w.alloc (.map es clock):=by
  have hq:=fun w=>run_eql_map_nil_sl (P:=Tryz.prog) w 283 _ _ (some b) Tryz.underlying283
  go_enter Tryz.func249,Tryz.ntmps249
  go_wp2
  rw [run_callFunc_extern Tryz.func138 (by kernel_rfl) (by kernel_rfl) (by kernel_rfl) (e:=Extern.MapsClone.clone) (by kernel_rfl),run_maps_clone_sl w 283 hb]
  simp only [Result.andThen]
  rw [Oper.upon_value]
  go_wp2
  rw [run_typeAssert_map_sl _ 283 _ _ _ _ Tryz.underlying283]
  simp only [Result.andThen]
  rw [Oper.upon_value]
  go_wp2
  go_ret
  exact ⟨rfl,rfl⟩
theorem ze8 {α:Type} {w:World} {kt:TypeId} {R:Value→α→Prop} {b:Nat} {D:DataW α} (h:MapAt w kt R b D):∃ es clock,w.heap[b]? = some (.map es clock)∧MapAt (w.alloc (.map es clock)) kt R w.heap.size D∧MapAt (w.alloc (.map es clock)) kt R b D:=by
  have hlt:=MapAt.lt h
  obtain ⟨es,clock,hb,F,hs,hD⟩:=h
  exact ⟨es,clock,hb,⟨es,clock,zab _ _,F,hs,hD⟩,⟨es,clock,zae hb _,F,hs,hD⟩⟩
theorem zav (X:Dk):X.works.2.room=X.room∧X.works.2.shown=X.shown∧X.works.2.pend=X.pend∧X.works.2.sure=X.sure:=by
  unfold Dk.works
  split
  · exact ⟨rfl,rfl,rfl,rfl⟩
  · split <;> exact ⟨rfl,rfl,rfl,rfl⟩
theorem zbV (X:Dk):X.works.1=0∨X.works.1=14:=by
  unfold Dk.works
  split
  · exact .inr rfl
  · split
    · exact .inr rfl
    · exact .inl rfl
theorem zmb (F T:Nat→Prop) (p s h:Nat) (pv:Value) (X:Dk) (w:World) (d:DiskIn F T w p s h pv X) (hf:X.fuse≤1000000000) (hw:X.works.1=14) :
    Calls Tryz.prog 40 #[.pointer (some ⟨p,0,none⟩)] w fun e w'=>e = .returned (.iface 55 (.int .i64 14))∧Keep (One p) w w'∧DiskIn F T w' p s h pv X.works.2:=by
  have W:=zaE F T p s h pv X w d hf
  rw [hw] at W
  have W2:Hid (Calls Tryz.prog 89 #[.pointer (some ⟨p,0,none⟩)] w fun e w'=>e = .returned (.iface 55 (.int .i64 14))∧Keep (One p) w w'∧DiskIn F T w' p s h pv X.works.2):=W
  clear W d
  go_enter Tryz.func40,Tryz.ntmps40
  go_wp2_with (go_at_call 89;refine W2.out.mono ?_;rintro e w1 ⟨rfl,k1,d1⟩;have K1:=zz0 k1;have D1:=zz0 d1;clear k1 d1)
  go_ret
  exact ⟨rfl,K1.out,D1.out⟩
theorem zmc (F T:Nat→Prop) (p s h:Nat) (pv:Value) (X:Dk) (w:World) (d:DiskIn F T w p s h pv X) (hf:X.fuse≤1000000000) (hw:X.works.1=0) :
    Calls Tryz.prog 40 #[.pointer (some ⟨p,0,none⟩)] w fun e w'=>e = .returned .nilIface∧Keep (One p) w w'∧∃ s',w.heap.size≤s'∧DiskIn (fun g=>F g∨g=s') T w' p s' h (.slice none 0 0) { X.works.2 with sure:=X.shown,pend:=[] }:=by
  have W:=zaE F T p s h pv X w d hf
  rw [hw] at W
  have W2:Hid (Calls Tryz.prog 89 #[.pointer (some ⟨p,0,none⟩)] w fun e w'=>e = .returned .nilIface∧Keep (One p) w w'∧DiskIn F T w' p s h pv X.works.2):=W
  clear W d
  go_enter Tryz.func40,Tryz.ntmps40
  go_wp2_with (first
    | (go_at_call 89;refine W2.out.mono ?_;rintro e w1 ⟨rfl,k1,d1⟩;obtain ⟨es,clock,hes,m1,m2⟩:=ze8 d1.shown;have B1:=zz0 d1.blk;have c2:=dk_2 d1.blk;have b2:=zae d1.blk (.map es clock);have e1:=dk_1 b2;have f1:=dk_f b2 1;have b3:=zoa b2 w1.heap.size;have e3:=dk_3 b3;have f3:=dk_f b3 3;have b4:=zfr b3 (.slice none 0 0);have B4:=zz0 b4;have M1:=zz0 m1;have M2:=zz0 m2;have K1:=zz0 k1;have D1:=zz0 d1;clear k1 d1 m1 m2 b2 b3 b4)
    | (go_at_call 72;refine (zgl h es clock _ hes).mono ?_;rintro e w2 ⟨rfl,rfl⟩))
  go_ret
  have kA:Keep Non w1 (w1.alloc (.map es clock)):=(Keep.refl _ _).alloc _
  have kS:Keep (One p) w1 (((w1.alloc (.map es clock)).setCell ⟨p,1,none⟩ (.map (some w1.heap.size))).setCell ⟨p,3,none⟩ (.slice none 0 0)):=(((Keep.refl (One p) w1).alloc _).setOne 1 _).setOne 3 _
  have kT:Keep (One p) (w1.alloc (.map es clock)) (((w1.alloc (.map es clock)).setCell ⟨p,1,none⟩ (.map (some w1.heap.size))).setCell ⟨p,3,none⟩ (.slice none 0 0)):=((Keep.refl (One p) _).setOne 1 _).setOne 3 _
  obtain ⟨i1,i2,i3,i4,i5⟩:=D1.out.inF
  obtain ⟨a1,a2,a3,a4⟩:=D1.out.apart
  obtain ⟨o1,o2,o3,o4,o5⟩:=D1.out.outT
  obtain ⟨r1,r2,r3,r4⟩:=zav X
  have hpl:=lt_of_block B1.out
  have hhl:=MapAt.lt D1.out.shown
  have hT:=One.notT o1
  refine ⟨rfl,K1.out.trans1 kS,w1.heap.size,K1.out.size,B4.out,?_,?_,⟨[],World.ownsRow_nil _ _ _ _,rfl,fun i c l hc=>by simp at hc⟩,⟨.inl i1,.inr rfl,.inl i3,fun g e=>(by cases e),fun g e=>.inl (i5 g e)⟩,⟨by omega,by omega,a3,fun g e=>(by cases e)⟩,⟨o1,fun e=>by have:=o5 _ e;omega,o3,fun g e=>(by cases e),fun g e=>kS.lt (o5 g e)⟩,D1.out.room⟩
  · show FlAt _ T w1.heap.size X.shown
    rw [← r2]
    exact MapAt.keep M1.out kT (fun e=>by unfold One at e;omega) (BsIn.fun1 _ _) (fun v x hx=>hx.keep kS hT (fun _ e=>e))
  · exact MapAt.keep M2.out kT (fun e=>a3 e.symm) (BsIn.fun1 _ _) (fun v x hx=>hx.keep kS hT (fun _ e=>e))
theorem zfF {F:Nat→Prop} {p:Nat} {X:Dk} {w:World} (d:DiskAt F w p X) (hd:X.down=false):Calls Tryz.prog 74 #[.pointer (some ⟨p,0,none⟩)] w fun e w'=>e = .returned .nilIface∧w'=w:=by
  have h:=ze0 F p X w d
  have e:errv X.looks = .nilIface:=by unfold Dk.looks;rw [hd];rfl
  rw [e] at h
  exact h
theorem ziH (F:Nat→Prop) (p:Nat) (X:Dk) (n:Byt) (w:World) (d:DiskAt F w p X) (hd:X.down=false) (hn:n.length≤1000) (hh:fhas X.shown n=false) :
    Calls Tryz.prog 35 #[.pointer (some ⟨p,0,none⟩),sv n] w fun e w'=>e = .returned (.tuple #[.slice none 0 0,.iface 55 (.int .i64 4)])∧w'=w:=by
  have L:=zz0 (zfF d hd)
  have law:=string_keyed Tryz.underlying9
  have hkey:=zbX n (by unfold maxLen;omega)
  have hz:=fun w=>Tryz.zeroValue44 w
  have hhas:has X.shown (.string n)=false:=hh
  obtain ⟨T,s,h,pv,d⟩:=d
  have c2:=dk_2 d.blk
  have M:=zz0 d.shown
  clear d
  unfold sv at hkey ⊢
  go_enter Tryz.func35,Tryz.ntmps35
  go_wp2_with (first
    | (go_at_call 74;refine L.out.mono ?_;rintro e w1 ⟨rfl,e1⟩;subst e1)
    | (at_lookup;refine zak rfl _ _ 132 rfl 44 law Tryz.underlying132 (hz _) [] (BsIn.fun1 _ T) (zaP _ _) rfl M.out _ _ rfl hkey ?_;rw [hhas];intro lv ly hlv hat;obtain ⟨⟨la,lc,rfl,_⟩,_⟩:=hlv;clear hat))
  go_ret2
  exact ⟨rfl,rfl⟩
theorem zma (F:Nat→Prop) (p:Nat) (X:Dk) (n:Byt) (w:World) (d:DiskAt F w p X) (hd:X.down=false) (hn:n.length≤1000) (hh:fhas X.shown n=true) (hl:(fget X.shown n).length≤1000000000) :
    Calls Tryz.prog 35 #[.pointer (some ⟨p,0,none⟩),sv n] w fun e w'=>∃ v',e = .returned (.tuple #[v',.nilIface])∧Keep Non w w'∧w'.ownsRow w.heap.size 5 1 v' (fget X.shown n).length ((fget X.shown n).map bv):=by
  have L:=zz0 (zfF d hd)
  have law:=string_keyed Tryz.underlying9
  have hkey:=zbX n (by unfold maxLen;omega)
  have hz:=fun w=>Tryz.zeroValue44 w
  have hhas:has X.shown (.string n)=true:=hh
  obtain ⟨T,s,h,pv,d⟩:=d
  have c2:=dk_2 d.blk
  have M:=zz0 d.shown
  clear d
  unfold sv at hkey ⊢
  generalize hB:fget X.shown n=B at hl ⊢
  have HB:=zz0 hB
  clear hB
  go_enter Tryz.func35,Tryz.ntmps35
  go_wp2_with (first
    | (go_at_call 74;refine L.out.mono ?_;rintro e w1 ⟨rfl,e1⟩;subst e1)
    | (at_lookup;refine zak rfl _ _ 132 rfl 44 law Tryz.underlying132 (hz _) [] (BsIn.fun1 _ T) (zaP _ _) rfl M.out _ _ rfl hkey ?_;rw [hhas];intro lv ly hlv hat;obtain rfl:ly=B:=(by have e:=HB.out;unfold fget at e;rw [hat] at e;exact e);have LV:=zz0 hlv.1;clear hat hlv)
    | (go_at_call 81;refine (za1 _ ly _ LV.out (by omega)).mono ?_;rintro e w2 ⟨v2,rfl,k2,o2⟩;have K2:=zz0 k2;have O2:=zz0 o2;clear k2 o2))
  go_ret2
  exact ⟨_,rfl,K2.out,O2.out⟩
def signsL:List UInt8:=[97,98,99,100,101,102,103,104,105,106,107,108,109,110,111,112,113,114,115,116,117,118,119,120,121,122,48,49,50,51,52,53,54,55,56,57,45,46,126]
def okName (n:Byt):Prop:=1≤n.length∧n.length≤24∧∀ c ∈ n,c ∈ signsL
theorem zcJ (p:UInt8→Bool):∀ l:List UInt8,(∀ c ∈ l,p c=true)→l.dropWhile p = []
  | [],_=>rfl
  | x :: r,h=>by rw [List.dropWhile_cons_of_pos (h x (by simp))];exact zcJ p r (fun c hc=>h c (by simp [hc]))
theorem zly (n cs:List UInt8) (h:∀ c ∈ n,c ∈ cs):Lib.trimS n cs = []:=by
  unfold Lib.trimS Lib.trimRightS
  rw [zcJ _ n.reverse (fun c hc=>by simpa using h c (by simpa using hc))]
  rfl
theorem zfj (n:Byt) (w:World) (hn:n.length≤1000) (h:∀ c ∈ n,c ∈ signsL) :
    Calls Tryz.prog 143 #[.string ⟨n.toArray⟩,.string ⟨signsL.toArray⟩] w fun e w'=>e = .returned (.string ⟨#[]⟩)∧Keep Non w w':=by
  refine (Any.strings_Trim_laid Tryz.lays160 (by kernel_rfl) ⟨n.toArray⟩ ⟨signsL.toArray⟩ w (by show n.toArray.size≤_;simp;omega) (by decide) (ascii_of_all (by decide))).mono ?_
  rintro e w' ⟨rfl,hb⟩
  refine ⟨?_,Keep.ofBelow hb⟩
  have:Lib.trimS (⟨n.toArray⟩:ByteArray).data.toList (⟨signsL.toArray⟩:ByteArray).data.toList = []:=by
    show Lib.trimS n.toArray.toList signsL.toArray.toList = []
    rw [List.toList_toArray,List.toList_toArray]
    exact zly n signsL h
  rw [this]
theorem zbg (n:Byt) (w:World) (h:okName n) :
    Calls Tryz.prog 77 #[sv n] w fun e w'=>e = .returned (.bool true)∧Keep Non w w':=by
  obtain ⟨h1,h2,h3⟩:=h
  have TR:=zz0 (zfj n w (by omega) h3)
  have TRd:=zz0 (zfj n w.drew (by omega) h3)
  have hs:(⟨n.toArray⟩:ByteArray).size=n.length:=by show n.toArray.size=_;simp
  unfold sv
  go_enter Tryz.func77,Tryz.ntmps77
  go_wp2_with (go_at_call 143;refine TR.out.mono ?_;rintro e w1 ⟨rfl,k1⟩;have K1:=zz0 k1;clear k1)
  go_ret
  exact ⟨rfl,K1.out⟩
end Go.Proofs.YtnboipdpccnedaaGreatDoor
namespace Go.Proofs.YtnboipdpccnedaaGreatDoor
open Go.RowKit
section
variable {P : Program} {ops : Array Oper} {Q : Exit → Act → World → Prop} {md : Region.Mode} {S : World → Prop}
def Calm (P:Program) (ops:Array Oper) (S:World→Prop) (o:Oper) (v:Value) (a:Act):Prop :=
  (Region.wanted o (yielded ops a.tmps)=true∧∀ w,S w→o.quietAt P a (fun w'=>w'=w) w v)∨(Region.wanted o (yielded ops a.tmps)=false∧v=undef)
theorem Calm.wpOp {i:Nat} {o:Oper} {v:Value} {a:Act} (hi:ops[i]? = some o) (hy:Calm P ops S o v a) {K:Act→World→Prop} {w:World} (hS:S w) (h:K (a.put o.dst v) w):wpOp P ops Q i K a w:=by
  refine wpOp_of_qOp (C:=fun w'=>w'=w) (K:=fun a'=>K a' w) rfl (fun a' w' e hk=>by rw [e];exact hk) ?_
  unfold qOp
  simp only [hi]
  rcases hy with ⟨hw,hv⟩ | ⟨hw,rfl⟩
  · rw [if_pos hw];exact ⟨v,fun w' e=>by rw [e];exact hv w hS,h⟩
  · rw [if_neg (by rw [hw];decide)];exact h
theorem Calm.of_same {o:Oper} {v:Value} {a a':Act} (hy:Calm P ops S o v a) (he:execOp a'.eval o=execOp a.eval o) (hw:Region.wanted o (yielded ops a'.tmps)=Region.wanted o (yielded ops a.tmps)):Calm P ops S o v a':=by
  unfold Calm Oper.quietAt at *
  rw [he,hw]
  exact hy
theorem zfU {j:Nat} {oi oj:Oper} {v:Value} (hj:ops[j]? = some oj) (hap:oi.apart ops oj=true)
    (hsi:∀ cs b,oi.op≠.select cs b) (hsj:∀ cs b,oj.op≠.select cs b)
    (hQ:∀ c a w,Q (.panic c) (a.put oi.dst v) w→Q (.panic c) a w) {K:Act→World→Prop} {a:Act} {w:World}
    (hy:Calm P ops S oi v a) (h:wpOp P ops Q j K (a.put oi.dst v) w) :
    wpOp P ops Q j (fun a' w'=>Calm P ops S oi v a'∧K (a'.put oi.dst v) w') a w:=by
  obtain ⟨h1,h2,h3⟩:=Oper.apart_spec hap
  have keep:∀ (a:Act),Calm P ops S oi v a→∀ u,Calm P ops S oi v (a.put oj.dst u):=fun a hy u=>hy.of_same (execOp_put oi hsi a oj.dst u h3) (wanted_put oi a oj.dst u h3)
  have keepD:∀ d,Calm P ops S oi v { a with defers:=d :: a.defers }:=fun d=>hy.of_same rfl rfl
  unfold Go.wpOp at *
  simp only [hj] at *
  rw [wanted_put oj a oi.dst v h1] at h
  split
  · rename_i hw
    simp only [hw,if_true] at h
    rcases h with h | ⟨hasks,hlets⟩
    case inr=>exact .inr ⟨by unfold Oper.asks at *;rw [execOp_put oj hsj a oi.dst v h1] at hasks;exact hasks,hlets⟩
    refine .inl ?_
    unfold Oper.wp at *
    rw [execOp_put oj hsj a oi.dst v h1] at h
    generalize (execOp a.eval oj).run P w=r at *
    cases r with
    | ok n w' =>
      cases n <;> simp only [Oper.upon] at h ⊢
      case value u=>exact ⟨keep a hy u,by rw [← Act.put_comm a v u h2];exact h⟩
      case skip=>exact ⟨keep a hy _,by rw [← Act.put_comm a v undef h2];exact h⟩
      case defer d =>
        refine ⟨keep _ (keepD d) _,?_⟩
        rw [← Act.put_comm _ v undef h2,← Act.put_defers]
        exact h
      case enter f args =>
        refine Calls.mono h fun e w'' he=>?_
        cases e with
        | returned u=>exact ⟨keep a hy u,by rw [← Act.put_comm a v u h2];exact he⟩
        | panicked c=>exact hQ _ _ _ he
        | outgrown=>exact he
      case row row args=>exact Rows.mono h fun u w'' he=>⟨keep a hy u,by rw [← Act.put_comm a v u h2];exact he⟩
    | halt x w' =>
      cases x <;> simp only [Oper.upon] at h ⊢
      case panic u=>exact hQ _ _ _ h
  · rename_i hw
    simp only [hw] at h
    exact ⟨keep a hy _,by rw [← Act.put_comm a v undef h2];exact h⟩
theorem ziO {i:Nat} {oi:Oper} {v:Value} (hi:ops[i]? = some oi) (hsel:∀ (j:Nat) (o:Oper) cs b,ops[j]? = some o→o.op≠.select cs b)
    (hQ:∀ c a w,Q (.panic c) (a.put oi.dst v) w→Q (.panic c) a w) :
    ∀ (fuel:Nat) (listed:Array Bool) (a:Act) (w:World),
      (∀ j oj,ops[j]? = some oj→j≠i→listed.getD j true=false→(∀ e ∈ oj.after,Region.binds md e=true→e.on≠i)→oi.apart ops oj=true) →
      i ∈ Region.ready md ops listed→Calm P ops S oi v a→S w →
      wpAnyH P md ops Q S fuel (listed.setIfInBounds i true) (a.put oi.dst v) w→wpAnyH P md ops Q S (fuel+1) listed a w:=by
  intro fuel
  induction fuel with
  | zero =>
    intro listed a w _ hr hy hS H
    refine ⟨fun h=>(by rw [h] at hr;cases hr),fun j hj=>?_⟩
    by_cases hji:j=i
    · subst hji;exact hy.wpOp hi hS ⟨hS,H⟩
    · have:=ready_mono hj hji
      rw [H.1] at this
      cases this
  | succ fuel ih =>
    intro listed a w hfree hr hy hS H
    refine ⟨fun h=>(by rw [h] at hr;cases hr),fun j hj=>?_⟩
    by_cases hji:j=i
    · subst hji;exact hy.wpOp hi hS ⟨hS,H⟩
    · have h1:=H.2 j (ready_mono hj hji)
      obtain ⟨hjun,oj,hoj,hall⟩:=mem_ready.1 hj
      have hnot:∀ e ∈ oj.after,Region.binds md e=true→e.on≠i:=fun e he hb heq=>by
        have h1:=hall e he hb
        have h0:=(mem_ready.1 hr).1
        rw [heq] at h1
        rcases Nat.lt_or_ge i listed.size with h' | h'
        · simp [h'] at h0 h1;rw [h0] at h1;cases h1
        · simp [Array.getElem?_eq_none h'] at h1
      have h2:=zfU hoj (hfree j oj hoj hji hjun hnot) (fun cs b=>hsel i oi cs b hi) (fun cs b=>hsel j oj cs b hoj) hQ hy h1
      have hfree':∀ k ok,ops[k]? = some ok→k≠i→(listed.setIfInBounds j true).getD k true=false→(∀ e ∈ ok.after,Region.binds md e=true→e.on≠i)→oi.apart ops ok=true:=fun k ok hk hki hun hno=>by
        refine hfree k ok hk hki ?_ hno
        by_cases hjk:j=k
        · subst hjk;exact hjun
        · rw [getD_set_ne true hjk] at hun;exact hun
      refine wpOp_mono (fun a' w' h3=>⟨h3.2.1,ih (listed.setIfInBounds j true) a' w' hfree' (ready_mono hr (Ne.symm hji)) h3.1 h3.2.1 ?_⟩) h2
      rw [Array.setIfInBounds_comm _ _ hji]
      exact h3.2.2
theorem zce {i:Nat} {oi:Oper} {v:Value} {fuel:Nat} {listed:Array Bool} {a:Act} {w:World} (hi:ops[i]? = some oi)
    (hs:Region.noSelect ops=true) (hf:Region.free md ops listed i=true) (hr:(Region.ready md ops listed).contains i=true)
    (hQ:∀ c a w,Q (.panic c) (a.put oi.dst v) w→Q (.panic c) a w) (hy:Calm P ops S oi v a) (hS:S w)
    (h:wpAnyH P md ops Q S fuel (listed.setIfInBounds i true) (a.put oi.dst v) w):wpAnyH P md ops Q S (fuel+1) listed a w :=
  ziO hi (Region.noSelect_spec hs) hQ fuel listed a w (Region.free_spec hi hf) (by simpa using hr) hy hS h
theorem tc {i:Nat} {oi:Oper} {v:Value} {fuel:Nat} {listed l2:Array Bool} {a a2:Act} {w:World} (hy:∀ w,S w→oi.quietAt P a (fun w'=>w'=w) w v) (h:wpAnyH P md ops Q S fuel l2 a2 w)
    (hi:ops[i]? = some oi:=by simp only [List.getElem?_toArray,List.getElem?_cons_succ,List.getElem?_cons_zero];rfl) (hs:Region.noSelect ops=true:=by as_aux_lemma=>kernel_rfl)
    (hf:Region.free md ops listed i=true:=by as_aux_lemma=>kernel_rfl) (hr:(Region.ready md ops listed).contains i=true:=by as_aux_lemma=>kernel_rfl)
    (hQ:∀ c a w,Q (.panic c) (a.put oi.dst v) w→Q (.panic c) a w:=by exact fun _ _ _ h=>h) (hw:Region.wanted oi (yielded ops a.tmps)=true:=by rfl) (hS:S w:=by assumption)
    (e:a.put oi.dst v=a2:=by first | (simp only [Act.put,List.setIfInBounds_toArray,List.set_cons_zero,List.set_cons_succ];exact rfl) | exact rfl)
    (e2:listed.setIfInBounds i true=l2:=by first | (simp only [List.setIfInBounds_toArray,List.set_cons_zero,List.set_cons_succ];exact rfl) | exact rfl) :
    wpAnyH P md ops Q S (fuel+1) listed a w:=by
  subst e
  subst e2
  exact zce hi hs hf hr hQ (.inl ⟨hw,hy⟩) hS h
theorem tu {i:Nat} {oi:Oper} {fuel:Nat} {listed:Array Bool} {a:Act} {w:World} (h:wpAnyH P md ops Q S fuel (listed.setIfInBounds i true) (a.put oi.dst undef) w)
    (hi:ops[i]? = some oi:=by simp only [List.getElem?_toArray,List.getElem?_cons_succ,List.getElem?_cons_zero];rfl) (hs:Region.noSelect ops=true:=by as_aux_lemma=>kernel_rfl)
    (hf:Region.free md ops listed i=true:=by as_aux_lemma=>kernel_rfl) (hr:(Region.ready md ops listed).contains i=true:=by as_aux_lemma=>kernel_rfl)
    (hQ:∀ c a w,Q (.panic c) (a.put oi.dst undef) w→Q (.panic c) a w:=by exact fun _ _ _ h=>h) (hw:Region.wanted oi (yielded ops a.tmps)=false:=by rfl) (hS:S w:=by assumption) :
    wpAnyH P md ops Q S (fuel+1) listed a w:=zce hi hs hf hr hQ (.inr ⟨hw,rfl⟩) hS h
theorem rc {i:Nat} {o:Oper} {fuel:Nat} {listed:Array Bool} {a:Act} {w:World}
    (h:∀ K':Act→World→Prop,Shut (∀ a w,S w→(S w→wpAnyH P md ops Q S fuel (listed.setIfInBounds i true) a w)→K' a w)→if Region.wanted o (yielded ops a.tmps)=true then Oper.wp P o a w K' Q else K' (a.put o.dst undef) w)
    (hr:Region.ready md ops listed = [i]:=by as_aux_lemma=>kernel_rfl) (ho:ops[i]? = some o:=by simp only [List.getElem?_toArray,List.getElem?_cons_succ,List.getElem?_cons_zero];rfl) :
    wpAnyH P md ops Q S (fuel+1) listed a w:=wpAnyH_ready hr (by simp) (AllReadyH.cons ho h AllReadyH.nil)
end
section
variable {P : Program} {md : Region.Mode} {ops : Array Oper} {Q : Exit → Act → World → Prop} {S : World → Prop}
theorem tq (i:Nat) {oi:Oper} {v:Value} {fuel:Nat} {listed l2:Array Bool} {a a2:Act} {w:World} (h:wpAnyH P md ops Q S fuel l2 a2 w)
    (hi:ops[i]? = some oi:=by simp only [List.getElem?_toArray,List.getElem?_cons_succ,List.getElem?_cons_zero];rfl) (hs:Region.noSelect ops=true:=by as_aux_lemma=>kernel_rfl)
    (hf:Region.free md ops listed i=true:=by as_aux_lemma=>kernel_rfl) (hr:(Region.ready md ops listed).contains i=true:=by as_aux_lemma=>kernel_rfl)
    (hQ:∀ c a w,Q (.panic c) (a.put oi.dst v) w→Q (.panic c) a w:=by exact fun _ _ _ h=>h) (hw:Region.wanted oi (yielded ops a.tmps)=true:=by rfl) (hS:S w:=by assumption)
    (hy:∀ w,S w→oi.quietAt P a (fun w'=>w'=w) w v:=by intro W hSw;(try dsimp only at hSw);go_simp;first | done | with_reducible rfl)
    (e:a.put oi.dst v=a2:=by first | (simp only [Act.put,List.setIfInBounds_toArray,List.set_cons_zero,List.set_cons_succ];exact rfl) | exact rfl)
    (e2:listed.setIfInBounds i true=l2:=by first | (simp only [List.setIfInBounds_toArray,List.set_cons_zero,List.set_cons_succ];exact rfl) | exact rfl) :
    wpAnyH P md ops Q S (fuel+1) listed a w:=by
  subst e
  subst e2
  exact zce hi hs hf hr hQ (.inl ⟨hw,hy⟩) hS h
end
end Go.Proofs.YtnboipdpccnedaaGreatDoor
namespace Go.Proofs.YtnboipdpccnedaaGreatDoor
open Go.RowKit Go.Maps
theorem DiskIn.grow {F T:Nat→Prop} {w:World} {p s h:Nat} {pv v:Value} {X:Dk} (d:DiskIn F T w p s h pv X) {B:Nat} (hB:p < B∧s < B∧h < B∧∀ g,pv.ownBlock=some g→g < B) (hv:∀ g,v.ownBlock=some g→B≤g∧g < w.heap.size) :
    DiskIn (fun g=>F g∨v.ownBlock=some g) (fun g=>T g∨v.ownBlock=some g) w p s h pv X:=by
  obtain ⟨i1,i2,i3,i4,i5⟩:=d.inF
  obtain ⟨o1,o2,o3,o4,o5⟩:=d.outT
  have k:Keep Non w w:=Keep.refl _ _
  refine ⟨d.blk,d.sure.keep k (fun e=>e) (fun _ _ e=>e) (fun _ e=>.inl e),d.shown.keep k (fun e=>e) (fun _ _ e=>e) (fun _ e=>.inl e),d.pend.keep k (fun _ _ e=>e) (fun _ _ e=>e) (fun _ e=>.inl e),⟨.inl i1,.inl i2,.inl i3,fun g e=>.inl (i4 g e),fun g e=>by rcases e with e | e;exact .inl (i5 g e);exact .inr e⟩,d.apart,⟨?_,?_,?_,?_,?_⟩,d.room⟩
  · rintro (e | e);exact o1 e;have:=(hv _ e).1;omega
  · rintro (e | e);exact o2 e;have:=(hv _ e).1;omega
  · rintro (e | e);exact o3 e;have:=(hv _ e).1;omega
  · rintro g e (e2 | e2);exact o4 g e e2;have h1:=(hv g e2).1;have h2:=hB.2.2.2 g e;omega
  · rintro g (e | e);exact o5 g e;exact (hv g e).2
theorem zcO {α:Type} {w:World} {kt:TypeId} {R:Value→α→Prop} {b:Nat} {D:DataW α} (h:MapAt w kt R b D):∃ es clock,w.heap[b]? = some (.map es clock)∧es.size=size D:=by
  obtain ⟨es,clock,hb,F,hs,rfl⟩:=h
  exact ⟨es,clock,hb,by simp [size,length_sorted]⟩
theorem zhZ {w2 W W':World} {p h:Nat} {r:Int} {es:Array MapEntry} {clock:Nat} (hS:W.cell? ⟨p,0,none⟩=some (.int .i64 r)∧W.cell? ⟨p,2,none⟩=some (.map (some h))∧W.heap[h]? = some (.map es clock)∧Keep Non w2 W) (k:Keep Non W W') :
    W'.cell? ⟨p,0,none⟩=some (.int .i64 r)∧W'.cell? ⟨p,2,none⟩=some (.map (some h))∧W'.heap[h]? = some (.map es clock)∧Keep Non w2 W':=by
  obtain ⟨h1,h2,h3,h4⟩:=hS
  exact ⟨(World.cell?_of_block (k.block p (World.block_lt_of_cell? _ _ h1) (fun e=>e))).trans h1,(World.cell?_of_block (k.block p (World.block_lt_of_cell? _ _ h2) (fun e=>e))).trans h2,k.at h3 (fun e=>e),h4.trans1 k⟩
theorem DiskIn.lts {F T:Nat→Prop} {w:World} {p s h:Nat} {pv:Value} {X:Dk} (d:DiskIn F T w p s h pv X):p < w.heap.size∧s < w.heap.size∧h < w.heap.size∧∀ g,pv.ownBlock=some g→g < w.heap.size:=by
  obtain ⟨xs,h1,_⟩:=d.pend
  exact ⟨lt_of_block d.blk,MapAt.lt d.sure,MapAt.lt d.shown,fun g e=>(h1.lt g e).2⟩
theorem zd0 {F T:Nat→Prop} {w w1 w4 w5:World} {p s h:Nat} {pv v4:Value} {X:Dk} (d:DiskIn F T w p s h pv X) (k1:Keep (One p) w w1) (k4:Keep Non w1 w4) (hv:∀ g,v4.ownBlock=some g→w.heap.size≤g) (k5:Keep (fun g=>F g∨v4.ownBlock=some g) w4 w5):Keep F w w5 :=
  ((k1.mono (fun i _ e=>by have e':i=p:=e;rw [e'];exact d.inF.1)).trans1 k4.ofNon).trans k5 (fun _ _ e=>e) (fun i hi e=>by
    rcases e with e | e
    · exact e
    · have:=hv i e;omega)
theorem ze1 {F:Nat→Prop} {A B g:Nat} {v4 pv':Value} (hAB:A≤B) (hv:∀ g,v4.ownBlock=some g→A≤g) (hpv:∀ g,pv'.ownBlock=some g→(F g∨v4.ownBlock=some g)∨B≤g) (h:(F g∨v4.ownBlock=some g)∨pv'.ownBlock=some g):F g∨A≤g:=by
  rcases h with (h | h) | h
  · exact .inl h
  · exact .inr (hv g h)
  · rcases hpv g h with (q | q) | q
    · exact .inl q
    · exact .inr (hv g q)
    · exact .inr (by omega)
theorem zj3 (F T:Nat→Prop) (p s h:Nat) (pv v:Value) (n b:Byt) (X:Dk) (w:World) (d:DiskIn F T w p s h pv X) (hw:X.works.1=0) (hfu:X.fuse≤1000000000) (hv:Bs w v b) (hn:okName n) (hb:b.length≤65536) (hs:size X.shown≤100000) (hp:X.pend.length≤1000000) (hu:fused X.shown≤1000000000) (hg:(fget X.shown n).length≤1000000000) (hfull:¬ X.works.2.full n b) (hnp:∀ g,v.ownBlock=some g→g≠p) :
    Calls Tryz.prog 39 #[.pointer (some ⟨p,0,none⟩),sv n,v] w fun e w'=>e = .returned .nilIface∧Keep F w w'∧∃ F',(∀ g,F' g→F g∨w.heap.size≤g)∧DiskAt F' w' p (X.works.2.add (.write n b)):=by
  have W:=zaE F T p s h pv X w d hfu
  rw [hw] at W
  have W2:Hid (Calls Tryz.prog 89 #[.pointer (some ⟨p,0,none⟩)] w fun e w'=>e = .returned .nilIface∧Keep (One p) w w'∧DiskIn F T w' p s h pv X.works.2):=W
  have V:=zz0 hv
  have D:=zz0 d
  have NP:=zz0 hnp
  clear hnp
  obtain ⟨r1,r2,r3,r4⟩:=zav X
  have hX2:size X.works.2.shown≤100000:=by rw [r2];exact hs
  have hP2:X.works.2.pend.length≤1000000:=by rw [r3];exact hp
  have hU2:fused X.works.2.shown≤1000000000:=by rw [r2];exact hu
  have hG2:(fget X.works.2.shown n).length≤1000000000:=by rw [r2];exact hg
  obtain ⟨a,c,rfl,_⟩:=zaw hv
  have NP:Hid (∀ g,(Value.slice a b.length c).ownBlock=some g→¬ One p g):=zz0 (fun g e e2=>NP.out g e e2)
  have law:=string_keyed Tryz.underlying9
  have hkey:=zbX n (by unfold maxLen;have:=hn.2.1;omega)
  have hz:=fun w=>Tryz.zeroValue44 w
  have hnl:n.length≤1000:=by have:=hn.2.1;omega
  have NM:=zz0 (fun w=>zbg n w hn)
  clear W d hv
  generalize X.works.2=Y at W2 hfull hX2 hP2 hU2 hG2 ⊢
  have hY:=zz0 hfull
  unfold Dk.full at hfull
  rw [not_or] at hfull
  obtain ⟨hf1,hf2⟩:=hfull
  cases hhas:fhas Y.shown n with
  | true =>
    have hh:has Y.shown (.string n)=true:=hhas
    unfold sv at hkey NM ⊢
    generalize hold:fget Y.shown n=old at hf2 hG2
    have HOLD:=zz0 hold
    clear hold hf1
    generalize hus:fused Y.shown=us at hf2 hU2
    have HUS:=zz0 hus
    clear hus
    go_enter Tryz.func39,Tryz.ntmps39
    go_wp2_with (first
      | (go_at_call 89;refine W2.out.mono ?_;rintro e w1 ⟨rfl,k1,d1⟩;have c2:=dk_2 d1.blk;have c0:=dk_0 d1.blk;have M1:=zz0 d1.shown;have K1:=zz0 k1;have D1:=zz0 d1;clear k1 d1)
      | (at_lookup;refine zak rfl _ _ 132 rfl 44 law Tryz.underlying132 (hz _) [] (BsIn.fun1 _ T) (zaP _ _) rfl M1.out _ _ rfl hkey ?_;rw [hh];intro lv ly hlv hat;obtain rfl:ly=old:=(by have e:=HOLD.out;unfold fget at e;rw [hat] at e;exact e);obtain ⟨⟨la,lc,rfl,_⟩,_⟩:=hlv;rw [List.length_map];clear hat)
      | (go_at_call 77;refine (NM.out _).mono ?_;rintro e w2 ⟨rfl,k2⟩;have K2:=zz0 k2;clear k2;have B2:=K2.out.at D1.out.blk (fun e=>e);have e2:=dk_2 B2;have e0:=dk_0 B2;have M2:=zz0 (FlAt.keep M1.out K2.out (fun e=>e) (fun _ _ e=>e) (fun _ e=>e));clear B2))
    obtain ⟨es,clock,hes,hsz⟩:=zcO M2.out
    have S0:w2.drew.cell? ⟨p,0,none⟩=some (.int .i64 Y.room)∧w2.drew.cell? ⟨p,2,none⟩=some (.map (some h))∧w2.drew.heap[h]? = some (.map es clock)∧Keep Non w2 w2.drew:=⟨e0,e2,hes,(Keep.refl _ _).drew⟩
    have USED:Hid (∀ W,(W.cell? ⟨p,0,none⟩=some (.int .i64 Y.room)∧W.cell? ⟨p,2,none⟩=some (.map (some h))∧W.heap[h]? = some (.map es clock)∧Keep Non w2 W)→Calls Tryz.prog 90 #[.map (some h)] W fun e w'=>e = .returned (.int .i64 us)∧Keep Non W w'):=zz0 (fun W hW=>by
      have:=zdC T h Y.shown W (FlAt.keep M2.out hW.2.2.2 (fun e=>e) (fun _ _ e=>e) (fun _ e=>e)) (by rw [HUS.out];omega)
      rw [HUS.out] at this
      exact this)
    have wr1:IntKind.i64.wrap ((us:Int) - (ly.length:Int))=(us:Int) - (ly.length:Int):=IntWalk.i64_in _ (by omega)
    have wr2:IntKind.i64.wrap ((us:Int) - (ly.length:Int)+(b.length:Int))=(us:Int) - (ly.length:Int)+(b.length:Int):=IntWalk.i64_in _ (by omega)
    have wr3:(us:Int) - (ly.length:Int)+(b.length:Int)≤(Y.room:Int):=by omega
    refine wp_region_noPanic ?_
    refine wp_region_held_drew (S:=fun W=>W.cell? ⟨p,0,none⟩=some (.int .i64 Y.room)∧W.cell? ⟨p,2,none⟩=some (.map (some h))∧W.heap[h]? = some (.map es clock)∧Keep Non w2 W) (by as_aux_lemma=>kernel_rfl) S0 (fun hHeld=>?_)
    refine tq 0 ?_;refine tq 1 ?_;refine tq 2 ?_
    refine tu (i:=3) ?_
    simp only [Act.put,List.setIfInBounds_toArray,List.set_cons_zero,List.set_cons_succ]
    refine tu (i:=4) ?_
    simp only [Act.put,List.setIfInBounds_toArray,List.set_cons_zero,List.set_cons_succ]
    refine tu (i:=5) ?_
    simp only [Act.put,List.setIfInBounds_toArray,List.set_cons_zero,List.set_cons_succ]
    refine tu (i:=6) ?_
    simp only [Act.put,List.setIfInBounds_toArray,List.set_cons_zero,List.set_cons_succ]
    refine tu (i:=7) ?_
    simp only [Act.put,List.setIfInBounds_toArray,List.set_cons_zero,List.set_cons_succ]
    refine tu (i:=8) ?_
    simp only [Act.put,List.setIfInBounds_toArray,List.set_cons_zero,List.set_cons_succ]
    refine tq 9 ?_;refine tq 10 ?_;refine tq 11 ?_;refine tq 12 ?_;refine tq 13 ?_;refine tq 14 ?_;refine tq 16 ?_;refine tq 17 ?_;refine tq 19 ?_;refine tq 20 ?_;refine tq 22 ?_;refine tq 23 ?_;refine tq 24 ?_;refine tq 25 ?_
    refine rc (i:=15) (fun K hK=>?_)
    go_simp
    refine (USED.out _ (by assumption)).mono ?_
    rintro e w3 ⟨rfl,k3⟩
    go_wp2_with fail
    refine hK.out _ _ (zhZ (by assumption) k3) (fun hHeld24=>?_)
    clear hK K
    try simp only [Act.put,List.setIfInBounds_toArray,List.set_cons_zero,List.set_cons_succ]
    refine tq 18 ?_;refine tq 21 ?_;refine tq 26 ?_;refine tq 27 ?_;refine tq 28 ?_
    refine wpAnyH_done (by as_aux_lemma=>kernel_rfl) ?_ _
    refine NoPanic.normal ?_
    go_simp
    have K3:=zz0 (zax k3)
    clear k3 hHeld
    go_wp2_with (first
      | (go_at_call 81;refine (za1 _ b _ ((Rd.keep V.out K1.out NP.out).keepNon (K2.out.trans1 K3.out)) (by omega)).mono ?_;rintro e w4 ⟨v4,rfl,k4,o4⟩;obtain ⟨a4,c4,rfl,_,_⟩:=zaa o4;have K4:=zz0 k4;have O4:=zz0 o4;clear k4 o4)
      | (go_at_call 91;refine (zeZ _ _ p s h pv (.slice a4 b.length c4) n b Y _ ((D1.out.keep ((K2.out.trans1 K3.out).trans1 K4.out) (fun _ _ e=>e)).grow (B:=w3.heap.size) ?g1 (fun g e=>O4.out.lt g e)) ⟨Rd.ofOwns O4.out,fun g e=>.inr e⟩ (by omega) hP2 hnl).mono ?_;rotate_left 1;rintro e w5 ⟨rfl,k5,hex⟩;have K5:=zz0 k5;have EX:=zz0 hex;clear k5 hex))
    · go_ret
      obtain ⟨pv',hpv,dd⟩:=EX.out
      exact ⟨rfl,zd0 D.out K1.out ((K2.out.trans1 K3.out).trans1 K4.out) (fun g e=>Nat.le_trans (Nat.le_trans K1.out.size (K2.out.trans1 K3.out).size) (O4.out.lt g e).1) K5.out,_,fun g e=>ze1 (Nat.le_trans K1.out.size ((K2.out.trans1 K3.out).trans1 K4.out).size) (fun g e=>Nat.le_trans (Nat.le_trans K1.out.size (K2.out.trans1 K3.out).size) (O4.out.lt g e).1) hpv e,⟨_,s,h,pv',dd⟩⟩
    · obtain ⟨l1,l2,l3,l4⟩:=D1.out.lts
      have hsz:=(K2.out.trans1 K3.out).size
      exact ⟨by omega,by omega,by omega,fun g e=>by have:=l4 g e;omega⟩
  | false =>
    have hh:has Y.shown (.string n)=false:=hhas
    have hs5:size Y.shown < 512:=Nat.lt_of_not_le (fun e=>hf1 ⟨hhas,e⟩)
    unfold sv at hkey NM ⊢
    generalize hold:fget Y.shown n=old at hf2 hG2
    have HOLD:=zz0 hold
    clear hold hf1
    generalize hus:fused Y.shown=us at hf2 hU2
    have HUS:=zz0 hus
    clear hus
    go_enter Tryz.func39,Tryz.ntmps39
    go_wp2_with (first
      | (go_at_call 89;refine W2.out.mono ?_;rintro e w1 ⟨rfl,k1,d1⟩;have c2:=dk_2 d1.blk;have c0:=dk_0 d1.blk;have M1:=zz0 d1.shown;have K1:=zz0 k1;have D1:=zz0 d1;clear k1 d1)
      | (at_lookup;refine zak rfl _ _ 132 rfl 44 law Tryz.underlying132 (hz _) [] (BsIn.fun1 _ T) (zaP _ _) rfl M1.out _ _ rfl hkey ?_;rw [hh];intro lv ly hlv hat;obtain rfl:ly=old:=(by have e:=HOLD.out;unfold fget at e;rw [hat] at e;exact e);obtain ⟨⟨la,lc,rfl,_⟩,_⟩:=hlv;rw [List.length_map];clear hat)
      | (go_at_call 77;refine (NM.out _).mono ?_;rintro e w2 ⟨rfl,k2⟩;have K2:=zz0 k2;clear k2;have B2:=K2.out.at D1.out.blk (fun e=>e);have e2:=dk_2 B2;have e0:=dk_0 B2;have M2:=zz0 (FlAt.keep M1.out K2.out (fun e=>e) (fun _ _ e=>e) (fun _ e=>e));clear B2))
    obtain ⟨es,clock,hes,hsz⟩:=zcO M2.out
    have LEN:∀ W:World,W.heap[h]? = some (.map es clock)→(Builtin.len_ #[132] 3 #[.map (some h)]).run Tryz.prog W = .ok (.int .i64 es.size) W:=fun W hW=>by simp [Builtin.len_,run_underlying Tryz.underlying132,MapKept.run_getObj_map hW,goInt,Result.andThen]
    have hs8:¬ (512:Int)≤(size Y.shown:Int):=by omega
    have hs6:¬ (512:Int)≤(es.size:Int):=by omega
    have hs7:¬ 512≤es.size:=by omega
    have S0:w2.drew.cell? ⟨p,0,none⟩=some (.int .i64 Y.room)∧w2.drew.cell? ⟨p,2,none⟩=some (.map (some h))∧w2.drew.heap[h]? = some (.map es clock)∧Keep Non w2 w2.drew:=⟨e0,e2,hes,(Keep.refl _ _).drew⟩
    have USED:Hid (∀ W,(W.cell? ⟨p,0,none⟩=some (.int .i64 Y.room)∧W.cell? ⟨p,2,none⟩=some (.map (some h))∧W.heap[h]? = some (.map es clock)∧Keep Non w2 W)→Calls Tryz.prog 90 #[.map (some h)] W fun e w'=>e = .returned (.int .i64 us)∧Keep Non W w'):=zz0 (fun W hW=>by
      have:=zdC T h Y.shown W (FlAt.keep M2.out hW.2.2.2 (fun e=>e) (fun _ _ e=>e) (fun _ e=>e)) (by rw [HUS.out];omega)
      rw [HUS.out] at this
      exact this)
    have wr1:IntKind.i64.wrap ((us:Int) - (ly.length:Int))=(us:Int) - (ly.length:Int):=IntWalk.i64_in _ (by omega)
    have wr2:IntKind.i64.wrap ((us:Int) - (ly.length:Int)+(b.length:Int))=(us:Int) - (ly.length:Int)+(b.length:Int):=IntWalk.i64_in _ (by omega)
    have wr3:(us:Int) - (ly.length:Int)+(b.length:Int)≤(Y.room:Int):=by omega
    refine wp_region_noPanic ?_
    refine wp_region_held_drew (S:=fun W=>W.cell? ⟨p,0,none⟩=some (.int .i64 Y.room)∧W.cell? ⟨p,2,none⟩=some (.map (some h))∧W.heap[h]? = some (.map es clock)∧Keep Non w2 W) (by as_aux_lemma=>kernel_rfl) S0 (fun hHeld=>?_)
    refine tq 0 ?_;refine tq 1 ?_;refine tq 2 ?_;refine tq 3 ?_;refine tq 4 ?_;refine tq 5 ?_;refine tq 6 ?_;refine tq 7 ?_;refine tq 8 ?_;refine tq 9 ?_;refine tq 10 ?_;refine tq 11 ?_;refine tq 12 ?_;refine tq 13 ?_;refine tq 14 ?_;refine tq 16 ?_;refine tq 17 ?_;refine tq 19 ?_;refine tq 20 ?_;refine tq 22 ?_;refine tq 23 ?_;refine tq 24 ?_;refine tq 25 ?_
    refine rc (i:=15) (fun K hK=>?_)
    go_simp
    refine (USED.out _ (by assumption)).mono ?_
    rintro e w3 ⟨rfl,k3⟩
    go_wp2_with fail
    refine hK.out _ _ (zhZ (by assumption) k3) (fun hHeld53=>?_)
    clear hK K
    try simp only [Act.put,List.setIfInBounds_toArray,List.set_cons_zero,List.set_cons_succ]
    refine tq 18 ?_;refine tq 21 ?_;refine tq 26 ?_;refine tq 27 ?_;refine tq 28 ?_
    refine wpAnyH_done (by as_aux_lemma=>kernel_rfl) ?_ _
    refine NoPanic.normal ?_
    go_simp
    have K3:=zz0 (zax k3)
    clear k3 hHeld
    go_wp2_with (first
      | (go_at_call 81;refine (za1 _ b _ ((Rd.keep V.out K1.out NP.out).keepNon (K2.out.trans1 K3.out)) (by omega)).mono ?_;rintro e w4 ⟨v4,rfl,k4,o4⟩;obtain ⟨a4,c4,rfl,_,_⟩:=zaa o4;have K4:=zz0 k4;have O4:=zz0 o4;clear k4 o4)
      | (go_at_call 91;refine (zeZ _ _ p s h pv (.slice a4 b.length c4) n b Y _ ((D1.out.keep ((K2.out.trans1 K3.out).trans1 K4.out) (fun _ _ e=>e)).grow (B:=w3.heap.size) ?g2 (fun g e=>O4.out.lt g e)) ⟨Rd.ofOwns O4.out,fun g e=>.inr e⟩ (by omega) hP2 hnl).mono ?_;rotate_left 1;rintro e w5 ⟨rfl,k5,hex⟩;have K5:=zz0 k5;have EX:=zz0 hex;clear k5 hex))
    · go_ret
      obtain ⟨pv',hpv,dd⟩:=EX.out
      exact ⟨rfl,zd0 D.out K1.out ((K2.out.trans1 K3.out).trans1 K4.out) (fun g e=>Nat.le_trans (Nat.le_trans K1.out.size (K2.out.trans1 K3.out).size) (O4.out.lt g e).1) K5.out,_,fun g e=>ze1 (Nat.le_trans K1.out.size ((K2.out.trans1 K3.out).trans1 K4.out).size) (fun g e=>Nat.le_trans (Nat.le_trans K1.out.size (K2.out.trans1 K3.out).size) (O4.out.lt g e).1) hpv e,⟨_,s,h,pv',dd⟩⟩
    · obtain ⟨l1,l2,l3,l4⟩:=D1.out.lts
      have hsz:=(K2.out.trans1 K3.out).size
      exact ⟨by omega,by omega,by omega,fun g e=>by have:=l4 g e;omega⟩
theorem ziL (F T:Nat→Prop) (p s h:Nat) (pv:Value) (n m:Byt) (X:Dk) (w:World) (d:DiskIn F T w p s h pv X) (hw:X.works.1=0) (hfu:X.fuse≤1000000000) (hn:okName n) (hm:okName m) (hs:size X.shown≤100000) (hp:X.pend.length≤1000000) (hh:fhas X.shown n=true) :
    Calls Tryz.prog 41 #[.pointer (some ⟨p,0,none⟩),sv n,sv m] w fun e w'=>e = .returned .nilIface∧Keep F w w'∧∃ F',(∀ g,F' g→F g∨w.heap.size≤g)∧DiskAt F' w' p (X.works.2.add (.rename n m)):=by
  have W:=zaE F T p s h pv X w d hfu
  rw [hw] at W
  have W2:Hid (Calls Tryz.prog 89 #[.pointer (some ⟨p,0,none⟩)] w fun e w'=>e = .returned .nilIface∧Keep (One p) w w'∧DiskIn F T w' p s h pv X.works.2):=W
  have D:=zz0 d
  obtain ⟨r1,r2,r3,r4⟩:=zav X
  have hX2:size X.works.2.shown≤100000:=by rw [r2];exact hs
  have hP2:X.works.2.pend.length≤1000000:=by rw [r3];exact hp
  have hH2:fhas X.works.2.shown n=true:=by rw [r2];exact hh
  have law:=string_keyed Tryz.underlying9
  have hkey:=zbX n (by unfold maxLen;have:=hn.2.1;omega)
  have hz:=fun w=>Tryz.zeroValue44 w
  have hnl:n.length≤1000:=by have:=hn.2.1;omega
  have hml:m.length≤1000:=by have:=hm.2.1;omega
  have NM:=zz0 (fun w=>zbg n w hn)
  have NM2:=zz0 (fun w=>zbg m w hm)
  clear W d
  generalize X.works.2=Y at W2 hX2 hP2 hH2 ⊢
  have hhas:has Y.shown (.string n)=true:=hH2
  unfold sv at hkey NM NM2 ⊢
  go_enter Tryz.func41,Tryz.ntmps41
  go_wp2_with (first
    | (go_at_call 89;refine W2.out.mono ?_;rintro e w1 ⟨rfl,k1,d1⟩;have K1:=zz0 k1;have D1:=zz0 d1;clear k1 d1)
    | (go_at_call 77;first
        | (with_reducible refine (NM.out _).mono ?_;rintro e w2 ⟨rfl,k2⟩;have K2:=zz0 k2;clear k2)
        | (with_reducible refine (NM2.out _).mono ?_;rintro e w3 ⟨rfl,k3⟩;have K3:=zz0 (K2.out.trans1 k3);clear k3;have B3:=K3.out.at D1.out.blk (fun e=>e);have c2:=dk_2 B3;have M3:=zz0 (FlAt.keep D1.out.shown K3.out (fun e=>e) (fun _ _ e=>e) (fun _ e=>e));clear B3))
    | (at_lookup;refine zak rfl _ _ 132 rfl 44 law Tryz.underlying132 (hz _) [] (BsIn.fun1 _ T) (zaP _ _) rfl M3.out _ _ rfl hkey ?_;rw [hhas];intro lv ly hlv hat;obtain ⟨⟨la,lc,rfl,_⟩,_⟩:=hlv;clear hat)
    | (go_at_call 91;refine (zg2 F T p s h pv n m Y _ (D1.out.keep K3.out (fun _ _ e=>e)) (by omega) hP2 hnl hml hH2).mono ?_;rintro e w5 ⟨rfl,k5,hex⟩;have K5:=zz0 k5;have EX:=zz0 hex;clear k5 hex))
  go_ret
  obtain ⟨pv',hpv,dd⟩:=EX.out
  exact ⟨rfl,((K1.out.mono (fun i _ e=>by have e':i=p:=e;rw [e'];exact D.out.inF.1)).trans1 K3.out.ofNon).trans1 K5.out,_,fun g e=>by rcases e with e | e;exact .inl e;rcases hpv g e with q | q;exact .inl q;exact .inr (Nat.le_trans (Nat.le_trans K1.out.size K3.out.size) q),⟨_,s,h,pv',dd⟩⟩
theorem zgd (F T:Nat→Prop) (p s h:Nat) (pv:Value) (n m:Byt) (X:Dk) (w:World) (d:DiskIn F T w p s h pv X) (hw:X.works.1=0) (hfu:X.fuse≤1000000000) (hn:okName n) (hm:okName m) (hs:size X.shown≤100000) (hp:X.pend.length≤1000000) (hh:fhas X.shown n=false) :
    Calls Tryz.prog 41 #[.pointer (some ⟨p,0,none⟩),sv n,sv m] w fun e w'=>e = .returned (.iface 55 (.int .i64 4))∧Keep (One p) w w'∧DiskIn F T w' p s h pv X.works.2:=by
  have W:=zaE F T p s h pv X w d hfu
  rw [hw] at W
  have W2:Hid (Calls Tryz.prog 89 #[.pointer (some ⟨p,0,none⟩)] w fun e w'=>e = .returned .nilIface∧Keep (One p) w w'∧DiskIn F T w' p s h pv X.works.2):=W
  have D:=zz0 d
  obtain ⟨r1,r2,r3,r4⟩:=zav X
  have hX2:size X.works.2.shown≤100000:=by rw [r2];exact hs
  have hP2:X.works.2.pend.length≤1000000:=by rw [r3];exact hp
  have hH2:fhas X.works.2.shown n=false:=by rw [r2];exact hh
  have law:=string_keyed Tryz.underlying9
  have hkey:=zbX n (by unfold maxLen;have:=hn.2.1;omega)
  have hz:=fun w=>Tryz.zeroValue44 w
  have hnl:n.length≤1000:=by have:=hn.2.1;omega
  have hml:m.length≤1000:=by have:=hm.2.1;omega
  have NM:=zz0 (fun w=>zbg n w hn)
  have NM2:=zz0 (fun w=>zbg m w hm)
  clear W d
  generalize X.works.2=Y at W2 hX2 hP2 hH2 ⊢
  have hhas:has Y.shown (.string n)=false:=hH2
  unfold sv at hkey NM NM2 ⊢
  go_enter Tryz.func41,Tryz.ntmps41
  go_wp2_with (first
    | (go_at_call 89;refine W2.out.mono ?_;rintro e w1 ⟨rfl,k1,d1⟩;have K1:=zz0 k1;have D1:=zz0 d1;clear k1 d1)
    | (go_at_call 77;first
        | (with_reducible refine (NM.out _).mono ?_;rintro e w2 ⟨rfl,k2⟩;have K2:=zz0 k2;clear k2)
        | (with_reducible refine (NM2.out _).mono ?_;rintro e w3 ⟨rfl,k3⟩;have K3:=zz0 (K2.out.trans1 k3);clear k3;have B3:=K3.out.at D1.out.blk (fun e=>e);have c2:=dk_2 B3;have M3:=zz0 (FlAt.keep D1.out.shown K3.out (fun e=>e) (fun _ _ e=>e) (fun _ e=>e));clear B3))
    | (at_lookup;refine zak rfl _ _ 132 rfl 44 law Tryz.underlying132 (hz _) [] (BsIn.fun1 _ T) (zaP _ _) rfl M3.out _ _ rfl hkey ?_;rw [hhas];intro lv ly hlv hat;obtain ⟨⟨la,lc,rfl,_⟩,_⟩:=hlv;clear hat))
  go_ret
  exact ⟨rfl,K1.out.trans1 K3.out.ofNon,D1.out.keep K3.out (fun _ _ e=>e)⟩
theorem ziJ (F T:Nat→Prop) (p s h:Nat) (pv:Value) (n:Byt) (X:Dk) (w:World) (d:DiskIn F T w p s h pv X) (hw:X.works.1=0) (hfu:X.fuse≤1000000000) (hn:okName n) (hs:size X.shown≤100000) (hp:X.pend.length≤1000000) (hh:fhas X.shown n=true) :
    Calls Tryz.prog 92 #[.pointer (some ⟨p,0,none⟩),sv n] w fun e w'=>e = .returned .nilIface∧Keep F w w'∧∃ F',(∀ g,F' g→F g∨w.heap.size≤g)∧DiskAt F' w' p (X.works.2.add (.remove n)):=by
  have W:=zaE F T p s h pv X w d hfu
  rw [hw] at W
  have W2:Hid (Calls Tryz.prog 89 #[.pointer (some ⟨p,0,none⟩)] w fun e w'=>e = .returned .nilIface∧Keep (One p) w w'∧DiskIn F T w' p s h pv X.works.2):=W
  have D:=zz0 d
  obtain ⟨r1,r2,r3,r4⟩:=zav X
  have hX2:size X.works.2.shown≤100000:=by rw [r2];exact hs
  have hP2:X.works.2.pend.length≤1000000:=by rw [r3];exact hp
  have hH2:fhas X.works.2.shown n=true:=by rw [r2];exact hh
  have law:=string_keyed Tryz.underlying9
  have hkey:=zbX n (by unfold maxLen;have:=hn.2.1;omega)
  have hz:=fun w=>Tryz.zeroValue44 w
  have hnl:n.length≤1000:=by have:=hn.2.1;omega
  have NM:=zz0 (fun w=>zbg n w hn)
  clear W d
  generalize X.works.2=Y at W2 hX2 hP2 hH2 ⊢
  have hhas:has Y.shown (.string n)=true:=hH2
  unfold sv at hkey NM ⊢
  go_enter Tryz.func92,Tryz.ntmps92
  go_wp2_with (first
    | (go_at_call 89;refine W2.out.mono ?_;rintro e w1 ⟨rfl,k1,d1⟩;have K1:=zz0 k1;have D1:=zz0 d1;clear k1 d1)
    | (go_at_call 77;refine (NM.out _).mono ?_;rintro e w3 ⟨rfl,k3⟩;have K3:=zz0 k3;clear k3;have B3:=K3.out.at D1.out.blk (fun e=>e);have c2:=dk_2 B3;have M3:=zz0 (FlAt.keep D1.out.shown K3.out (fun e=>e) (fun _ _ e=>e) (fun _ e=>e));clear B3)
    | (at_lookup;refine zak rfl _ _ 132 rfl 44 law Tryz.underlying132 (hz _) [] (BsIn.fun1 _ T) (zaP _ _) rfl M3.out _ _ rfl hkey ?_;rw [hhas];intro lv ly hlv hat;obtain ⟨⟨la,lc,rfl,_⟩,_⟩:=hlv;clear hat)
    | (go_at_call 91;refine (zg1 F T p s h pv n Y _ (D1.out.keep K3.out (fun _ _ e=>e)) (by omega) hP2 hnl hH2).mono ?_;rintro e w5 ⟨rfl,k5,hex⟩;have K5:=zz0 k5;have EX:=zz0 hex;clear k5 hex))
  go_ret
  obtain ⟨pv',hpv,dd⟩:=EX.out
  exact ⟨rfl,((K1.out.mono (fun i _ e=>by have e':i=p:=e;rw [e'];exact D.out.inF.1)).trans1 K3.out.ofNon).trans1 K5.out,_,fun g e=>by rcases e with e | e;exact .inl e;rcases hpv g e with q | q;exact .inl q;exact .inr (Nat.le_trans (Nat.le_trans K1.out.size K3.out.size) q),⟨_,s,h,pv',dd⟩⟩
theorem zgb (F T:Nat→Prop) (p s h:Nat) (pv:Value) (n:Byt) (X:Dk) (w:World) (d:DiskIn F T w p s h pv X) (hw:X.works.1=0) (hfu:X.fuse≤1000000000) (hn:okName n) (hs:size X.shown≤100000) (hp:X.pend.length≤1000000) (hh:fhas X.shown n=false) :
    Calls Tryz.prog 92 #[.pointer (some ⟨p,0,none⟩),sv n] w fun e w'=>e = .returned (.iface 55 (.int .i64 4))∧Keep (One p) w w'∧DiskIn F T w' p s h pv X.works.2:=by
  have W:=zaE F T p s h pv X w d hfu
  rw [hw] at W
  have W2:Hid (Calls Tryz.prog 89 #[.pointer (some ⟨p,0,none⟩)] w fun e w'=>e = .returned .nilIface∧Keep (One p) w w'∧DiskIn F T w' p s h pv X.works.2):=W
  have D:=zz0 d
  obtain ⟨r1,r2,r3,r4⟩:=zav X
  have hX2:size X.works.2.shown≤100000:=by rw [r2];exact hs
  have hP2:X.works.2.pend.length≤1000000:=by rw [r3];exact hp
  have hH2:fhas X.works.2.shown n=false:=by rw [r2];exact hh
  have law:=string_keyed Tryz.underlying9
  have hkey:=zbX n (by unfold maxLen;have:=hn.2.1;omega)
  have hz:=fun w=>Tryz.zeroValue44 w
  have hnl:n.length≤1000:=by have:=hn.2.1;omega
  have NM:=zz0 (fun w=>zbg n w hn)
  clear W d
  generalize X.works.2=Y at W2 hX2 hP2 hH2 ⊢
  have hhas:has Y.shown (.string n)=false:=hH2
  unfold sv at hkey NM ⊢
  go_enter Tryz.func92,Tryz.ntmps92
  go_wp2_with (first
    | (go_at_call 89;refine W2.out.mono ?_;rintro e w1 ⟨rfl,k1,d1⟩;have K1:=zz0 k1;have D1:=zz0 d1;clear k1 d1)
    | (go_at_call 77;refine (NM.out _).mono ?_;rintro e w3 ⟨rfl,k3⟩;have K3:=zz0 k3;clear k3;have B3:=K3.out.at D1.out.blk (fun e=>e);have c2:=dk_2 B3;have M3:=zz0 (FlAt.keep D1.out.shown K3.out (fun e=>e) (fun _ _ e=>e) (fun _ e=>e));clear B3)
    | (at_lookup;refine zak rfl _ _ 132 rfl 44 law Tryz.underlying132 (hz _) [] (BsIn.fun1 _ T) (zaP _ _) rfl M3.out _ _ rfl hkey ?_;rw [hhas];intro lv ly hlv hat;obtain ⟨⟨la,lc,rfl,_⟩,_⟩:=hlv;clear hat))
  go_ret
  exact ⟨rfl,K1.out.trans1 K3.out.ofNon,D1.out.keep K3.out (fun _ _ e=>e)⟩
end Go.Proofs.YtnboipdpccnedaaGreatDoor
