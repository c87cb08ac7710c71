/- vault.Open, where there is no manifest:  -/
import Derived.Test.YtpojgmeoaflmoaaGreatDoorQ17
import Derived.Test.YtpojgmeoaflmoaaGreatDoorQ18
set_option linter.unusedVariables false
set_option maxRecDepth 100000
set_option maxHeartbeats 16000000
namespace Go.Proofs.YtpojgmeoaflmoaaGreatDoor
open Go.RowKit Go.Maps
section
attribute [local go_sem ↓] zbB zU zbC zbD zV zbE zab zbK
theorem zjR (F0:Nat→Prop)(p:Nat)(X:Dk)(a k f:Nat)(w:World)(d0:zQ F0 w p X)(hd:X.free)(hl:X.lim a k f)(ha:a≤505)(hk:k+a≤990)(hf:f≤400000000)(ht:X.tidy)(hh:zz X.shown (zw 0)=false) :
 Calls Tryz.prog 18 #[.pointer (some ⟨p,0,none⟩)] w fun e w'=>∃b q,e = .returned (.tuple #[.pointer (some ⟨b,0,none⟩),.nilIface])∧w'.heap[b]? = some (VtB q (.slice none 0 0))∧za F0 w w'∧w.heap.size≤b∧∃F',zq5 F' F0 w∧¬F' b∧(∀g,F' g→g<w'.heap.size)∧zk F' w' q p X:=by
 have SO:Hid (Calls Tryz.prog 37 #[.pointer (some ⟨p,0,none⟩)] w fun e w'=>∃q,e = .returned (.tuple #[.pointer (some ⟨q,0,none⟩),.nilIface])∧w.heap.size≤q∧zn F0 w q p X w'):=zz0 (by
  refine(zeB F0 p X a k f w d0 hd hl ha hk hf (fun n h=>(ht n h).1)).mono ?_
  rintro e w' ⟨q,ns,rfl,hq,hp,t⟩;rw[zf9 ht ns hp d0.str] at t;exact⟨q,rfl,hq,t⟩)
 have TT:=zz0 (fun W=>zd3 0 W (by omega))
 have GT:=zz0 (fun F q W (d:zk F W q p X)=>zdX F q p (zw 0) X W d (zaD 0 (by omega)) hd.1 hh)
 have EE:=ze4 4 4;clear d0 hd hl ht hh;unfold sv at TT GT
 go_enter Tryz.func18,Tryz.ntmps18
 go_wp2_with(go_at_call 37;refine SO.out.mono ?_;rintro r w1 ⟨q,rfl,hq,k1,F1,s1,d1⟩;have K1:=zz0 k1;have S1:=zz0 s1;have D1:=zz0 d1;clear k1 s1 d1)
 have kB:za zq2 w1 (w1.alloc (VtB q (.slice none 0 0))):=(za.refl _ _).alloc _;have BB:=zz0 (ze w1 (VtB q (.slice none 0 0)));have x1:=vt_1 (ze w1 (VtB q (.slice none 0 0)));have KB:=zz0 kB;have TTB:=zz0 (TT.out (w1.alloc (VtB q (.slice none 0 0))));have DB:=zz0 (fun W (k:za zq2 (w1.alloc (VtB q (.slice none 0 0))) W)=>D1.out.keep (kB.trans1 k) (fun _ _ e=>e))
 have VB:Hid (∀W,za zq2 (w1.alloc (VtB q (.slice none 0 0))) W→W.cell? ⟨w1.heap.size,1,none⟩=some (.slice none 0 0)):=zz0 (fun W k=>vt_1 (k.at (ze w1 _) (fun e=>e)))
 unfold VtB at x1 TTB;clear kB TT;refine wp_loop_rounds 1 ?_;rw[rounds_succ]
 go_wp2_with(first
  |(go_at_call 49;refine TTB.out.mono ?_;rintro r w2 ⟨rfl,k2⟩;have GTW:=zz0 (GT.out F1 q w2 (DB.out _ k2));have K2:=zz0 k2;clear k2)
  |(go_at_call 48;refine GTW.out.mono ?_;rintro r w3 ⟨rfl,k3⟩;have x3:=VB.out _ (K2.out.trans1 k3);have K3:=zz0 (K2.out.trans1 k3);clear k3)
  |(go_at_call 51;refine(zeO none 0 w3).mono ?_;rintro r w4 ⟨rfl,k4⟩;have K4:=zz0 (K3.out.trans1 k4);clear k4))
 go_ret2;have k14:=KB.out.trans1 K4.out;have kF:za F0 w w4:=K1.out.trans1 k14.ofNon;have hs1:=K1.out.size;have hs4:=k14.size;have sB:(w1.alloc (VtB q (.slice none 0 0))).heap.size=w1.heap.size+1:=by simp
 have hs5:=K4.out.size;refine⟨_,q,rfl,K4.out.at BB.out (fun e=>e),kF,hs1,fun g=>F1 g∧g<w1.heap.size,fun g x=>S1.out g x.1,fun x=>by have:=x.2;omega,fun g x=>by have:=x.2;omega,?_⟩
 have d:=D1.out;obtain⟨b1,i1,G,dg,hg⟩:=d;have dl:zk (fun g=>F1 g∧g<w1.heap.size) w1 q p X:=⟨b1,⟨i1,lt_of_block b1⟩,fun g=>G g∧g<w1.heap.size,dg.low,fun g x=>⟨⟨(hg g x.1).1,x.2⟩,(hg g x.1).2⟩⟩
 exact dl.keep k14 (fun _ _ e=>e)
end
section
attribute [local go_sem ↓] zbB zU zbC zbD zV zbE zab zbK
end
theorem zk.low {F:Nat→Prop}{w:World}{q p:Nat}{X:Dk}(d:zk F w q p X):zk (fun g=>F g∧g<w.heap.size) w q p X:=by
 obtain⟨b1,i1,G,dg,hg⟩:=d;exact⟨b1,⟨i1,lt_of_block b1⟩,fun g=>G g∧g<w.heap.size,dg.low,fun g x=>⟨⟨(hg g x.1).1,x.2⟩,(hg g x.1).2⟩⟩
theorem zjb {w w2:World}{m:Mf}{a2 pa:Option Addr}{c2 pc:Nat}(h32:zbI m.parts)(k2:za zq2 w w2)(bx:w2.heap[w.heap.size]? = some (zq1 m (.slice pa m.parts.length pc)))(o2:w2.ownsRow (w.heap.size+1) 125 35 (.slice a2 m.parts.length c2) m.parts.length (zaP m.parts)) :
 (w2.setRow w.heap.size (zq6 m (.slice a2 m.parts.length c2)).toArray).heap[w.heap.size]? = some (zq1 m (.slice a2 m.parts.length c2))∧za zq2 w (w2.setRow w.heap.size (zq6 m (.slice a2 m.parts.length c2)).toArray)∧(w2.setRow w.heap.size (zq6 m (.slice a2 m.parts.length c2)).toArray).ownsRow w.heap.size 125 35 (.slice a2 m.parts.length c2) m.parts.length (zaP m.parts):=by
 have k:za (zq3 w.heap.size) w2 (w2.setRow w.heap.size (zq6 m (.slice a2 m.parts.length c2)).toArray):=(za.refl (zq3 _) _).setRow (.inl (zK _)) _;exact⟨setRow_heap _ _ _ _ _ _ bx,k2.trans k (fun _ _ e=>e) (fun g hg e=>by have e':g=w.heap.size:=e;omega),zg (zc o2 k (fun g e e2=>by have e':g=w.heap.size:=e2;have:=(o2.lt g e).1;omega)) (by omega)⟩
section
attribute [local go_sem ↓] zbB zU zbC zbD zV zbE zab zbK hBS39
end
end Go.Proofs.YtpojgmeoaflmoaaGreatDoor
