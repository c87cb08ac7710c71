/- sync.Once, whose function makes a maker' -/
import Derived.Defers
import Derived.Laws.Pointers
import Derived.Laws.LoneSync
import Derived.RegionCalls
import Derived.ChangeAlike
import Derived.Test.YtpojgmeoaflmoaaGreatDoorQ01
set_option linter.unusedVariables false
set_option maxRecDepth 100000
set_option maxHeartbeats 16000000
namespace Go.Proofs.YtpojgmeoaflmoaaGreatDoor
open Go.RowKit
theorem zek (w:World):(callFunc 387 #[]).run Tryz.prog w = .ok (.value (.tuple #[])) w:=run_call_mark0 Tryz.func387 (by kernel_rfl) (by kernel_rfl) (by kernel_rfl) .disable (by kernel_rfl) w
theorem zfu (w:World):(callFunc 389 #[]).run Tryz.prog w = .ok (.value (.tuple #[])) w:=run_call_mark0 Tryz.func389 (by kernel_rfl) (by kernel_rfl) (by kernel_rfl) .enable (by kernel_rfl) w
theorem zhG (a:Addr)(w:World):(callFunc 390 #[.pointer (some a)]).run Tryz.prog w = .ok (.value (.tuple #[])) w:=run_call_marked Tryz.func390 (by kernel_rfl) (by kernel_rfl) (by kernel_rfl) .acquire (by kernel_rfl) a w
theorem zhH (a:Addr)(w:World):(callFunc 392 #[.pointer (some a)]).run Tryz.prog w = .ok (.value (.tuple #[])) w:=run_call_marked Tryz.func392 (by kernel_rfl) (by kernel_rfl) (by kernel_rfl) .releaseMerge (by kernel_rfl) a w
theorem zfM (a:Addr)(x:Value)(u:FrameMode)(w:World)(hc:w.cell? a=some x)(hz:w.frozen? a=false) :
 CallsD Tryz.prog 382 #[.pointer (some a),.bool true] u w fun e u' w'=>u'=u∧(e = .returned (.tuple #[])∧w'=w.drew.setCell a (.int .u32 1)):=by
 have hc':w.drew.cell? a=some x:=by go_simp
 have hz':w.drew.frozen? a=false:=by go_simp
 have hst:=run_call_store (P:=Tryz.prog) Tryz.func385 (by kernel_rfl) (by kernel_rfl) (by kernel_rfl) (by kernel_rfl) (k:=.u32) (y:=1) hc' hz'
 go_enter_d Tryz.func382,Tryz.ntmps382
 go_wp2
 go_region_calls
 all_goals(go_end0;exact⟨rfl,rfl⟩)
theorem zfI (a:Addr)(u:FrameMode)(w:World)(hc:w.cell? a=some (.int .i32 1))(hz:w.frozen? a=false) :
 CallsD Tryz.prog 381 #[.pointer (some a)] u w fun e u' w'=>u'=u∧(e = .returned (.tuple #[])∧w'=w.setCell a (.int .i32 0)):=by
 have hd:=zek;have he:=zfu;have hr:=zhH;have hadd:=run_call_add (P:=Tryz.prog) Tryz.func393 (by kernel_rfl) (by kernel_rfl) (by kernel_rfl) .i32 (by kernel_rfl) (y:=-1) (s:=0) hc hz (by simp[go_sem];rfl)
 have hcv:=run_convert_to_unsafe (P:=Tryz.prog) (src:=459) (dst:=391) Tryz.underlying459 Tryz.underlying391 (by kernel_rfl) hc
 go_enter_d Tryz.func381,Tryz.ntmps381
 go_wp2
 go_end0
 go_wp2
theorem zl1 (a:Addr)(w:World)(hc:w.cell? a=some (.int .i32 0))(hz:w.frozen? a=false) :
 Calls Tryz.prog 380 #[.pointer (some a)] w fun e w'=>e = .returned (.tuple #[])∧w'=w.setCell a (.int .i32 1):=by
 have hd:=zek;have he:=zfu;have ha:=zhG;have hcas:=run_call_cas_hit (P:=Tryz.prog) Tryz.func388 (by kernel_rfl) (by kernel_rfl) (by kernel_rfl) .i32 (by kernel_rfl) (y:=1) hc hz
 have hc':(w.setCell a (.int .i32 1)).cell? a=some (.int .i32 1):=World.cell?_setCell_same w a _ hc;have hcv:=run_convert_to_unsafe (P:=Tryz.prog) (src:=459) (dst:=391) Tryz.underlying459 Tryz.underlying391 (by kernel_rfl) hc'
 go_enter Tryz.func380,Tryz.ntmps380
 go_wp2
 first|go_end0|(simp only[Exit.inBlock,Exit.then];refine bodyPost_ret (results_none rfl _ _ _) rfl ?_)|refine bodyPost_ret (results_none rfl _ _ _) rfl ?_
 go_wp2
theorem zfO (a:Addr)(w:World)(h:w.cell? a=some (.int .u32 0)) :
 Calls Tryz.prog 375 #[.pointer (some a)] w fun e w'=>e = .returned (.bool false)∧w'=w:=by
 have hl:=run_call_load (P:=Tryz.prog) Tryz.func379 (by kernel_rfl) (by kernel_rfl) (by kernel_rfl) .u32 (by kernel_rfl) (w:=w) (a:=a) (x:=0) h
 go_enter Tryz.func375,Tryz.ntmps375
 go_wp2_with fail
 go_ret;exact⟨rfl,rfl⟩
theorem zc9.drew {w:World}{b j:Nat}{o:Nat→Option Value}(h:zc9 w b j o):zc9 w.drew b j o:=h
theorem zmH (b:Nat)(o:Nat→Option Value)(w:World)(h:zc9 w b 0 o)(h0:o 0=some (.int .u32 0))(h1:o 1=some (.int .i32 0)) :
 Calls Tryz.prog 376 #[.pointer (some ⟨b,0,none⟩),.func (.func 368) #[.pointer (some ⟨b,0,none⟩)] #[]] w fun e w'=>e = .returned (.tuple #[])∧za (zq3 b) w w'∧∃o',zc9 w' b 256 o':=by
 have m1:=h.set 1 (by omega) (.int .i32 1) (by omega)
 have l0:(w.setCell ⟨b,1,none⟩ (.int .i32 1)).cell? ⟨b,0,none⟩=some (.int .u32 0):=by rw[m1.other 0 (by omega),if_neg (by omega)];exact h0
 have hnot:∀(x:Bool) (w:World),(Op.unary .not (.bool x)).run Tryz.prog w = .ok (.bool (!x)) w:=fun _ _=>rfl
 have c1:w.cell? ⟨b,1,none⟩=some (.int .i32 0):=by rw[h.other 1 (by omega)];exact h1
 have f1:=h.free 1;have M1:=zz0 m1;have H:=zz0 h;clear m1 h
 go_enter_defers Tryz.func376,Tryz.ntmps376
 go_wp2_with(first
  |(go_at_call 380;refine(zl1 ⟨b,1,none⟩ _ c1 f1).mono ?_;rintro e w' ⟨rfl,rfl⟩)
  |(go_at_call 375;refine(zfO ⟨b,0,none⟩ _ l0).mono ?_;rintro e w' ⟨rfl,rfl⟩)
  |(go_at_call 368;refine(znF b _ _ M1.out).mono ?_;rintro e w2 ⟨rfl,k2,m2⟩;have K2:=zz0 k2;have M2:=zz0 m2;clear k2 m2))
 -- the two deferred calls,the last laid first
 have m3:=M2.out.drew.set 0 (by omega) (.int .u32 1) (by omega)
 have M3:=zz0 m3;have m4:=m3.set 1 (by omega) (.int .i32 0) (by omega)
 have M4:=zz0 m4;clear m3 m4;refine leaves_cons (f:=382) (args:=#[.pointer (some ⟨b,0,none⟩),.bool true]) (by simp) (by simp[go_sem]) ?_
 refine(zfM ⟨b,0,none⟩ (.int .u32 0) .returning _ (by rw[M2.out.other 0 (by omega),if_neg (by omega)];exact h0) (M2.out.free 0)).mono ?_
 rintro e u' w'' ⟨rfl,rfl,rfl⟩;refine leaves_cons (f:=381) (args:=#[.pointer (some ⟨b,1,none⟩)]) (by simp[settle]) (by simp[go_sem]) ?_
 refine(zfI ⟨b,1,none⟩ _ _ (by rw[M3.out.other 1 (by omega)];rfl) (M3.out.free 1)).mono ?_
 rintro e u' w'' ⟨rfl,rfl,rfl⟩;have hk:za (zq3 b) w ((w2.drew.setCell ⟨b,0,none⟩ (.int .u32 1)).setCell ⟨b,1,none⟩ (.int .i32 0)):=((((za.refl _ w).setOne 1 _).trans1 K2.out).drew.setOne 0 _).setOne 1 _;have hm:=M4.out;simp[Leaves,settle,results,Tryz.results376];exact⟨hk,_,hm⟩
theorem zma (b:Nat)(o:Nat→Option Value)(w:World)(h:zc9 w b 0 o)(h0:o 0=some (.int .u32 0))(h1:o 1=some (.int .i32 0)) :
 Calls Tryz.prog 367 #[.pointer (some ⟨b,0,none⟩),.func (.func 368) #[.pointer (some ⟨b,0,none⟩)] #[]] w fun e w'=>e = .returned (.tuple #[])∧za (zq3 b) w w'∧∃o',zc9 w' b 256 o':=by
 have l0:w.cell? ⟨b,0,none⟩=some (.int .u32 0):=by rw[h.other 0 (by omega)];exact h0
 have H:=zz0 h;clear h
 go_enter Tryz.func367,Tryz.ntmps367
 go_wp2_with(first
  |(go_at_call 375;refine(zfO ⟨b,0,none⟩ _ l0).mono ?_;rintro e w' ⟨rfl,rfl⟩)
  |(go_at_call 376;refine(zmH b o _ H.out h0 h1).mono ?_;rintro e w2 ⟨rfl,k2,m2⟩;have K2:=zz0 k2;have M2:=zz0 m2;clear k2 m2))
 go_end0
 exact⟨rfl,K2.out,M2.out⟩
theorem znc (b i:Nat)(v:Int)(w:World)(h:w.cell? ⟨b,i,none⟩=some (.int .i64 v))(hf:w.frozen? ⟨b,i,none⟩=false)(h0:0≤v)(h1:v≤1000000) :
 Calls Tryz.prog 318 #[.pointer (some ⟨b,i,none⟩),.int .i64 1] w fun e w'=>e = .returned (.int .i64 (v+1))∧w'=w.setCell ⟨b,i,none⟩ (.int .i64 (v+1)):=by
 have hl:=run_call_add (P:=Tryz.prog) Tryz.func347 (by kernel_rfl) (by kernel_rfl) (by kernel_rfl) .i64 (by kernel_rfl) (y:=1) (s:=v+1) h hf (by simp[go_sem,IntWalk.i64_in _ (show -9223372036854775808≤v+1∧v+1≤9223372036854775807 by omega)])
 go_enter Tryz.func318,Tryz.ntmps318
 go_wp2
 go_ret;exact⟨rfl,rfl⟩
theorem zpc (b:Nat)(o:Nat→Option Value)(w:World)(h:zc9 w b 0 o)(h2:o 259=some (.int .i64 0)) :
 Calls Tryz.prog 279 #[.pointer (some ⟨b,0,none⟩)] w fun e w'=>e = .returned (.tuple #[])∧za (zq3 b) w w'∧zc9 w' b 0 (fun i=>if i=259 then some (.int .i64 1) else o i):=by
 have c:=h.other 259 (by omega)
 rw[h2] at c;have f:=h.free 259;have H:=zz0 (h.set 259 (by omega) (.int .i64 1) (by omega))
 clear h
 go_enter Tryz.func279,Tryz.ntmps279
 go_wp2_with(go_at_call 318;refine(znc b 259 0 _ c f (by omega) (by omega)).mono ?_;rintro e w' ⟨rfl,rfl⟩)
 go_end0
 exact⟨rfl,(za.refl _ _).setOne _ _,H.out⟩
def crcStep (x:Int)(c:UInt8):Int:=bits .xor .u32 (tabI (bits .xor .u8 (x%256) c.toNat)) (x / 256)
def crcGo (x:Int)(l:List UInt8):Int:=l.foldl crcStep x
def not32 (x:Int):Int:=bits .xor .u32 IntKind.u32.max x
def zdF (l:List UInt8):Int:=not32 (crcGo (not32 0) l)
theorem zhc (x:Int)(hx:0≤x∧x<4294967296):∀l:List UInt8,0≤crcGo x l∧crcGo x l<4294967296
 |[]=>hx
 |c::l=>zhc (crcStep x c) (bits32 _ _ _) l
theorem znr (l:List UInt8):0≤crcGo (not32 0) l∧crcGo (not32 0) l<4294967296:=zhc _ (bits32 _ _ _) l
theorem xor8 (x y:Int):∃k:Nat,bits .xor .u8 x y=(k:Int)∧k<256:=by
 have h:=wf_bits .xor .u8 x y;simp[Lit.wf,IntKind.min,IntKind.max,IntKind.signed,IntKind.bits] at h;exact⟨(bits .xor .u8 x y).toNat,by omega,by omega⟩
theorem zkb (b:Nat)(o:Nat→Option Value)(v:Value)(l:List UInt8)(w:World)(h:zc9 w b 0 o)(h0:o 0=some (.int .u32 0))(h1:o 1=some (.int .i32 0))(hv:Bs w v l)(hll:l.length≤100000000)(hb:∀g,v.ownBlock=some g→g≠b) :
 Calls Tryz.prog 348 #[.pointer (some ⟨b,0,none⟩),.int .u32 0,v] w fun e w'=>e = .returned (.int .u32 (zdF l))∧za (zq3 b) w w':=by
 have H:=zz0 h;have V:=zz0 hv;have VB:=zz0 hb;obtain⟨a,c,rfl,_⟩:=hv;rw[List.length_map] at V VB ⊢;clear h hb
 go_enter Tryz.func348,Tryz.ntmps348
 go_wp2_with(go_at_call 367;refine(zma b o _ H.out h0 h1).mono ?_;rintro e w2 ⟨rfl,k2,o2,m2⟩;have K2:=zz0 k2;have M2:=zz0 m2;clear k2 m2)
 go_loopw [7,26] (fun o i wr=>∃j:Nat,j≤l.length∧i = .int .i64 j∧o = .int .u32 (crcGo (not32 0) (l.take j))∧wr=w2) (fun _ i _=>l.length-(intOf i).toNat)
 case atStart=>exact⟨0,by omega,rfl,rfl,rfl⟩
 case round =>
  obtain⟨j,hj,rfl,rfl,rfl⟩:=hrel;by_cases hlt:j<l.length
  ·have hx:=znr (l.take j)
   have HS:Hid (crcGo (not32 0) (l.take (j+1))=crcStep (crcGo (not32 0) (l.take j)) l[j]):=zz0 (by rw[List.take_succ_eq_append_getElem hlt,crcGo,List.foldl_append];rfl)
   have hbs:=V.out.keep K2.out (fun g e=>VB.out g e)
   obtain⟨g,off,rfl,hc⟩:∃g off,a=some ⟨g,off,none⟩∧∀j u,(l.map bv)[j]? = some u→wr.cell? ⟨g,off+j,none⟩=some u:=by
    obtain⟨a',c',e,hx⟩:=hbs;injection e with e1 e2 e3
    obtain⟨g,off,e4,hc⟩:=hx (by intro e;have e':=List.map_eq_nil_iff.1 e;rw[e'] at hlt;exact absurd hlt (by simp))
    exact⟨g,off,e1.trans e4,hc⟩
   have hcell:wr.cell? ⟨g,off+j,none⟩=some (.int .u8 (l[j].toNat:Int)):=hc j _ (by simp[bv,hlt])
   have hl256:l[j].toNat<256:=UInt8.toNat_lt _;have hlj:(j:Int)<(l.length:Int):=by omega
   clear hc hbs;generalize crcGo (not32 0) (l.take j)=x at hx HS;generalize l[j]=c8 at hcell hl256 HS;obtain⟨k,hk,hk2⟩:=xor8 (x%256) c8.toNat;have htab:=M2.out.cell k hk2;have HS2:Hid (crcStep x c8=bits .xor .u32 (tabI k) (x / 256)):=zz0 (by unfold crcStep;rw[hk])
   generalize c8.toNat=c' at hcell hl256 hk;have hx1:=hx.1;have hx2:=hx.2;have hk3:(k:Int)<256:=by omega
   go_wp2_with fail
   exact⟨⟨j+1,by omega,by go_num,by rw[HS.out,HS2.out],trivial⟩,by simp[intOf];omega⟩
  ·obtain rfl:j=l.length:=by omega
   rw[List.take_length]
   go_wp2_with fail
   go_ret;exact⟨rfl,K2.out⟩
theorem zoA (b:Nat)(o:Nat→Option Value)(v:Value)(l:List UInt8)(w:World)(h:zc9 w b 0 o)(h0:o 0=some (.int .u32 0))(h1:o 1=some (.int .i32 0))(h2:o 259=some (.int .i64 0))(hv:Bs w v l)(hll:l.length≤100000000)(hb:∀g,v.ownBlock=some g→g≠b) :
 Calls Tryz.prog 319 #[.pointer (some ⟨b,0,none⟩),.int .u32 0,v] w fun e w'=>e = .returned (.int .u32 (zdF l))∧za (zq3 b) w w':=by
 have H:=zz0 h;have V:=zz0 hv;have VB:=zz0 hb;clear h hb;obtain⟨a,c,rfl,_⟩:=hv;rw[List.length_map] at V VB ⊢
 go_enter Tryz.func319,Tryz.ntmps319
 go_wp2_with(first
  |(go_at_call 279;refine(zpc b o _ H.out h2).mono ?_;rintro e w1 ⟨rfl,k1,m1⟩;have K1:=zz0 k1;have M1:=zz0 m1;clear k1 m1)
  |(go_at_call 348;refine(zkb b _ _ l _ M1.out (by rw[if_neg (by omega)];exact h0) (by rw[if_neg (by omega)];exact h1) (V.out.keep K1.out (fun g e=>VB.out g e)) hll VB.out).mono ?_;rintro e w2 ⟨rfl,k2⟩;have K2:=zz0 k2;clear k2))
 go_ret;exact⟨rfl,K1.out.trans1 K2.out⟩
theorem zn0 (b:Nat)(o:Nat→Option Value)(v:Value)(l:List UInt8)(w:World)(h:zc9 w b 0 o)(h0:o 0=some (.int .u32 0))(h1:o 1=some (.int .i32 0))(h2:o 259=some (.int .i64 0))(hv:Bs w v l)(hll:l.length≤100000000)(hb:∀g,v.ownBlock=some g→g≠b) :
 Calls Tryz.prog 282 #[.pointer (some ⟨b,0,none⟩),v] w fun e w'=>e = .returned (.int .u32 (zdF l))∧za (zq3 b) w w':=by
 have H:=zz0 h;have V:=zz0 hv;have VB:=zz0 hb;clear h hb;obtain⟨a,c,rfl,_⟩:=hv;rw[List.length_map] at V VB ⊢
 go_enter Tryz.func282,Tryz.ntmps282
 go_wp2_with(go_at_call 319;refine(zoA b _ _ l _ H.out h0 h1 h2 V.out hll VB.out).mono ?_;rintro e w2 ⟨rfl,k2⟩;have K2:=zz0 k2;clear k2)
 go_ret;exact⟨rfl,K2.out⟩
theorem zfh (w:World) :
 Calls Tryz.prog 224 #[] w fun e w'=>e = .returned (.pointer (some ⟨w.heap.size,0,none⟩))∧za zq2 w w'∧∃o,zc9 w' w.heap.size 0 o∧o 0=some (.int .u32 0)∧o 1=some (.int .i32 0)∧o 259=some (.int .i64 0):=by
 go_enter Tryz.func224,Tryz.ntmps224
 go_wp2_with fail
 go_ret;exact⟨rfl,(za.refl _ _).alloc _,fun i=>Tryz.zeroCells362[i]?,⟨_,ze _ _,by kernel_rfl,fun k hk=>by omega,fun k hk=>rfl⟩,by kernel_rfl,by kernel_rfl,by kernel_rfl⟩
theorem znJ (n:Nat)(w:World)(hn:n≤100000000) :
 Calls Tryz.prog 285 #[.slice none 0 0,.int .i64 n] w fun e w'=>∃v,e = .returned v∧za zq2 w w'∧w'.ownsRow w.heap.size 5 1 v 0 []:=by
 have hb1:Tryz.t5.bytes=1:=rfl;by_cases hn0:n=0
 ·subst hn0
  go_enter Tryz.func285,Tryz.ntmps285
  go_wp2_with fail
  go_ret;exact⟨_,rfl,za.refl _ _,World.ownsRow_nil _ _ _ _⟩
 ·have hns:Builtin.nextslicecap n 0=n:=by unfold Builtin.nextslicecap;rw[if_pos (by omega)]
  have hn1:0<n:=by omega
  have hcap:(Question.appendCap n 0 5).cut (w.tape w.drawn (Question.appendCap n 0 5))=n+w.tape w.drawn (Question.appendCap n 0 5)%(2^63-n):=rfl;have hmod:w.tape w.drawn (Question.appendCap n 0 5)%(2^63-n)<2^63-n:=Nat.mod_lt _ (by omega)
  have HC:=zz0 (And.intro hcap hmod);clear hcap hmod
  go_enter Tryz.func285,Tryz.ntmps285
  go_wp2_with fail
  ·go_ret
   obtain⟨q1,q2⟩:=HC.out;have z0:∀k,(Builtin.zeroCells #[Value.int .u8 0] k).size=k:=fun k=>by simp[Builtin.zeroCells]
   refine⟨_,rfl,((za.refl _ _).alloc _).drew,rfl,.inr ⟨w.heap.size,_,_,rfl,Nat.le_refl _,ze _ _,Nat.zero_le _,?_,?_,rfl⟩⟩
   ·unfold maxLen;omega
   ·rw[Array.size_append,z0,z0];omega
def Bss (w:World)(vs:List Value)(ls:List (List UInt8)):Prop:=vs.length=ls.length∧∀(i:Nat) u l,vs[i]? = some u→ls[i]? = some l→Bs w u l
theorem zfT (g:Nat)(vs:List Value)(ls:List (List UInt8))(c:Nat)(w:World)(h:Rd w (.slice (some ⟨g,0,none⟩) vs.length c) vs)(hb:Bss w vs ls)(hl:ls.flatten.length≤100000000)(hvl:vs.length≤1000) :
 Calls Tryz.prog 236 #[.slice (some ⟨g,0,none⟩) vs.length c] w (NewB w ls.flatten):=by
 have H:=zz0 h;have HB:=zz0 hb;clear h hb;obtain⟨i0,hi0,hz0,hz1,hz2⟩:=info_parts infoU8
 go_enter Tryz.func236,Tryz.ntmps236
 go_wp2_with fail
 go_loopw [3,11] (fun o i wr=>∃j:Nat,j≤vs.length∧i = .int .i64 j∧o = .int .i64 (ls.take j).flatten.length∧wr=w) (fun _ i _=>vs.length-(intOf i).toNat)
 case atStart=>exact⟨0,by omega,rfl,rfl,rfl⟩
 case round =>
  obtain⟨j,hj,rfl,rfl,rfl⟩:=hrel;by_cases hlt:j<vs.length
  ·have hjl:j<ls.length:=by rw[←HB.out.1];exact hlt
   have hu:=(HB.out.2 j vs[j] ls[j] (by simp[hlt]) (by simp[hjl]))
   obtain⟨g',off,e,hc⟩:∃g' off,some (⟨g,0,none⟩:Addr)=some ⟨g',off,none⟩∧∀j u,vs[j]? = some u→wr.cell? ⟨g',off+j,none⟩=some u:=by
    obtain⟨a',c',e,hx⟩:=H.out;injection e with e1 e2 e3
    obtain⟨g,off,e4,hc⟩:=hx (by intro e;rw[e] at hlt;exact absurd hlt (by simp))
    exact⟨g,off,e1.trans e4,hc⟩
   injection e with e
   injection e with e1 e2
   subst e1;subst e2;have hcell:=hc j _ (List.getElem?_eq_getElem hlt);rw[Nat.zero_add] at hcell;obtain⟨a1,c1,e,_⟩:=hu;rw[e,List.length_map] at hcell;have HS:Hid ((ls.take (j+1)).flatten.length=(ls.take j).flatten.length+ls[j].length):=zz0 (by rw[List.take_succ_eq_append_getElem hjl,List.flatten_append,List.length_append,List.flatten_cons,List.flatten_nil,List.append_nil])
   have hle:(ls.take j).flatten.length+ls[j].length≤100000000:=by
    rw[←HS.out];refine Nat.le_trans ?_ hl
    conv=>rhs;rw[←List.take_append_drop (j+1) ls,List.flatten_append,List.length_append]
    omega
   clear hc e;generalize (ls.take j).flatten.length=s0 at HS hle;generalize ls[j].length=s1 at HS hle hcell
   go_wp2_with fail
   exact⟨⟨j+1,by omega,by go_num,by rw[HS.out];go_num,trivial⟩,by simp[intOf];omega⟩
  ·obtain rfl:j=vs.length:=by omega
   rw[HB.out.1,List.take_length];generalize hL:ls.flatten.length=L at hl
   go_wp2_with(go_at_call 285;refine(znJ L _ hl).mono ?_;rintro e w1 ⟨v1,rfl,k1,o1⟩;have K1:=zz0 k1;have O1:=zz0 o1;clear k1 o1)
   have HL:=zz0 hL;clear hL;obtain⟨w0,hw0⟩:∃w0,w0=wr:=⟨_,rfl⟩;subst hw0
   go_loopw [6,27] (fun o i wr2=> ∃j:Nat,j≤ls.length∧i = .int .i64 j∧za zq2 w0 wr2∧wr2.ownsRow w0.heap.size 5 1 o (ls.take j).flatten.length ((ls.take j).flatten.map bv)) (fun _ i _=>ls.length-(intOf i).toNat)
   case atStart=>exact⟨0,by omega,rfl,K1.out,O1.out⟩
   case round =>
    obtain⟨j,hj,rfl,k2,o2⟩:=hrel;have K2:=zz0 k2;have O2:=zz0 o2;clear k2 o2;by_cases hlt:j<ls.length
    ·have hlv:j<vs.length:=by rw[HB.out.1];exact hlt
     have hu:=(HB.out.2 j vs[j] ls[j] (by simp[hlv]) (by simp[hlt])).keepNon K2.out
     obtain⟨g',off,e,hc⟩:∃g' off,some (⟨g,0,none⟩:Addr)=some ⟨g',off,none⟩∧∀j u,vs[j]? = some u→wr.cell? ⟨g',off+j,none⟩=some u:=by
      obtain⟨a',c',e,hx⟩:=H.out.keepNon K2.out;injection e with e1 e2 e3
      obtain⟨g,off,e4,hc⟩:=hx (by intro e;rw[e] at hlv;exact absurd hlv (by simp))
      exact⟨g,off,e1.trans e4,hc⟩
     injection e with e
     injection e with e1 e2
     subst e1;subst e2;have hcell:=hc j _ (List.getElem?_eq_getElem hlv);rw[Nat.zero_add] at hcell;have HU:=zz0 hu;obtain⟨a1,c1,e,_⟩:=hu;rw[e,List.length_map] at hcell HU;have HS:Hid ((ls.take (j+1)).flatten=(ls.take j).flatten++ls[j]):=zz0 (by rw[List.take_succ_eq_append_getElem hlt,List.flatten_append,List.flatten_cons,List.flatten_nil,List.append_nil])
     have hle:(ls.take j).flatten.length+ls[j].length≤100000000:=by
      rw[←List.length_append,←HS.out];refine Nat.le_trans ?_ hl;rw[←HL.out]
      conv=>rhs;rw[←List.take_append_drop (j+1) ls,List.flatten_append,List.length_append]
      omega
     clear hc e;generalize (ls.take j).flatten=s0 at HS hle O2;generalize ls[j]=s1 at HS hle hcell HU;obtain⟨va,vc,rfl,_,_⟩:=zb O2.out
     go_wp2_with(refine zH rfl _ _ 43 rfl w0.heap.size 5 i0 (.int .u8 0) 1 Tryz.underlying43 hi0 hz0 hz1 hz2 rfl _ _ _ rfl O2.out _ rfl (s1.map bv) HU.out (zy s1) (by unfold maxLen;simp;omega) (by simp;omega) K2.out.size ?_;intro v' w' ho hg hpp;have HO3:=zz0 ho;have HG:=zz0 hg;clear ho hg hpp)
     have h3:=HO3.out;rw[←List.map_append,←HS.out] at h3;refine⟨⟨j+1,by omega,by go_num,K2.out.grown HG.out (fun q e=>.inr ((O2.out.lt q e).1)),?_⟩,by simp[intOf];omega⟩
     rw[show(ls.take (j+1)).flatten.length=s0.length+(s1.map bv).length by rw[HS.out];simp]
     exact h3
    ·obtain rfl:j=ls.length:=by omega
     have o2:=O2.out;rw[List.take_length] at o2;have O3:=zz0 o2;clear o2
     go_wp2_with fail
     go_ret;exact⟨_,rfl,K2.out,O3.out⟩
def b8 (y:Int):UInt8:=UInt8.ofNat y.toNat
theorem bv_b8 {y:Int}(h:0≤y∧y<256):Value.int .u8 y=bv (b8 y):=by
 unfold bv b8;rw[UInt8.toNat_ofNat',Nat.mod_eq_of_lt (by omega)]
 congr 1
 omega
def zbO (x:Int):List UInt8:=[b8 (x / 16777216),b8 (x / 65536%256),b8 (x / 256%256),b8 (x%256)]
theorem zgz (x:Int)(h:0≤x∧x<4294967296)(w:World):Calls Tryz.prog 281 #[.int .u32 x] w (NewB w (zbO x)):=by
 have h1:=h.1;have h2:=h.2
 go_enter Tryz.func281,Tryz.ntmps281
 go_wp2_with fail
 go_ret;refine⟨_,rfl,(za.refl _ _).alloc _,rfl,.inr ⟨w.heap.size,4,_,rfl,Nat.le_refl _,ze _ _,Nat.le_refl _,by unfold maxLen;omega,rfl,?_⟩⟩
 rw[bv_b8 (show 0≤x / 16777216∧x / 16777216<256 by omega),bv_b8 (show 0≤x / 65536%256∧x / 65536%256<256 by omega),bv_b8 (show 0≤x / 256%256∧x / 256%256<256 by omega),bv_b8 (show 0≤x%256∧x%256<256 by omega)]
 rfl
theorem zY {w:World}{v:Value}{l:List UInt8}(h:Bs w v l):∃a c,v = .slice a l.length c∧(∀j (hj:j<l.length),∃g off,a=some ⟨g,off,none⟩∧w.cell? ⟨g,off+j,none⟩=some (.int .u8 ((l[j].toNat:Nat):Int))):=by
 obtain⟨a,c,rfl,hx⟩:=h;refine⟨a,c,by rw[List.length_map],fun j hj=>?_⟩
 obtain⟨g,off,rfl,hc⟩:=hx (by intro e;have e':=List.map_eq_nil_iff.1 e;rw[e'] at hj;exact absurd hj (by simp))
 exact⟨g,off,rfl,hc j _ (by simp[bv,hj])⟩
theorem zh0 {l m:List UInt8}{j:Nat}(hl:j<l.length)(hm:j<m.length)(he:l.take j=m.take j):l[j].toNat=m[j].toNat↔l.take (j+1)=m.take (j+1):=by
 rw[List.take_succ_eq_append_getElem hl,List.take_succ_eq_append_getElem hm,he,UInt8.toNat_inj]
 constructor
 ·intro e;rw[e]
 ·intro e
  have:=List.append_cancel_left e;injection this
theorem zly (v v':Value)(l m:List UInt8)(w:World)(h:Bs w v l)(h':Bs w v' m)(hl:l.length≤100000000)(hm:m.length≤100000000) :
 Calls Tryz.prog 280 #[v,v'] w fun e w'=>e = .returned (.bool (l==m))∧za zq2 w w':=by
 have H:=zz0 h;have H':=zz0 h';obtain⟨a,c,rfl,q0⟩:=zY h;obtain⟨a',c',rfl,q1⟩:=zY h';clear h h' q0 q1;by_cases hlen:l.length=m.length
 ·rw[←hlen] at H' ⊢
  have HLEN:=zz0 hlen;clear hlen
  go_enter Tryz.func280,Tryz.ntmps280
  go_wp2_with fail
  go_loopw [13] (fun i wr=>∃j:Nat,j≤l.length∧i = .int .i64 j∧l.take j=m.take j∧za zq2 w wr) (fun i _=>l.length-(intOf i).toNat)
  case atStart=>exact⟨0,by omega,rfl,rfl,za.refl _ _⟩
  case round =>
   obtain⟨j,hj,rfl,he,hk⟩:=hrel;have HE:=zz0 he;have K:=zz0 hk;clear he hk;by_cases hlt:j<l.length
   ·have hlt':j<m.length:=by have:=HLEN.out;omega
    obtain⟨a1,c1,e1,q⟩:=zY (H.out.keepNon K.out);obtain⟨g,off,rfl,hcell⟩:=q j hlt;injection e1 with e1 e5 e3
    subst e1;subst e3;clear e5;obtain⟨a2,c2,e2,q'⟩:=zY (H'.out.keepNon K.out);obtain⟨g2,off2,rfl,hcell2⟩:=q' j hlt';injection e2 with e2 e6 e4
    subst e2;subst e4;clear e6;have hlj:(j:Int)<(l.length:Int):=by omega
    have HQ:Hid (l[j].toNat=m[j].toNat↔l.take (j+1)=m.take (j+1)):=zz0 (zh0 hlt hlt' HE.out);clear q q';generalize l[j].toNat=x at hcell HQ;generalize m[j].toNat=y at hcell2 HQ;clear hlt';by_cases hxy:x=y
    ·subst hxy
     have HQ2:=zz0 (HQ.out.1 rfl);clear HQ
     go_wp2_with fail
     go_region
     all_goals
      go_wp2_with fail
      exact⟨⟨j+1,by omega,by go_num,HQ2.out,K.out.drew⟩,by simp[intOf];omega⟩
    ·have hne:((x:Nat):Int)≠(y:Int):=by omega
     have hf:(l==m)=false:=by
      rw[beq_eq_false_iff_ne];intro e;exact hxy (HQ.out.2 (by rw[e]))
     go_wp2_with fail
     go_region
     all_goals
      go_wp2_with fail
      go_ret;exact⟨by rw[hf];rfl,K.out.drew⟩
   ·obtain rfl:j=l.length:=by omega
    have hf:(l==m)=true:=by
     have:=HE.out;rw[List.take_length,HLEN.out,List.take_length] at this;rw[this];exact beq_self_eq_true _
    go_wp2_with fail
    go_ret;exact⟨by rw[hf];rfl,K.out⟩
 ·have hf:(l==m)=false:=by
   rw[beq_eq_false_iff_ne];intro e;exact hlen (by rw[e])
  have hne:((l.length:Nat):Int)≠(m.length:Int):=by omega
  go_enter Tryz.func280,Tryz.ntmps280
  go_wp2_with fail
  go_ret;exact⟨by rw[hf];rfl,za.refl _ _⟩
def MkNew (w:World)(b:Nat):Prop:=∃o,zc9 w b 0 o∧o 0=some (.int .u32 0)∧o 1=some (.int .i32 0)∧o 259=some (.int .i64 0)
theorem MkNew.keep {S:Nat→Prop}{w w':World}{b:Nat}(h:MkNew w b)(k:za S w w')(hn:¬S b):MkNew w' b:=by
 obtain⟨o,h1,h2⟩:=h;exact⟨o,h1.keep k hn,h2⟩
theorem MkNew.lt {w:World}{b:Nat}(h:MkNew w b):b<w.heap.size:=by
 obtain⟨o,⟨cs,h1,_⟩,_⟩:=h;exact lt_of_block h1
theorem zgN (b:Nat)(v:Value)(l:List UInt8)(w:World)(h:MkNew w b)(hv:Bs w v l)(hll:l.length≤100000000)(hb:∀g,v.ownBlock=some g→g≠b) :
 Calls Tryz.prog 282 #[.pointer (some ⟨b,0,none⟩),v] w fun e w'=>e = .returned (.int .u32 (zdF l))∧za (zq3 b) w w':=by
 obtain⟨o,h1,h2,h3,h4⟩:=h;exact zn0 b o v l w h1 h2 h3 h4 hv hll hb
theorem zid (l:List UInt8):0≤zdF l∧zdF l<4294967296:=by unfold zdF not32;exact bits32 _ _ _
theorem zbZ (x:Int):(zbO x).length=4:=rfl
def sealB (l:List UInt8):List UInt8:=l++zbO (zdF l)
theorem zhQ (l:List UInt8):(sealB l).length=l.length+4:=by simp[sealB,zbZ]
theorem zmZ {w:World}{t:TypeId}(u v:Value):Rd (w.alloc (.cells #[u,v] t)) (.slice (some ⟨w.heap.size,0,none⟩) 2 2) [u,v]:=by
 refine⟨_,2,rfl,fun _=>⟨w.heap.size,0,rfl,fun j x hx=>?_⟩⟩
 match j with
 |0=>simp at hx;subst hx;exact World.cell?_alloc_new _ _ _ 0
 |1=>simp at hx;subst hx;exact World.cell?_alloc_new _ _ _ 1
 |j+2=>simp at hx
theorem zmX {w:World}{u v:Value}{l m:List UInt8}(h:Bs w u l)(h':Bs w v m):Bss w [u,v] [l,m]:=by
 refine⟨rfl,fun i x y hx hy=>?_⟩
 match i with
 |0=>simp at hx hy;subst hx;subst hy;exact h
 |1=>simp at hx hy;subst hx;subst hy;exact h'
 |i+2=>simp at hx
theorem zkC (b:Nat)(v:Value)(l:List UInt8)(w:World)(h:MkNew w b)(hv:Bs w v l)(hll:l.length≤1000000)(hb:∀g,v.ownBlock=some g→g≠b) :
 Calls Tryz.prog 237 #[.pointer (some ⟨b,0,none⟩),v] w fun e w'=>∃v',e = .returned v'∧za (zq3 b) w w'∧w'.ownsRow w.heap.size 5 1 v' (sealB l).length ((sealB l).map bv):=by
 have H:=zz0 h;have V:=zz0 hv;have VB:=zz0 hb;have hlt:=h.lt;clear h hb;obtain⟨a,c,rfl,_⟩:=hv;rw[List.length_map] at V VB ⊢
 go_enter Tryz.func237,Tryz.ntmps237
 go_wp2_with(first
  |(go_at_call 282;refine(zgN b _ l _ H.out V.out (by omega) VB.out).mono ?_;rintro e w1 ⟨rfl,k1⟩;have K1:=zz0 k1;clear k1)
  |(go_at_call 281;refine(zgz _ (zid l) _).mono ?_;rintro e w2 ⟨v2,rfl,k2,o2⟩;obtain⟨a2,c2,rfl,_,_⟩:=zb o2;have K2:=zz0 k2;have O2:=zz0 o2;clear k2 o2)
  |(go_at_call 236;have hb2:Bss (w2.alloc (.cells #[Value.slice a l.length c,Value.slice a2 (zbO (zdF l)).length c2] 43)) [Value.slice a l.length c,Value.slice a2 (zbO (zdF l)).length c2] [l,zbO (zdF l)]:=zmX ((V.out.keep K1.out (fun g e=>VB.out g e)).keepNon (K2.out.alloc _)) (Rd.keepNon (Rd.ofOwns O2.out) ((za.refl _ _).alloc _));refine(zfT _ [Value.slice a l.length c,Value.slice a2 (zbO (zdF l)).length c2] [l,zbO (zdF l)] 2 _ (zmZ _ _) hb2 (by simp[zbZ];omega) (by simp)).mono ?_;rintro e w3 ⟨v3,rfl,k3,o3⟩;have K3:=zz0 k3;have O3:=zz0 o3;clear k3 o3))
 go_ret;have ho:=O3.out;have e:[l,zbO (zdF l)].flatten=sealB l:=by simp[sealB]
 rw[e] at ho;exact⟨_,rfl,(((K1.out.trans1 K2.out.ofNon).alloc _).trans1 K3.out.ofNon),zg ho (by have h1:=K1.out.size;have h2:=K2.out.size;simp;omega)⟩
theorem zR {S:Nat→Prop}{w w':World}(h:za S w.drew w'):za S w w':=⟨h.os,h.tape,h.output,h.size,h.block⟩
theorem zga (b:Nat)(v:Value)(t s:List UInt8)(w:World)(h:MkNew w b)(hv:Bs w v (t++s))(hc:okc v)(hs:s.length=4)(hll:t.length≤1000000)(hb:∀g,v.ownBlock=some g→g≠b) :
 Calls Tryz.prog 225 #[.pointer (some ⟨b,0,none⟩),v] w fun e w'=>za (zq3 b) w w'∧((zbO (zdF t)=s∧∃v',e = .returned (.tuple #[v',.nilIface])∧w'.ownsRow w.heap.size 5 1 v' t.length (t.map bv))∨(zbO (zdF t)≠s∧e = .returned (.tuple #[.slice none 0 0,zbU 11]))):=by
 have H:=zz0 h;have V:=zz0 hv;have VB:=zz0 hb;have hlt:=h.lt;have hlen:(t++s).length=t.length+4:=by rw[List.length_append,hs]
 clear h hb;obtain⟨a,c,rfl,hx⟩:=hv;obtain⟨g,off,rfl,_⟩:=hx (by intro e;rw[List.map_eq_nil_iff] at e;rw[e] at hlen;simp at hlen)
 have hc1:=hc.1;rw[List.length_map,hlen] at V VB hc1 ⊢;clear hx hc;have VH:=zz0 (zlL V.out);have VR:Hid (Bs w (.slice (some ⟨g,off+t.length,none⟩) 4 (c-t.length)) s):=zz0 (by have:=zfx V.out;rw[show t.length+4-t.length=4 by omega] at this;exact this)
 have VB2:Hid (∀q,g=q→q≠b):=zz0 (fun q e=>VB.out q (by rw[←e];rfl))
 clear V VB;have hcq:¬c=t.length:=by omega
 go_enter Tryz.func225,Tryz.ntmps225
 by_cases hq:zbO (zdF t)=s
 ·have hq2:(zbO (zdF t)==s)=true:=by rw[hq];exact beq_self_eq_true _
  go_wp2_with fail
  go_region_with (first
   |(go_at_call 282;refine(zgN b _ t _ (by exact H.out) (by exact VH.out) (by omega) (fun q e=>VB2.out q (by injection e))).mono ?_;rintro e w1 ⟨rfl,k1⟩;have K1:=zz0 (zR (w:=w) (by exact k1));clear k1)
   |(go_at_call 281;refine(zgz _ (zid t) _).mono ?_;rintro e w2 ⟨v2,rfl,k2,o2⟩;obtain⟨a2,c2,rfl,_,_⟩:=zb o2;have K2:=zz0 k2;have O2:=zz0 o2;clear k2 o2)
   |(go_at_call 280;refine(zly _ _ _ s _ (Rd.ofOwns O2.out) ((VR.out.keep K1.out (fun q e=>VB2.out q (by injection e))).keepNon K2.out) (by rw[zbZ];omega) (by omega)).mono ?_;rw[hq2];rintro e w3 ⟨rfl,k3⟩;have K3:=zz0 k3;clear k3))
  all_goals
   go_wp2_with(go_at_call 150;refine(za7 _ t _ (((VH.out.keep K1.out (fun q e=>VB2.out q (by injection e))).keepNon K2.out).keepNon K3.out) (by omega)).mono ?_;rintro e w4 ⟨v4,rfl,k4,o4⟩;have K4:=zz0 k4;have O4:=zz0 o4;clear k4 o4)
   go_ret2;exact⟨((K1.out.trans1 K2.out.ofNon).trans1 K3.out.ofNon).trans1 K4.out.ofNon,.inl ⟨hq,_,rfl,zg O4.out (by have h1:=K1.out.size;have h2:=K2.out.size;have h3:=K3.out.size;omega)⟩⟩
 ·have hq2:(zbO (zdF t)==s)=false:=beq_eq_false_iff_ne.2 hq
  go_wp2_with fail
  go_region_with (first
   |(go_at_call 282;refine(zgN b _ t _ (by exact H.out) (by exact VH.out) (by omega) (fun q e=>VB2.out q (by injection e))).mono ?_;rintro e w1 ⟨rfl,k1⟩;have K1:=zz0 (zR (w:=w) (by exact k1));clear k1)
   |(go_at_call 281;refine(zgz _ (zid t) _).mono ?_;rintro e w2 ⟨v2,rfl,k2,o2⟩;obtain⟨a2,c2,rfl,_,_⟩:=zb o2;have K2:=zz0 k2;have O2:=zz0 o2;clear k2 o2)
   |(go_at_call 280;refine(zly _ _ _ s _ (Rd.ofOwns O2.out) ((VR.out.keep K1.out (fun q e=>VB2.out q (by injection e))).keepNon K2.out) (by rw[zbZ];omega) (by omega)).mono ?_;rw[hq2];rintro e w3 ⟨rfl,k3⟩;have K3:=zz0 k3;clear k3))
  all_goals
   go_wp2_with fail
   go_ret2;exact⟨(K1.out.trans1 K2.out.ofNon).trans1 K3.out.ofNon,.inr ⟨hq,rfl⟩⟩
end Go.Proofs.YtpojgmeoaflmoaaGreatDoor
