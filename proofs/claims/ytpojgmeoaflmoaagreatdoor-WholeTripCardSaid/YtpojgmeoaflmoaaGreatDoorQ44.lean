/- Rows of manifests: their cells; slices.C -/
import Derived.Test.YtpojgmeoaflmoaaGreatDoorQ31
import Derived.Test.YtpojgmeoaflmoaaGreatDoorQ32
set_option linter.unusedVariables false
set_option maxRecDepth 100000
set_option maxHeartbeats 16000000
namespace Go.Proofs.YtpojgmeoaflmoaaGreatDoor
open Go.RowKit
abbrev MfE:=Mf×Option Addr×Nat
def mfEv (e:MfE):Value:=.slice e.2.1 e.1.parts.length e.2.2
def mfE (e:MfE):List Value:=zq6 e.1 (mfEv e)
def EsAt (T:Nat→Prop)(w:World)(es:List MfE):Prop:=∀e ∈ es,e.1.prev.length=32∧zC w (mfEv e) e.1.parts∧∀g,(mfEv e).ownBlock=some g→T g
def msE (es:List MfE):List Value:=es.flatMap mfE
theorem zpG {T:Nat→Prop}{w:World}{es:List MfE}(h:EsAt T w es):(msE es).length=es.length*37:=zdJ 37 mfE es (fun e he=>zaV (h e he).1)
theorem zpH (es:List MfE):∀u ∈ msE es,u.oneCell'=true:=by
 intro u hu;obtain⟨e,_,hu⟩:=List.mem_flatMap.1 hu;exact zcJ e.1 e.2.1 e.1.parts.length e.2.2 u hu
theorem EsAt.keep {S T:Nat→Prop}{w w':World}{es:List MfE}(h:EsAt T w es)(k:za S w w')(hn:∀g,T g→¬S g):EsAt T w' es:=fun e he=>by
 obtain⟨h1,h2,h3⟩:=h e he;exact⟨h1,h2.keep k (fun g eg=>hn g (h3 g eg)),h3⟩
theorem EsAt.mono {T U:Nat→Prop}{w:World}{es:List MfE}(h:EsAt T w es)(hs:∀g,T g→U g):EsAt U w es:=fun e he=>⟨(h e he).1,(h e he).2.1,fun g eg=>hs g ((h e he).2.2 g eg)⟩
theorem EsAt.snoc {T:Nat→Prop}{w:World}{es:List MfE}{e:MfE}(h:EsAt T w es)(h1:e.1.prev.length=32)(h2:zC w (mfEv e) e.1.parts)(h3:∀g,(mfEv e).ownBlock=some g→T g):EsAt T w (es ++ [e]):=fun x hx=>by
 rcases List.mem_append.1 hx with hx|hx
 ·exact h x hx
 ·rw[List.mem_singleton.1 hx];exact⟨h1,h2,h3⟩
theorem ze5 {α β:Type}{P:Nat→α→β→Prop}:∀(l:List α)(k:Nat),(∀j x,l[j]? = some x→∃y,P (k+j) x y)→∃ys:List β,ys.length=l.length∧∀(j:Nat) x y,l[j]? = some x→ys[j]? = some y→P (k+j) x y
 |[],k,_=>⟨[],rfl,fun j x y h=>by simp at h⟩
 |x::r,k,h=>by
  obtain⟨y,hy⟩:=h 0 x rfl;obtain⟨ys,hl,hys⟩:=ze5 (P:=P) r (k+1) (fun j z hz=>by
   have:=h (j+1) z hz
   rwa [show k+(j+1)=k+1+j by omega] at this)
  refine⟨y::ys,by simp[hl],fun j a b ha hb=>?_⟩
  cases j with
  |zero=>simp at ha hb;subst ha;subst hb;exact hy
  |succ j =>
   rw[List.getElem?_cons_succ] at ha hb;have:=hys j a b ha hb
   rwa [show k+1+j=k+(j+1) by omega] at this
theorem zai.es {T:Nat→Prop}{w:World}{a:Option Addr}{n c:Nat}{ms:List Mf}(h:zai T w (.slice a n c) ms) :
 ∃es:List MfE,es.map (·.1)=ms∧EsAt T w es∧(a=none→es = [])∧∀ad,a=some ad→∀(j:Nat) u,(msE es)[j]? = some u→w.cell? (ad.add j)=some u:=by
 obtain⟨a',c',e,hc,ha,hx⟩:=h;injection e with e1 e2 e3
 subst e1;have key:∀(j:Nat) m,ms[j]? = some m→∃y:Option Addr×Nat,m.prev.length=32∧zC w (.slice y.1 m.parts.length y.2) m.parts∧(∀g,(Value.slice y.1 m.parts.length y.2).ownBlock=some g→T g)∧∃g off,a=some ⟨g,off,none⟩∧∀(i:Nat) u,(zq6 m (.slice y.1 m.parts.length y.2))[i]? = some u→w.cell? ⟨g,off+(0+j)*37+i,none⟩=some u:=fun j m hm=>by
  obtain⟨h32,g,off,pa,pc,e,x1,x2,x3⟩:=hx j m hm;exact⟨(pa,pc),h32,x1,x2,g,off,e,by rw[Nat.zero_add];exact x3⟩
 obtain⟨ys,hl,hys⟩:=ze5 (P:=fun j m (y:Option Addr×Nat)=>m.prev.length=32∧zC w (.slice y.1 m.parts.length y.2) m.parts∧(∀g,(Value.slice y.1 m.parts.length y.2).ownBlock=some g→T g)∧∃g off,a=some ⟨g,off,none⟩∧∀(i:Nat) u,(zq6 m (.slice y.1 m.parts.length y.2))[i]? = some u→w.cell? ⟨g,off+j*37+i,none⟩=some u) ms 0 key
 have hz:(ms.zip ys).map (·.1)=ms:=List.map_fst_zip (by omega)
 have get:∀(j:Nat) (e:MfE),(ms.zip ys)[j]? = some e→ms[j]? = some e.1∧ys[j]? = some e.2:=fun j e he=>by
  rw[List.getElem?_zip_eq_some] at he;exact he
 refine⟨ms.zip ys,hz,fun e he=>?_,fun e=>?_,fun ad e j u hu=>?_⟩
 ·obtain⟨j,hj⟩:=List.mem_iff_getElem?.1 he
  obtain⟨g1,g2⟩:=get j e hj;obtain⟨h1,h2,h3,_⟩:=hys j _ _ g1 g2;exact⟨h1,h2,h3⟩
 ·cases ms with
  |nil=>rfl
  |cons m r =>
   obtain⟨_,_,_,_,_,q,_⟩:=hx 0 m rfl;rw[e] at q;cases q
 ·have hl37:∀e ∈ ms.zip ys,(mfE e).length=37:=fun e he=>by
   obtain⟨j,hj⟩:=List.mem_iff_getElem?.1 he;obtain⟨g1,g2⟩:=get j e hj;exact zaV (hys j _ _ g1 g2).1
  obtain⟨x,hx',hu'⟩:=zfZ 37 mfE (ms.zip ys) hl37 (by decide) j u hu
  obtain⟨g1,g2⟩:=get _ x hx';obtain⟨_,_,_,g,off,ea,hc⟩:=hys _ _ _ g1 g2;rw[e] at ea;injection ea with ea
  subst ea;have:=hc _ u hu';rw[zag,show off+j=off+(0+j / 37)*37+j%37 by have:=Nat.div_add_mod j 37;omega]
  exact this
theorem zai.ofEs {B:Nat}{T:Nat→Prop}{w:World}{v:Value}{es:List MfE}(h:w.ownsRow B 54 37 v es.length (msE es))(he:EsAt T w es)(hT:∀g,v.ownBlock=some g→T g):zai T w v (es.map (·.1)):=by
 rcases h.2 with ⟨hv,hn⟩|⟨g,cap,cur,rfl,_,hg,hn,_,_,htake⟩
 ·obtain rfl:es = []:=List.eq_nil_of_length_eq_zero (by omega)
  rw[hv];exact zai.nil _ _
 ·refine⟨some ⟨g,0,none⟩,cap,by rw[List.length_map],by rw[List.length_map];exact hn,fun ad e=>⟨g,0,by injection e with e;exact e.symm,hT g rfl⟩,fun j m hj=>?_⟩
  rw[List.getElem?_map] at hj;obtain⟨x,hx,rfl⟩:=Option.map_eq_some_iff.1 hj;obtain⟨h1,h2,h3⟩:=he x (List.mem_of_getElem? hx);refine⟨h1,g,0,x.2.1,x.2.2,rfl,h2,h3,fun i u hu=>?_⟩
  have hi:i<37:=by
   obtain⟨q,_⟩:=List.getElem?_eq_some_iff.1 hu;rw[zaV h1] at q;exact q
  have hc:=zdK 37 mfE es (fun e he'=>zaV (he e he').1) j i x hx hi
  have hc':(msE es)[j*37+i]? = some u:=hc.trans hu;rw[Nat.zero_add,World.cell?,hg];rw[←htake,List.getElem?_take] at hc'
  split at hc'
  ·simpa using hc'
  ·cases hc'
theorem zja {T:Nat→Prop}(a:Option Addr)(c:Nat)(es:List MfE)(w:World)(he:EsAt T w es)(hn:a=none→es = [])(hc:∀ad,a=some ad→∀(j:Nat) u,(msE es)[j]? = some u→w.cell? (ad.add j)=some u)(hlen:es.length≤1000) :
 Calls Tryz.prog 241 #[.slice a es.length c] w fun e w'=>∃v',e = .returned v'∧za zq2 w w'∧w'.ownsRow w.heap.size 54 37 v' es.length (msE es):=by
 have hq:=fun(w:World)=>Lib.run_eql_slice_nil (P:=Tryz.prog) w 39 54 a es.length c 0 0 Tryz.underlying39
 cases a with
 |none =>
  obtain rfl:=hn rfl;simp only[List.length_nil] at hq ⊢;clear hc
  go_enter Tryz.func241,Tryz.ntmps241
  go_wp2
  go_ret;exact⟨_,rfl,za.refl _ _,World.ownsRow_nil _ _ _ _⟩
 |some a =>
  obtain⟨i0,hi,hz0,hz1,hz2⟩:=info_parts infoMf;have hnews:∀(j:Nat) u,(msE es)[j]? = some u→(w.alloc (.cells #[] 54)).cell? (a.add j)=some u:=fun j u hu=>by
   have:=hc a rfl j u hu;have hb:=World.block_lt_of_cell? _ _ this;rw[←this];exact World.cell?_of_block (((za.refl zq2 w).alloc (.cells #[] 54)).block _ hb (fun e=>e))
  have HN:=zz0 hnews;have HL:=zz0 hlen;have H3:=zz0 (zpG he);have hown:Hid ((w.alloc (.cells #[] 54)).ownsRow w.heap.size 54 37 (.slice (some ⟨w.heap.size,0,none⟩) 0 0) 0 []):=World.ownsRow_made w #[] 0 (Nat.le_refl _) (by decide) rfl
  clear hnews hc hlen
  go_enter Tryz.func241,Tryz.ntmps241
  go_wp2_with(at_builtin;refine zv rfl _ _ 39 rfl w.heap.size 54 i0 (.agg zra) 37 88 Tryz.underlying39 hi hz0 hz1 hz2 rfl (by decide) _ _ _ rfl hown.out a es.length c (msE es) rfl H3.out HN.out (zpH es) (by have:=HL.out;unfold maxLen;omega) (by have:=HL.out;omega) (by simp) ?_;intro v' w' ho hg hp;have HO:=zz0 ho;have HP:=zz0 hp;clear ho hp)
  go_ret;have hk:za zq2 w w':=by
   have:=((za.refl zq2 w).alloc (.cells #[] 54)).trans ((za.refl (zq3 w.heap.size) _).grown hg (row:=some w.heap.size) (fun k e=>.inl (by injection e with e;exact e.symm))) (U:=zq2) (fun _ _ h=>h) (fun i hi h=>by unfold zq3 at h;omega)
   exact this
  have ho:=HO.out;rw[List.nil_append,Nat.zero_add] at ho;exact⟨v',rfl,hk,ho⟩
end Go.Proofs.YtpojgmeoaflmoaaGreatDoor
namespace Go.Proofs.YtpojgmeoaflmoaaGreatDoor
open Go.RowKit Go.Maps
set_option linter.unusedSimpArgs false
theorem zdE {TL:Nat→Prop}{w w3 W w5:World}{m:Mf}{a2:Option Addr}{c2:Nat}{v4 v5:Value}{es:List MfE}(hpr:m.prev.length=32)(h32:zbI m.parts)(k3:za zq2 w w3)(o3:w3.ownsRow w.heap.size 125 35 (.slice a2 m.parts.length c2) m.parts.length (zaP m.parts))(he:EsAt TL w es)(kW:za zq2 w3 W)(h4:∀g,v4.ownBlock=some g→w3.heap.size≤g)(ho:w5.ownsRow w3.heap.size 54 37 v5 (es.length+1) (msE es++zq6 m (.slice a2 m.parts.length c2)))(hg:W.grownBy w5 v4.ownBlock) :
 za zq2 w3 w5∧zai (fun g=>TL g∨(w.heap.size≤g∧g<w5.heap.size)) w5 v5 (es.map (·.1) ++ [m])∧zC w5 (.slice a2 m.parts.length c2) m.parts:=by
 have kg:za (fun g=>v4.ownBlock=some g) W w5:=za.grown (za.refl _ _) hg (fun k e=>.inl e)
 have k5:za zq2 w3 w5:=kW.trans kg (fun _ _ e=>e) (fun g hg e=>by have:=h4 g e;omega)
 have o5:=zc o3 k5 (fun _ _ e=>e)
 have s3:=k3.size;have pt:=zC.of o5 h32;refine⟨k5,?_,pt⟩;have e5:EsAt (fun g=>TL g∨(w.heap.size≤g∧g<w5.heap.size)) w5 (es ++ [((m,a2,c2):MfE)]):=EsAt.snoc ((he.keep (k3.trans1 k5) (fun _ _ e=>e)).mono (fun g y=>.inl y)) hpr pt (fun g e=>.inr (o5.lt g e))
 have hm:es.map (·.1) ++ [m]=(es ++ [((m,a2,c2):MfE)]).map (·.1):=by simp
 rw[hm];refine zai.ofEs (B:=w3.heap.size) ?_ e5 (fun g e=>.inr (by have:=ho.lt g e;omega))
 have hx:msE (es ++ [((m,a2,c2):MfE)])=msE es++zq6 m (.slice a2 m.parts.length c2):=by simp[msE,mfE,mfEv]
 rw[hx,List.length_append];exact ho
section
attribute [local go_sem ↓] zbB zU zbC zbD zV zbE zab zbK hBS39
theorem zm6 (F TL:Nat→Prop)(b q p:Nat)(ms:List Mf)(la:Option Addr)(lc:Nat)(m:Mf)(pv:Value)(X:Dk)(a k fu:Nat)(w:World)(hb:w.heap[b]? = some (VtB q (.slice la ms.length lc)))(hms:zai TL w (.slice la ms.length lc) ms)(hTL:∀g,TL g→¬F g∧g≠b∧g<w.heap.size)(d:zk F w q p X)(hF:∀g,F g→10≤g∧g<w.heap.size)(hbF:¬F b)(hl:X.lim a k fu)(ha:a≤505)(hk:k≤990)(hf:fu≤400000000)(hdn:X.down=false)(hlay:Lay w)
 (hp:zC w pv m.parts) (hok:okMf m) (hnum:m.num=ms.length) (hn90:ms.length<90) (och:okCh ms) (hfo:folM ms m) (h64:m.parts.length≤64) (h32:zbI m.parts) (hS:HasSegsN X ms.length m.parts) (hby:(zb2 m).length≤65536) (hcd:(X.sput (zw ms.length) (zb2 m)).1=0) :
 Calls Tryz.prog 187 #[.pointer (some ⟨b,0,none⟩),zq7 m pv] w fun e w'=>e = .returned .nilIface∧za (fun g=>F g∨g=b) w w'∧∃v3 T F',zq5 F' F w∧¬F' b∧(∀g,T g→¬F' g∧g≠b∧(TL g∨w.heap.size≤g))∧zai T w' v3 (ms ++ [m])∧zk F' w' q p (X.sput (zw ms.length) (zb2 m)).2∧w'.heap[b]? = some (VtB q v3):=by
 obtain⟨es,ems,hes,hen,hec⟩:=hms.es;subst ems;rw[List.length_map] at hb hnum hn90 hS hcd ⊢;have hpr:m.prev.length=32:=hok.prev;have PA:=zz0 hp;have B:=zz0 hb;have DD:=zz0 d;have HF:=zz0 hF;have HL:=zz0 hlay;have HOK:=zz0 hok;obtain⟨pa,pc,rfl,hc,hpa,hx⟩:=hp;have hlm:=zO (ze w (zq1 m (.slice pa m.parts.length pc))) hpr;have CO:=zz0 (zgM m (.slice pa m.parts.length pc) (w.alloc (zq1 m (.slice pa m.parts.length pc))) (PA.out.keepNon ((za.refl zq2 w).alloc _)) hpr h32 (by omega))
 have TT:=zz0 (fun W=>zd3 es.length W (by omega))
 have SP:=zz0 (fun W v F0 (st:zk F0 W q p X) (hv:Bs W v (zb2 m)) (hnp:∀g,v.ownBlock=some g→¬F0 g)=>zdn F0 q p v (zw es.length) (zb2 m) X a k fu W st hl ha hk hf (zaD es.length (by omega)) hv hby hnp)
 rw[hcd] at SP;rw[zaK] at SP;have HE:=zz0 (fun W lv pv (k:za zq2 w W) (hp:zC W pv m.parts) (hb':W.heap[b]? = some (VtB q lv))=>zh6 F b q p lv m pv X W hb' (d.keep k (fun _ _ e=>e)) hdn (hlay.keepNon k) hp hpr es.length hnum (by omega) h64 hS)
 have CK:=zz0 (fun T W v (h:zai T W v (es.map (·.1) ++ [m])) (k:za zq2 w W)=>zbl T v (es.map (·.1) ++ [m]) W h (och.snoc hok hfo h64 hby) (by rw[List.length_append,List.length_map];simp;omega) (hlay.keepNon k).kon (hlay.keepNon k).frs)
 have CL:=zz0 (fun W (k:za zq2 w W)=>zja la lc es W (hes.keep k (fun _ _ e=>e)) hen (fun ad e j u hu=>by have h0:=hec ad e j u hu;exact(World.cell?_of_block (k.block _ (World.block_lt_of_cell? _ _ h0) (fun e=>e))).trans h0) (by omega))
 have HES:=zz0 hes;have HTL:=zz0 hTL;have MP:=zz0 (fun W pv (hp:zC W pv m.parts)=>ziy m pv W hok hp h64)
 obtain⟨i0,hi0,hz0,hz1,hz2⟩:=info_parts infoMf;have I0:=zz0 (And.intro hi0 (And.intro hz0 (And.intro hz1 hz2)));clear hx hpa hb d hF hlay hok hS hl hi0 hz0 hz1 hz2 hby hcd hes hec hen och hfo hTL hms;unfold sv at TT SP;unfold zq1 at hlm;dsimp only[zq1] at CO;unfold zq7 at *
 go_enter Tryz.func187,Tryz.ntmps187
 go_wp2_with(go_at_call 26;refine CO.out.mono ?_;rintro r w2 ⟨v2,rfl,k2,o2⟩;obtain⟨a2,c2,rfl,_,_⟩:=zb o2;have hst:=zax w2 w.heap.size m a2 m.parts.length c2 (zq6 m (.slice pa m.parts.length pc)).toArray hpr (by rw[List.size_toArray,zaV hpr]) (zh k2 (ze w (zq1 m (.slice pa m.parts.length pc))));unfold zq7 at hst;have K2:=zz0 (((za.refl zq2 w).alloc (zq1 m (.slice pa m.parts.length pc))).trans1 k2);have BX2:=zz0 (zh k2 (ze w (zq1 m (.slice pa m.parts.length pc))));have O2:=zz0 o2;clear k2 o2)
 obtain⟨m3,k3,o3⟩:=zjb h32 K2.out BX2.out (zg O2.out (by simp))
 obtain⟨w3,hw3⟩:∃w3,w3=w2.setRow w.heap.size (zq6 m (.slice a2 m.parts.length c2)).toArray:=⟨_,rfl⟩;rw[←hw3] at m3 k3 o3 hst;rw[←hw3];have M3:=zz0 m3;have K3:=zz0 k3;have O3:=zz0 o3;have PLM:Hid (∀W,za zq2 w3 W→(zZ 54 ⟨w.heap.size,0,none⟩).run Tryz.prog W = .ok (zq7 m (.slice a2 m.parts.length c2)) W):=zz0 (fun W kk=>zO (zh kk M3.out) hpr)
 have VB:Hid (∀W,za zq2 w3 W→W.heap[b]? = some (VtB q (.slice la es.length lc))):=zz0 (fun W kk=>zh (K3.out.trans1 kk) B.out)
 have MN:Hid (∀W,za zq2 w3 W→W.cell? ⟨w.heap.size,0,none⟩=some (.int .i64 m.num)):=zz0 (fun W kk=>mf_0 (zh kk M3.out))
 have kd:za zq2 w3 w3.drew:=(za.refl _ _).drew;have ka:za zq2 w3 (w3.alloc (zq1 m (.slice a2 m.parts.length c2))):=(za.refl _ _).alloc _;have l0:=PLM.out _ (za.refl _ _);have l1:=PLM.out _ kd;have b0:=zaQ m a2 m.parts.length c2 hpr w3;have b1:=zaQ m a2 m.parts.length c2 hpr w3.drew;have x0:=vt_1 (VB.out _ (za.refl _ _));have x1:=vt_1 (VB.out _ ka);have BK:=zz0 (ze w3 (zq1 m (.slice a2 m.parts.length c2)));have KAD:Hid (za zq2 w3 (w3.alloc (zq1 m (.slice a2 m.parts.length c2))).drew):=zz0 ka.drew;have PLM':=zz0 (fun W kk=>by have:=PLM.out W kk;unfold zq7 at this;exact this)
 have KD3:=zz0 kd;clear m3 k3 o3 hw3 kd ka K2 BX2 O2 hlm CO;unfold zq7 at l0 l1 b0 b1;dsimp only[zq1] at b0 b1 x1
 go_region_law(first
  |(go_simp;go_at_call 241;first
     |(refine(CL.out _ (K3.out.trans1 KD3.out)).mono ?_;rintro r w4 ⟨v4,rfl,k4,o4⟩;obtain⟨a4,c4,rfl,_,_⟩:=zb o4;have K4:=zz0 (KD3.out.trans1 k4);have LB4:Hid (w3.heap.size≤w3.drew.heap.size):=zz0 (Nat.le_refl _);have O4:=zz0 o4;have l4:=PLM.out w4 K4.out;have b4:=zaQ m a2 m.parts.length c2 hpr w4;unfold zq7 at l4 b4;dsimp only[zq1] at b4;clear k4 o4)
     |(refine(CL.out _ (K3.out.trans1 KAD.out)).mono ?_;rintro r w4 ⟨v4,rfl,k4,o4⟩;obtain⟨a4,c4,rfl,_,_⟩:=zb o4;have K4:=zz0 (KAD.out.trans1 k4);have LB4:=zz0 KAD.out.size;have BK4:=zz0 (zh k4 BK.out);have O4:=zz0 o4;clear k4 o4))
  |(refine zl (by rfl) (.tmp 21) (.tmp 23) 39 (by rfl) w3.heap.size 54 i0 (.agg zra) 37 88 Tryz.underlying39 I0.out.1 I0.out.2.1 I0.out.2.2.1 I0.out.2.2.2 rfl (by decide) (.slice a4 es.length c4) es.length (msE es) (by first|rfl|simp[Act.eval,Act.put]) (zc (zg O4.out LB4.out) ((za.refl zq2 w4).alloc _) (fun _ _ e=>e)) ⟨w4.heap.size,0,none⟩ 1 1 (zq6 m (.slice a2 m.parts.length c2)) (by first|rfl|simp[Act.eval,Act.put]) (by rw[zaV hpr]) (by exact zdi (ze w4 (zq1 m (.slice a2 m.parts.length c2)))) (zcJ m a2 m.parts.length c2) (by unfold maxLen;omega) (by omega) (by exact(K4.out.alloc (zq1 m (.slice a2 m.parts.length c2))).size) ?_;intro v5 w5 ho hg hpp;obtain⟨a5,c5,rfl,_,_⟩:=zb ho;obtain⟨k5,ms5,pt5⟩:=zdE hpr h32 K3.out O3.out HES.out (K4.out.alloc (zq1 m (.slice a2 m.parts.length c2))) (fun g e=>by have:=(O4.out.lt g e).1;have:=LB4.out;omega) ho hg;have CKW:=zz0 (CK.out _ w5 _ ms5 (K3.out.trans1 k5));have K5:=zz0 k5;have MS5:=zz0 ms5;have PT5:=zz0 pt5;clear ho hg hpp k5 ms5 pt5)
  |(refine zl (by rfl) (.tmp 21) (.tmp 23) 39 (by rfl) w3.heap.size 54 i0 (.agg zra) 37 88 Tryz.underlying39 I0.out.1 I0.out.2.1 I0.out.2.2.1 I0.out.2.2.2 rfl (by decide) (.slice a4 es.length c4) es.length (msE es) (by first|rfl|simp[Act.eval,Act.put]) (zc (zg O4.out LB4.out) (za.refl zq2 w4) (fun _ _ e=>e)) ⟨w3.heap.size,0,none⟩ 1 1 (zq6 m (.slice a2 m.parts.length c2)) (by first|rfl|simp[Act.eval,Act.put]) (by rw[zaV hpr]) (by exact zdi BK4.out) (zcJ m a2 m.parts.length c2) (by unfold maxLen;omega) (by omega) (by exact(K4.out).size) ?_;intro v5 w5 ho hg hpp;obtain⟨a5,c5,rfl,_,_⟩:=zb ho;obtain⟨k5,ms5,pt5⟩:=zdE hpr h32 K3.out O3.out HES.out (K4.out) (fun g e=>by have:=(O4.out.lt g e).1;have:=LB4.out;omega) ho hg;have CKW:=zz0 (CK.out _ w5 _ ms5 (K3.out.trans1 k5));have K5:=zz0 k5;have MS5:=zz0 ms5;have PT5:=zz0 pt5;clear ho hg hpp k5 ms5 pt5))
 all_goals go_wp2_with(first
  |(go_at_call 51;refine CKW.out.mono ?_;rintro r w6 ⟨rfl,k6⟩;have k36:=K5.out.trans1 k6;have l6:=PLM'.out _ k36;have HEW:=zz0 (HE.out w6 _ (.slice a2 m.parts.length c2) (K3.out.trans1 k36) (PT5.out.keepNon k6) (VB.out _ k36));have K6:=zz0 k36;have K56:=zz0 k6;clear k6 k36)
  |(go_at_call 242;refine HEW.out.mono ?_;rintro r w7 ⟨rfl,k7⟩;have k37:=K6.out.trans1 k7;have l7:=PLM'.out _ k37;have MPW:=zz0 (MP.out w7 (.slice a2 m.parts.length c2) (PT5.out.keepNon (K56.out.trans1 k7)));have K7:=zz0 k37;have K57:=zz0 (K56.out.trans1 k7);clear k7 k37)
  |(go_at_call 243;refine MPW.out.mono ?_;rintro r w8 ⟨v8,rfl,k8,o8⟩;obtain⟨a8,c8,rfl,_,_⟩:=zb o8;have k38:=K7.out.trans1 k8;have K8:=zz0 k38;have K58:=zz0 (K57.out.trans1 k8);have O8:=zz0 o8;clear k8 k38 o8))
 all_goals
  have k8d:za zq2 w3 w8.drew:=K8.out.drew;have y0:w8.cell? ⟨b,0,none⟩=some (.pointer (some ⟨q,0,none⟩)):=vt_0 (VB.out _ K8.out);have y0d:w8.drew.cell? ⟨b,0,none⟩=some (.pointer (some ⟨q,0,none⟩)):=y0;have n0:w8.cell? ⟨w.heap.size,0,none⟩=some (.int .i64 es.length):=by have:=MN.out _ K8.out;rw[hnum] at this;exact this
  have n0d:w8.drew.cell? ⟨w.heap.size,0,none⟩=some (.int .i64 es.length):=n0;have TTW:=zz0 (TT.out w8.drew);have VB8:Hid (∀W,za zq2 w8.drew W→W.cell? ⟨b,0,none⟩=some (.pointer (some ⟨q,0,none⟩))):=zz0 (fun W kk=>vt_0 (VB.out _ (K8.out.drew.trans1 kk)))
  have sz38:w.heap.size≤w8.heap.size:=Nat.le_trans K3.out.size K8.out.size;have SPW:Hid (∀W,za zq2 w8.drew W→Calls Tryz.prog 117 #[.pointer (some ⟨q,0,none⟩),.string ⟨(zw es.length).toArray⟩,.slice a8 (zb2 m).length c8] W fun e w'=>e = .returned .nilIface∧zn F W q p (X.sput (zw es.length) (zb2 m)).2 w'):=zz0 (fun W kk=>SP.out W _ F (DD.out.keep (K3.out.trans1 (K8.out.drew.trans1 kk)) (fun _ _ e=>e)) ((Rd.ofOwns O8.out).keepNon ((za.refl zq2 w8).drew.trans1 kk)) (fun g e x=>by have:=(O8.out.lt g e).1;have:=(HF.out g x).2;have:=K3.out.size;have:=K7.out.size;omega))
  clear k8d
  go_region_law(go_simp;first
   |(go_at_call 49;refine TTW.out.mono ?_;rintro r w9 ⟨rfl,k9⟩;have y9:=VB8.out _ k9;have SPX:=zz0 (SPW.out w9 k9);have K9:=zz0 k9;clear k9)
   |(go_at_call 117;refine SPX.out.mono ?_;rintro r wa ⟨rfl,ka,Fa,sa,da⟩;have k39:=K8.out.drew.trans1 K9.out;have bb:=ka.at (VB.out _ k39) hbF;have z1:=vt_1 bb;have zf:=vt_f bb 1;have KA:=zz0 ka;have SA:=zz0 sa;have DA:=zz0 da;have BB:=zz0 bb;have K39:=zz0 k39;clear ka sa da bb k39))
 all_goals go_wp2_with fail
 all_goals
  go_ret;have hbl:b<w.heap.size:=lt_of_block B.out;have kb:za (zq3 b) wa (wa.setCell ⟨b,1,none⟩ (.slice a5 (es.length+1) c5)):=(za.refl _ _).setOne _ _;have k9s:=K9.out.size;have k59:za zq2 w5 w9:=K58.out.trans1 ((za.refl zq2 w8).drew.trans1 K9.out);have kFa:za F w wa:=(K3.out.trans1 K39.out).ofNon.trans KA.out (fun _ _ x=>x) (fun _ _ x=>x)
  have s59:=k59.size;refine⟨rfl,kFa.trans kb (fun g _ x=>.inl x) (fun g _ x=>.inr x),.slice a5 (es.length+1) c5,fun g=>TL g∨(w.heap.size≤g∧g<w5.heap.size),Fa,fun g x=>?_,?_,fun g x=>⟨fun y=>?_,?_,x.imp id (fun z=>z.1)⟩,?_,?_,zj BB.out 1 _⟩
  ·rcases SA.out g x with y|y
   ·exact .inl y
   ·exact .inr (by have:=K3.out.size;have:=K39.out.size;omega)
  ·intro x
   rcases SA.out b x with y|y
   ·exact hbF y
   ·have:=K3.out.size;have:=K39.out.size;omega
  ·rcases SA.out g y with z|z
   ·rcases x with x|x
    ·exact(HTL.out g x).1 z
    ·have:=(HF.out g z).2;omega
   ·have:=K3.out.size;have:=K39.out.size
    rcases x with x|x
    ·have:=(HTL.out g x).2.2;omega
    ·omega
  ·rcases x with x|x
   ·exact(HTL.out g x).2.1
   ·intro e;omega
  ·exact((MS5.out.keepNon k59).keep KA.out (fun g x y=>by
    rcases x with x|x
    ·exact(HTL.out g x).1 y
    ·have:=(HF.out g y).2;omega)).keep kb (fun g x e=>by
    have e':g=b:=e;rcases x with x|x
    ·exact(HTL.out g x).2.1 e'
    ·omega)
  ·exact DA.out.keep kb (fun g x e=>by have e':g=b:=e;subst e';rcases SA.out g x with y|y;exact hbF y;have:=K3.out.size;have:=K39.out.size;omega)
end
end Go.Proofs.YtpojgmeoaflmoaaGreatDoor
