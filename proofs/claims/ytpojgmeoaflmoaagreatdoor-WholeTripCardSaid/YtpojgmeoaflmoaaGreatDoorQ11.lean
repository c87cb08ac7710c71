/- Words of 32 bits: the model's operations -/
import Derived.Deep.WholeRow
import Derived.Test.YtpojgmeoaflmoaaGreatDoorQ01
set_option linter.unusedVariables false
set_option maxRecDepth 100000
set_option maxHeartbeats 16000000
namespace Go.Proofs.YtpojgmeoaflmoaaGreatDoor
open Go.RowKit
def U32 (x:Int):Prop:=0≤x∧x<4294967296
def w32 (x:Int):Int:=x%4294967296
def xorI (x y:Int):Int:=bits .xor .u32 x y
def andI (x y:Int):Int:=bits .and .u32 x y
def orI (x y:Int):Int:=bits .or .u32 x y
def zbL (x:Int)(k:Nat):Int:=orI (w32 (x*2^(32-k))) (x / 2^k)
theorem u32_w (x:Int):U32 (w32 x):=by
 unfold U32 w32;omega
theorem zoS (op:BinOp)(x y:Int):U32 (bits op .u32 x y):=by
 unfold U32;have h:∀z:Int,0≤IntKind.u32.wrap z∧IntKind.u32.wrap z<4294967296:=fun z=>by
  rw[IntKind.wrap_u32'];omega
 exact h _
theorem zqV (x y:Int):U32 (orI x y):=zoS _ _ _
theorem zqQ (x:Int)(hx:U32 x)(w:World):Calls Tryz.prog 378 #[.int .u32 x,.int .i64 (-2)] w fun e w'=>e = .returned (.int .u32 (zbL x 2))∧w=w':=by
 obtain⟨h0,h1⟩:=hx;have hb:bits .and .u64 (IntKind.u64.wrap (-2)) 31=30:=by decide
 go_enter Tryz.func378,Tryz.ntmps378
 go_wp2
 go_ret;exact⟨by simp[zbL,orI,w32],rfl⟩
theorem zp1 (x:Int)(hx:U32 x)(w:World):Calls Tryz.prog 371 #[.int .u32 x,.int .i64 2] w fun e w'=>e = .returned (.int .u32 (zbL x 2))∧w=w':=by
 go_enter Tryz.func371,Tryz.ntmps371
 go_wp2_with fail
 refine(zqQ x hx _).mono ?_;rintro e w' ⟨rfl,rfl⟩
 go_wp2_with fail
 go_ret;exact⟨rfl,rfl⟩
theorem zqR (x:Int)(hx:U32 x)(w:World):Calls Tryz.prog 378 #[.int .u32 x,.int .i64 (-6)] w fun e w'=>e = .returned (.int .u32 (zbL x 6))∧w=w':=by
 obtain⟨h0,h1⟩:=hx;have hb:bits .and .u64 (IntKind.u64.wrap (-6)) 31=26:=by decide
 go_enter Tryz.func378,Tryz.ntmps378
 go_wp2
 go_ret;exact⟨by simp[zbL,orI,w32],rfl⟩
theorem zp2 (x:Int)(hx:U32 x)(w:World):Calls Tryz.prog 371 #[.int .u32 x,.int .i64 6] w fun e w'=>e = .returned (.int .u32 (zbL x 6))∧w=w':=by
 go_enter Tryz.func371,Tryz.ntmps371
 go_wp2_with fail
 refine(zqR x hx _).mono ?_;rintro e w' ⟨rfl,rfl⟩
 go_wp2_with fail
 go_ret;exact⟨rfl,rfl⟩
theorem zqS (x:Int)(hx:U32 x)(w:World):Calls Tryz.prog 378 #[.int .u32 x,.int .i64 (-7)] w fun e w'=>e = .returned (.int .u32 (zbL x 7))∧w=w':=by
 obtain⟨h0,h1⟩:=hx;have hb:bits .and .u64 (IntKind.u64.wrap (-7)) 31=25:=by decide
 go_enter Tryz.func378,Tryz.ntmps378
 go_wp2
 go_ret;exact⟨by simp[zbL,orI,w32],rfl⟩
theorem zp3 (x:Int)(hx:U32 x)(w:World):Calls Tryz.prog 371 #[.int .u32 x,.int .i64 7] w fun e w'=>e = .returned (.int .u32 (zbL x 7))∧w=w':=by
 go_enter Tryz.func371,Tryz.ntmps371
 go_wp2_with fail
 refine(zqS x hx _).mono ?_;rintro e w' ⟨rfl,rfl⟩
 go_wp2_with fail
 go_ret;exact⟨rfl,rfl⟩
theorem zp4 (x:Int)(hx:U32 x)(w:World):Calls Tryz.prog 378 #[.int .u32 x,.int .i64 (-11)] w fun e w'=>e = .returned (.int .u32 (zbL x 11))∧w=w':=by
 obtain⟨h0,h1⟩:=hx;have hb:bits .and .u64 (IntKind.u64.wrap (-11)) 31=21:=by decide
 go_enter Tryz.func378,Tryz.ntmps378
 go_wp2
 go_ret;exact⟨by simp[zbL,orI,w32],rfl⟩
theorem zoe (x:Int)(hx:U32 x)(w:World):Calls Tryz.prog 371 #[.int .u32 x,.int .i64 11] w fun e w'=>e = .returned (.int .u32 (zbL x 11))∧w=w':=by
 go_enter Tryz.func371,Tryz.ntmps371
 go_wp2_with fail
 refine(zp4 x hx _).mono ?_;rintro e w' ⟨rfl,rfl⟩
 go_wp2_with fail
 go_ret;exact⟨rfl,rfl⟩
theorem zp5 (x:Int)(hx:U32 x)(w:World):Calls Tryz.prog 378 #[.int .u32 x,.int .i64 (-13)] w fun e w'=>e = .returned (.int .u32 (zbL x 13))∧w=w':=by
 obtain⟨h0,h1⟩:=hx;have hb:bits .and .u64 (IntKind.u64.wrap (-13)) 31=19:=by decide
 go_enter Tryz.func378,Tryz.ntmps378
 go_wp2
 go_ret;exact⟨by simp[zbL,orI,w32],rfl⟩
theorem zof (x:Int)(hx:U32 x)(w:World):Calls Tryz.prog 371 #[.int .u32 x,.int .i64 13] w fun e w'=>e = .returned (.int .u32 (zbL x 13))∧w=w':=by
 go_enter Tryz.func371,Tryz.ntmps371
 go_wp2_with fail
 refine(zp5 x hx _).mono ?_;rintro e w' ⟨rfl,rfl⟩
 go_wp2_with fail
 go_ret;exact⟨rfl,rfl⟩
theorem zp6 (x:Int)(hx:U32 x)(w:World):Calls Tryz.prog 378 #[.int .u32 x,.int .i64 (-17)] w fun e w'=>e = .returned (.int .u32 (zbL x 17))∧w=w':=by
 obtain⟨h0,h1⟩:=hx;have hb:bits .and .u64 (IntKind.u64.wrap (-17)) 31=15:=by decide
 go_enter Tryz.func378,Tryz.ntmps378
 go_wp2
 go_ret;exact⟨by simp[zbL,orI,w32],rfl⟩
theorem zog (x:Int)(hx:U32 x)(w:World):Calls Tryz.prog 371 #[.int .u32 x,.int .i64 17] w fun e w'=>e = .returned (.int .u32 (zbL x 17))∧w=w':=by
 go_enter Tryz.func371,Tryz.ntmps371
 go_wp2_with fail
 refine(zp6 x hx _).mono ?_;rintro e w' ⟨rfl,rfl⟩
 go_wp2_with fail
 go_ret;exact⟨rfl,rfl⟩
theorem zp7 (x:Int)(hx:U32 x)(w:World):Calls Tryz.prog 378 #[.int .u32 x,.int .i64 (-18)] w fun e w'=>e = .returned (.int .u32 (zbL x 18))∧w=w':=by
 obtain⟨h0,h1⟩:=hx;have hb:bits .and .u64 (IntKind.u64.wrap (-18)) 31=14:=by decide
 go_enter Tryz.func378,Tryz.ntmps378
 go_wp2
 go_ret;exact⟨by simp[zbL,orI,w32],rfl⟩
theorem zoh (x:Int)(hx:U32 x)(w:World):Calls Tryz.prog 371 #[.int .u32 x,.int .i64 18] w fun e w'=>e = .returned (.int .u32 (zbL x 18))∧w=w':=by
 go_enter Tryz.func371,Tryz.ntmps371
 go_wp2_with fail
 refine(zp7 x hx _).mono ?_;rintro e w' ⟨rfl,rfl⟩
 go_wp2_with fail
 go_ret;exact⟨rfl,rfl⟩
theorem zp8 (x:Int)(hx:U32 x)(w:World):Calls Tryz.prog 378 #[.int .u32 x,.int .i64 (-19)] w fun e w'=>e = .returned (.int .u32 (zbL x 19))∧w=w':=by
 obtain⟨h0,h1⟩:=hx;have hb:bits .and .u64 (IntKind.u64.wrap (-19)) 31=13:=by decide
 go_enter Tryz.func378,Tryz.ntmps378
 go_wp2
 go_ret;exact⟨by simp[zbL,orI,w32],rfl⟩
theorem zoi (x:Int)(hx:U32 x)(w:World):Calls Tryz.prog 371 #[.int .u32 x,.int .i64 19] w fun e w'=>e = .returned (.int .u32 (zbL x 19))∧w=w':=by
 go_enter Tryz.func371,Tryz.ntmps371
 go_wp2_with fail
 refine(zp8 x hx _).mono ?_;rintro e w' ⟨rfl,rfl⟩
 go_wp2_with fail
 go_ret;exact⟨rfl,rfl⟩
theorem zp9 (x:Int)(hx:U32 x)(w:World):Calls Tryz.prog 378 #[.int .u32 x,.int .i64 (-22)] w fun e w'=>e = .returned (.int .u32 (zbL x 22))∧w=w':=by
 obtain⟨h0,h1⟩:=hx;have hb:bits .and .u64 (IntKind.u64.wrap (-22)) 31=10:=by decide
 go_enter Tryz.func378,Tryz.ntmps378
 go_wp2
 go_ret;exact⟨by simp[zbL,orI,w32],rfl⟩
theorem zoj (x:Int)(hx:U32 x)(w:World):Calls Tryz.prog 371 #[.int .u32 x,.int .i64 22] w fun e w'=>e = .returned (.int .u32 (zbL x 22))∧w=w':=by
 go_enter Tryz.func371,Tryz.ntmps371
 go_wp2_with fail
 refine(zp9 x hx _).mono ?_;rintro e w' ⟨rfl,rfl⟩
 go_wp2_with fail
 go_ret;exact⟨rfl,rfl⟩
theorem zqa (x:Int)(hx:U32 x)(w:World):Calls Tryz.prog 378 #[.int .u32 x,.int .i64 (-25)] w fun e w'=>e = .returned (.int .u32 (zbL x 25))∧w=w':=by
 obtain⟨h0,h1⟩:=hx;have hb:bits .and .u64 (IntKind.u64.wrap (-25)) 31=7:=by decide
 go_enter Tryz.func378,Tryz.ntmps378
 go_wp2
 go_ret;exact⟨by simp[zbL,orI,w32],rfl⟩
theorem zok (x:Int)(hx:U32 x)(w:World):Calls Tryz.prog 371 #[.int .u32 x,.int .i64 25] w fun e w'=>e = .returned (.int .u32 (zbL x 25))∧w=w':=by
 go_enter Tryz.func371,Tryz.ntmps371
 go_wp2_with fail
 refine(zqa x hx _).mono ?_;rintro e w' ⟨rfl,rfl⟩
 go_wp2_with fail
 go_ret;exact⟨rfl,rfl⟩
variable {P : Program}
theorem zcf (w:World)(g:Nat)(t:TypeId)(cs:Array Value)(fr:Nat×Nat)(n:Nat)(hg:w.heap[g]? = some (.cells cs t fr))(hn:cs.size=n) :
 (loadCellsFrom ⟨g,0,none⟩ 0 n #[]).run P w = .ok cs w:=by
 subst hn;have:=run_loadCells_list (P:=P) w ⟨g,0,none⟩ cs.toList (fun j v hv=>by
  have hadd:(⟨g,0,none⟩:Addr).add j=⟨g,j,none⟩:=by unfold Addr.add;split<;>simp_all
  rw[hadd,cell_of_row _ _ j cs t fr hg];simpa using hv)
 simpa [loadCells] using this
theorem zb4 (w:World)(g:Nat)(t:TypeId)(old cs:Array Value)(hg:w.heap[g]? = some (.cells old t (0,0)))(hi:(P.info? t).map (·.size)=some cs.size)(ho:old.size=cs.size)(h1:cs.all (·.oneCell')=true) :
 (storeCells ⟨g,0,none⟩ cs.toList 0).run P w = .ok () (w.setRow g cs):=by
 have:=run_storeVar_row (P:=P) w g t t old cs hg hi ho h1;cases hq:P.info? t with
 |none=>simp[hq] at hi
 |some i =>
  have hs:cs.size=i.size:=by simp[hq] at hi;omega
  simpa [storeVar,sizeOf,typeInfo,hq,Value.cells,hs] using this
theorem za.setRow {S:Nat→Prop}{a w:World}(h:za S a w){g:Nat}(hg:S g∨a.heap.size≤g)(cs:Array Value):za S a (w.setRow g cs) :=
 ⟨h.os,h.tape,h.output,by rw[setRow_size];exact h.size,fun k hk hn=>by
  rw[setRow_other _ _ _ _ (fun e=>by subst e;rcases hg with hg|hg;exact hn hg;omega)]
  exact h.block k hk hn⟩
theorem zpb {cs:Array Value}{k:IntKind}{n:Nat}(hn:cs.size=n)(h:∀i,i<n→∃x,cs[i]? = some (.int k x)):cs.all (·.oneCell')=true:=by
 rw[Array.all_eq_true];intro i hi;obtain⟨x,hx⟩:=h i (by omega)
 rw[Array.getElem?_eq_getElem hi] at hx;rw[Option.some.inj hx]
 rfl
def holdA (t:TypeId):Sem Bool:=isAgg t
def holdS (t:TypeId):Sem Nat:=sizeOf t
theorem hA441 (w:World):(isAgg 441).run Tryz.prog w=(holdA 441).run Tryz.prog w:=rfl
theorem hS441 (w:World):(sizeOf 441).run Tryz.prog w=(holdS 441).run Tryz.prog w:=rfl
theorem oA441 (w:World):(holdA 441).run Tryz.prog w = .ok true w:=Tryz.isAgg441 w
theorem oS441 (w:World):(holdS 441).run Tryz.prog w = .ok 64 w:=Tryz.sizeOf441 w
theorem hA415 (w:World):(isAgg 415).run Tryz.prog w=(holdA 415).run Tryz.prog w:=rfl
theorem hS415 (w:World):(sizeOf 415).run Tryz.prog w=(holdS 415).run Tryz.prog w:=rfl
theorem oA415 (w:World):(holdA 415).run Tryz.prog w = .ok true w:=Tryz.isAgg415 w
theorem oS415 (w:World):(holdS 415).run Tryz.prog w = .ok 8 w:=Tryz.sizeOf415 w
theorem hA51 (w:World):(isAgg 51).run Tryz.prog w=(holdA 51).run Tryz.prog w:=rfl
theorem hS51 (w:World):(sizeOf 51).run Tryz.prog w=(holdS 51).run Tryz.prog w:=rfl
theorem oA51 (w:World):(holdA 51).run Tryz.prog w = .ok true w:=Tryz.isAgg51 w
theorem oS51 (w:World):(holdS 51).run Tryz.prog w = .ok 32 w:=Tryz.sizeOf51 w
def byI (b:List UInt8)(j:Nat):Int:=((b.getD j 0).toNat:Int)
def beI (b:List UInt8)(t:Nat):Int:=orI (orI (orI (byI b (4*t)*16777216) (byI b (4*t+1)*65536)) (byI b (4*t+2)*256)) (byI b (4*t+3))
def sg0 (x:Int):Int:=xorI (xorI (zbL x 7) (zbL x 18)) (x / 8)
def sg1 (x:Int):Int:=xorI (xorI (zbL x 17) (zbL x 19)) (x / 1024)
def nextW (a b c d:Int):Int:=w32 (w32 (w32 (a+b)+sg0 c)+sg1 d)
def zbJ (b:List UInt8):Nat→List Int
 |0=>[]
 |t+1=>zbJ b t ++ [if t<16 then beI b t else nextW ((zbJ b t).getD (t-16) 0) ((zbJ b t).getD (t-7) 0) ((zbJ b t).getD (t-15) 0) ((zbJ b t).getD (t-2) 0)]
def zah (b:List UInt8)(i:Nat):Int:=(zbJ b (i+1)).getD i 0
theorem zcv (b:List UInt8):∀t,(zbJ b t).length=t
 |0=>rfl
 |t+1=>by simp[zbJ,zcv b t]
theorem zc3 (b:List UInt8)(i:Nat):∀t,i<t→(zbJ b t).getD i 0=zah b i
 |0,h=>by omega
 |t+1,h=>by
  by_cases e:i=t
  ·subst e
   rfl
  ·have h':i<t:=by omega
   rw[←zc3 b i t h'];simp only[zbJ,List.getD_eq_getElem?_getD];rw[List.getElem?_append_left (by rw[zcv];exact h')]
theorem zhO {b:List UInt8}{t:Nat}(h:t<16):zah b t=beI b t:=by
 unfold zah;simp only[zbJ,if_pos h,List.getD_eq_getElem?_getD];rw[List.getElem?_append_right (by rw[zcv];omega),zcv]
 simp
theorem zhN {b:List UInt8}{t:Nat}(h:¬t<16):zah b t=nextW (zah b (t-16)) (zah b (t-7)) (zah b (t-15)) (zah b (t-2)):=by
 rw[←zc3 b (t-16) t (by omega),←zc3 b (t-7) t (by omega),←zc3 b (t-15) t (by omega),←zc3 b (t-2) t (by omega)]
 conv=>lhs;unfold zah
 simp only[zbJ,if_neg h,List.getD_eq_getElem?_getD];rw[List.getElem?_append_right (by rw[zcv];omega),zcv]
 simp
theorem zi8 (b:List UInt8)(j:Nat):0≤byI b j∧byI b j≤255:=by
 unfold byI;have:=(b.getD j 0).toNat_lt;omega
theorem zdl (b:List UInt8)(t:Nat):U32 (zah b t):=by
 by_cases h:t<16
 ·rw[zhO h]
  exact zqV _ _
 ·rw[zhN h]
  exact u32_w _
def SchB (w:World)(g:Nat)(b:List UInt8)(t:Nat):Prop:=∃cs:Array Value,cs.size=64∧w.heap[g]? = some (.cells cs 441 (0,0))∧∀i,i<t→cs[i]? = some (.int .u32 (zah b i))
def ShByt (w:World)(g off n:Nat)(b:List UInt8):Prop:=∀j,j<n→w.cell? ⟨g,off+j,none⟩=some (.int .u8 (byI b j))
def Row64 (w:World)(g:Nat):Prop:=∃cs:Array Value,cs.size=64∧w.heap[g]? = some (.cells cs 441 (0,0))
theorem SchB.cell {w:World}{g:Nat}{b:List UInt8}{t i:Nat}(h:SchB w g b t)(hi:i<t):w.cell? ⟨g,i,none⟩=some (.int .u32 (zah b i)):=by
 obtain⟨cs,_,h2,h3⟩:=h;have:=h3 i hi;simp[World.cell?,h2,this]
theorem SchB.frozen {w:World}{g:Nat}{b:List UInt8}{t:Nat}(h:SchB w g b t)(i:Nat):w.frozen? ⟨g,i,none⟩=false:=by
 obtain⟨cs,_,h2,h3⟩:=h;simp[World.frozen?,h2]
theorem SchB.has {w:World}{g:Nat}{b:List UInt8}{t i:Nat}(h:SchB w g b t)(hi:i<64):∃v,w.cell? ⟨g,i,none⟩=some v:=by
 obtain⟨cs,h1,h2,h3⟩:=h;exact⟨cs[i],by simp[World.cell?,h2,show i<cs.size by omega]⟩
theorem SchB.set {w:World}{g:Nat}{b:List UInt8}{t:Nat}(h:SchB w g b t)(ht:t<64){x:Int}(hx:x=zah b t):SchB (w.setCell ⟨g,t,none⟩ (.int .u32 x)) g b (t+1):=by
 obtain⟨cs,h1,h2,h3⟩:=h;subst hx;refine⟨cs.setIfInBounds t _,by simpa using h1,zj h2 t _,fun i hi=>?_⟩
 rw[Array.getElem?_setIfInBounds];by_cases e:t=i
 ·subst e
  simp[show t<cs.size by omega]
 ·rw[if_neg e]
  exact h3 i (by omega)
theorem SchB.keep {S:Nat→Prop}{w w':World}{g:Nat}{b:List UInt8}{t:Nat}(h:SchB w g b t)(k:za S w w')(hn:¬S g):SchB w' g b t:=by
 obtain⟨cs,h1,h2,h3⟩:=h;exact⟨cs,h1,k.at h2 hn,h3⟩
theorem Row64.keep {S:Nat→Prop}{w w':World}{g:Nat}(h:Row64 w g)(k:za S w w')(hn:¬S g):Row64 w' g:=by
 obtain⟨cs,h1,h2⟩:=h;exact⟨cs,h1,k.at h2 hn⟩
theorem SchB.start {w:World}{g:Nat}{cs:Array Value}(b:List UInt8)(h:w.heap[g]? = some (.cells cs 441 (0,0)))(hs:cs.size=64):SchB w g b 0:=⟨cs,hs,h,fun i hi=>absurd hi (by omega)⟩
theorem Row64.start {w:World}{g:Nat}{cs:Array Value}(h:w.heap[g]? = some (.cells cs 441 (0,0)))(hs:cs.size=64):Row64 w g:=⟨cs,hs,h⟩
section
attribute [local simp high] hA441 hS441
theorem zmA (g off cap:Nat)(b:List UInt8)(w:World)(hb:ShByt w g off 64 b)(hcap:64≤cap)(hcm:cap≤9223372036854775807) :
 Calls Tryz.prog 370 #[.slice (some ⟨g,off,none⟩) 64 cap] w fun e w'=>∃ws:Array Value,e = .returned (.agg ws)∧ws.size=64∧(∀i,i<64→ws[i]? = some (.int .u32 (zah b i)))∧za zq2 w w':=by
 have HB:=zz0 hb;have hgl:g<w.heap.size:=World.block_lt_of_cell? _ _ (hb 0 (by omega))
 clear hb
 go_enter Tryz.func370,Tryz.ntmps370
 go_wp2_with fail
 go_loopw [7] (fun i wr=>∃t:Nat,t≤64∧i = .int .i64 t∧za zq2 w wr∧SchB wr (w.heap.size+1) b t∧Row64 wr w.heap.size) (fun i _=>64-(intOf i).toNat)
 case atStart =>
  refine⟨0,by omega,rfl,((za.refl _ _).alloc _).alloc _,SchB.start b (World.size_alloc w _ ▸ ze _ _) rfl,Row64.start (zi (ze _ _) _) rfl⟩
 case round =>
  obtain⟨t,ht,rfl,kp,hs,hr⟩:=hrel;have KP:=zz0 kp;have HS:=zz0 hs;have HR:=zz0 hr;clear kp hs hr;by_cases h64:t<64
  ·obtain⟨v0,hv0⟩:=HS.out.has h64
   have f0:=HS.out.frozen t;by_cases h16:t<16
   ·have hby:∀j,j<64→wr.cell? ⟨g,off+j,none⟩=some (.int .u8 (byI b j)):=fun j hj=>(World.cell?_of_block (KP.out.block g hgl (fun e=>e))).trans (HB.out j hj)
    have b0:=hby (4*t) (by omega)
    have b1:=hby (4*t+1) (by omega)
    have b2:=hby (4*t+2) (by omega)
    have b3:=hby (4*t+3) (by omega)
    obtain⟨l0,u0⟩:=zi8 b (4*t);obtain⟨l1,u1⟩:=zi8 b (4*t+1);obtain⟨l2,u2⟩:=zi8 b (4*t+2);obtain⟨l3,u3⟩:=zi8 b (4*t+3);have w0:IntKind.i64.wrap (4*(t:Int))=4*(t:Int):=by rw[IntKind.wrap_i64];omega
    have w1:IntKind.i64.wrap (4*(t:Int)+1)=4*(t:Int)+1:=by rw[IntKind.wrap_i64];omega
    have w2:IntKind.i64.wrap (4*(t:Int)+2)=4*(t:Int)+2:=by rw[IntKind.wrap_i64];omega
    have w3:IntKind.i64.wrap (4*(t:Int)+3)=4*(t:Int)+3:=by rw[IntKind.wrap_i64];omega
    have p0:(4*(t:Int)).toNat=4*t:=by omega
    have p1:(4*(t:Int)+1).toNat=4*t+1:=by omega
    have p2:(4*(t:Int)+2).toNat=4*t+2:=by omega
    have p3:(4*(t:Int)+3).toNat=4*t+3:=by omega
    have q0:0≤4*(t:Int)∧4*(t:Int)<64:=by omega
    have q1:0≤4*(t:Int)+1∧4*(t:Int)+1<64:=by omega
    have q2:0≤4*(t:Int)+2∧4*(t:Int)+2<64:=by omega
    have q3:0≤4*(t:Int)+3∧4*(t:Int)+3<64:=by omega
    have ht16:(t:Int)<16:=by omega
    have ht64:(t:Int)<64:=by omega
    have hgn:g≠w.heap.size+1:=by omega
    clear hby
    go_wp2_with fail
    have HV:Hid (∀v:Value,(wr.setCell ⟨w.heap.size+1,t,none⟩ v).drew.cell? ⟨g,off+4*t,none⟩=some (.int .u8 (byI b (4*t)))∧(wr.setCell ⟨w.heap.size+1,t,none⟩ v).drew.cell? ⟨g,off+(4*t+1),none⟩=some (.int .u8 (byI b (4*t+1)))∧(wr.setCell ⟨w.heap.size+1,t,none⟩ v).drew.cell? ⟨g,off+(4*t+2),none⟩=some (.int .u8 (byI b (4*t+2)))∧(wr.setCell ⟨w.heap.size+1,t,none⟩ v).drew.cell? ⟨g,off+(4*t+3),none⟩=some (.int .u8 (byI b (4*t+3)))):=zz0 (fun v=>by
     refine⟨(World.cell?_setCell_other _ _ _ _ ?_).trans b0,(World.cell?_setCell_other _ _ _ _ ?_).trans b1,(World.cell?_setCell_other _ _ _ _ ?_).trans b2,(World.cell?_setCell_other _ _ _ _ ?_).trans b3⟩<;>(intro e;injection e;omega))
    go_region_held3 (fun W=>W.cell? ⟨g,off+4*t,none⟩=some (.int .u8 (byI b (4*t)))∧W.cell? ⟨g,off+(4*t+1),none⟩=some (.int .u8 (byI b (4*t+1)))∧W.cell? ⟨g,off+(4*t+2),none⟩=some (.int .u8 (byI b (4*t+2)))∧W.cell? ⟨g,off+(4*t+3),none⟩=some (.int .u8 (byI b (4*t+3))))
     (first|with_reducible exact⟨b0,b1,b2,b3⟩|with_reducible exact HV.out _|go_keep)
     (first|fail)
    go_wp2_with fail
    go_roundw
    case rel =>
     refine⟨t+1,by omega,by go_num,(KP.out.setNew (by omega) _ _).drewN _,(HS.out.set h64 ?_).keep (za.drewN (za.refl (fun _=>False) _) _) (fun e=>e),HR.out.keep ((za.setCell (S:=zq3 (w.heap.size+1)) (za.refl _ _) (.inl (zK _)) _).drewN _) (fun e=>by unfold zq3 at e;omega)⟩
     rw[zhO h16]
     rfl
    case measure=>simp[intOf];omega
   ·have ht16:¬((t:Int)<16):=by omega
    have ht64:(t:Int)<64:=by omega
    have hn:Hid (∀i,i<t→wr.cell? ⟨w.heap.size+1,i,none⟩=some (.int .u32 (zah b i))):=zz0 (fun i hi=>HS.out.cell hi)
    have c15:=hn.out (t-15) (by omega)
    have c2:=hn.out (t-2) (by omega)
    have c16:=hn.out (t-16) (by omega)
    have c7:=hn.out (t-7) (by omega)
    have w15:IntKind.i64.wrap ((t:Int)-15)=(t:Int)-15:=by rw[IntKind.wrap_i64];omega
    have w2:IntKind.i64.wrap ((t:Int)-2)=(t:Int)-2:=by rw[IntKind.wrap_i64];omega
    have w16:IntKind.i64.wrap ((t:Int)-16)=(t:Int)-16:=by rw[IntKind.wrap_i64];omega
    have w7:IntKind.i64.wrap ((t:Int)-7)=(t:Int)-7:=by rw[IntKind.wrap_i64];omega
    have p15:((t:Int)-15).toNat=t-15:=by omega
    have p2:((t:Int)-2).toNat=t-2:=by omega
    have p16:((t:Int)-16).toNat=t-16:=by omega
    have p7:((t:Int)-7).toNat=t-7:=by omega
    have q15:0≤(t:Int)-15∧(t:Int)-15<64:=by omega
    have q2:0≤(t:Int)-2∧(t:Int)-2<64:=by omega
    have q16:0≤(t:Int)-16∧(t:Int)-16<64:=by omega
    have q7:0≤(t:Int)-7∧(t:Int)-7<64:=by omega
    have r7:(7:Int)≤(t:Int):=by omega
    have r7':(t:Int)-7<64:=by omega
    have r16':(t:Int)-16<64:=by omega
    have s15:=zdl b (t-15);have s2:=zdl b (t-2)
    go_wp2_with fail
    go_quiet (fail)
    have kpq:=KP.out.drewN nq;have hsq:SchB (wr.drewN nq) (w.heap.size+1) b t:=HS.out.keep ((za.refl zq2 _).drewN nq) (fun e=>e)
    have hrq:Row64 (wr.drewN nq) w.heap.size:=HR.out.keep ((za.refl zq2 _).drewN nq) (fun e=>e)
    revert kpq hsq hrq;clear hn c15 c2 c16 c7 f0 hv0 HR HS KP;clear v0;generalize wr.drewN nq=wq;intro kpq hsq hrq;have KP:=zz0 kpq;have HS:=zz0 hsq;have HR:=zz0 hrq;clear kpq hsq hrq;have ST:Hid (zah b t=nextW (zah b (t-16)) (zah b (t-7)) (zah b (t-15)) (zah b (t-2))):=zz0 (zhN h16);have s16:=zdl b (t-16);have s7:=zdl b (t-7);have c16:=HS.out.cell (i:=t-16) (by omega)
    have c7:=HS.out.cell (i:=t-7) (by omega)
    have f0:=HS.out.frozen t;obtain⟨v0,hv0⟩:=HS.out.has h64;have HT:Hid (t<64∧16≤t∧g<w.heap.size):=zz0 ⟨h64,by omega,hgl⟩
    clear w15 w2 p15 p2 q15 q2 h16 hgl hcap hcm HB;revert ST s16 s7 s15 s2 c16 c7;generalize zah b (t-16)=x16;generalize zah b (t-15)=x15;generalize zah b (t-7)=x7;generalize zah b (t-2)=x2;intro s15 s2 ST s16 s7 c16 c7;have SD:Hid (∀v:Value,(wq.setCell ⟨w.heap.size+1,t,none⟩ v).drew.cell? ⟨w.heap.size+1,t-16,none⟩=some (.int .u32 x16)∧(wq.setCell ⟨w.heap.size+1,t,none⟩ v).drew.cell? ⟨w.heap.size+1,t-7,none⟩=some (.int .u32 x7)):=zz0 (fun v=>by
     have:=HT.out;refine⟨(World.cell?_setCell_other _ _ _ _ ?_).trans c16,(World.cell?_setCell_other _ _ _ _ ?_).trans c7⟩<;>(intro e;injection e;omega))
    have SA:Hid (wq.drew.cell? ⟨w.heap.size+1,t-16,none⟩=some (.int .u32 x16)∧wq.drew.cell? ⟨w.heap.size+1,t-7,none⟩=some (.int .u32 x7)):=zz0 ⟨c16,c7⟩;have S15:Hid (U32 x15):=zz0 s15;have S2:Hid (U32 x2):=zz0 s2;clear s16 s7 s15 s2
    go_wp2_with fail
    go_region_held3 (fun W=>W.cell? ⟨w.heap.size+1,t-16,none⟩=some (.int .u32 x16)∧W.cell? ⟨w.heap.size+1,t-7,none⟩=some (.int .u32 x7))
     (first|with_reducible exact SA.out|with_reducible exact SD.out _|go_keep)
     (first
     |(go_at_call 371;refine(zp3 _ S15.out _).mono ?_;rintro e w' ⟨he,rfl⟩;obtain⟨r7,e7⟩:∃r,r=zbL x15 7:=⟨_,rfl⟩;rw[←e7] at he;subst he;replace e7:=zz0 e7)
     |(go_at_call 371;refine(zoh _ S15.out _).mono ?_;rintro e w' ⟨he,rfl⟩;obtain⟨r18,e18⟩:∃r,r=zbL x15 18:=⟨_,rfl⟩;rw[←e18] at he;subst he;replace e18:=zz0 e18)
     |(go_at_call 371;refine(zog _ S2.out _).mono ?_;rintro e w' ⟨he,rfl⟩;obtain⟨r17,e17⟩:∃r,r=zbL x2 17:=⟨_,rfl⟩;rw[←e17] at he;subst he;replace e17:=zz0 e17)
     |(go_at_call 371;refine(zoi _ S2.out _).mono ?_;rintro e w' ⟨he,rfl⟩;obtain⟨r19,e19⟩:∃r,r=zbL x2 19:=⟨_,rfl⟩;rw[←e19] at he;subst he;replace e19:=zz0 e19))
    go_wp2_with fail
    go_roundw
    case rel =>
     refine⟨t+1,by omega,by go_num,(KP.out.setNew (by omega) _ _).drewN _,(HS.out.set h64 ?_).keep (za.drewN (za.refl (fun _=>False) _) _) (fun e=>e),HR.out.keep ((za.setCell (S:=zq3 (w.heap.size+1)) (za.refl _ _) (.inl (zK _)) _).drewN _) (fun e=>by unfold zq3 at e;omega)⟩
     rw[ST.out,e7.out,e18.out,e17.out,e19.out];simp only[nextW,sg0,sg1,w32,xorI]
    case measure=>simp[intOf];omega
  ·have e:t=64:=by omega
   subst e
   go_wp2_with fail
   obtain⟨cs,hcs,hcb,hcv⟩:=HS.out;obtain⟨rs,hrs,hrb⟩:=HR.out;have hl:=zcf (P:=Tryz.prog) wr (w.heap.size+1) 441 cs (0,0) 64 hcb hcs;simp only[oA441,oS441,Result.andThen,↓reduceIte,hl];rw[Oper.upon_value]
   go_wp2_with fail
   have hst:=zb4 (P:=Tryz.prog) wr w.heap.size 441 rs cs hrb (by rw[hcs];rfl) (by omega) (zpb hcs fun i hi=>⟨_,hcv i hi⟩)
   simp only[oS441,Result.andThen,↓reduceIte,hst];rw[Oper.upon_skip]
   go_wp2_with fail
   refine bodyPost_ret (v:=.agg cs) (results_cell_row (P:=Tryz.prog) Tryz.results370 _ _ w.heap.size 441 cs (0,0) _ rfl (setRow_heap _ _ _ _ _ _ hrb) Tryz.underlying441 rfl (by rw[hcs];rfl)) rfl ?_
   exact⟨cs,rfl,hcs,hcv,KP.out.setRow (.inr (Nat.le_refl _)) _⟩
end
def kList:List Int:=[0x428a2f98,0x71374491,0xb5c0fbcf,0xe9b5dba5,0x3956c25b,0x59f111f1,0x923f82a4,0xab1c5ed5,
 0xd807aa98,0x12835b01,0x243185be,0x550c7dc3,0x72be5d74,0x80deb1fe,0x9bdc06a7,0xc19bf174,
 0xe49b69c1,0xefbe4786,0x0fc19dc6,0x240ca1cc,0x2de92c6f,0x4a7484aa,0x5cb0a9dc,0x76f988da,
 0x983e5152,0xa831c66d,0xb00327c8,0xbf597fc7,0xc6e00bf3,0xd5a79147,0x06ca6351,0x14292967,
 0x27b70a85,0x2e1b2138,0x4d2c6dfc,0x53380d13,0x650a7354,0x766a0abb,0x81c2c92e,0x92722c85,
 0xa2bfe8a1,0xa81a664b,0xc24b8b70,0xc76c51a3,0xd192e819,0xd6990624,0xf40e3585,0x106aa070,
 0x19a4c116,0x1e376c08,0x2748774c,0x34b0bcb5,0x391c0cb3,0x4ed8aa4a,0x5b9cca4f,0x682e6ff3,
 0x748f82ee,0x78a5636f,0x84c87814,0x8cc70208,0x90befffa,0xa4506ceb,0xbef9a3f7,0xc67178f2]
def kI (i:Nat):Int:=kList.getD i 0
structure W8 where
 (a b c d e f g h:Int)
deriving DecidableEq
def W8.u32 (s:W8):Prop:=U32 s.a∧U32 s.b∧U32 s.c∧U32 s.d∧U32 s.e∧U32 s.f∧U32 s.g∧U32 s.h
def W8.cells (s:W8):Array Value:=#[.int .u32 s.a,.int .u32 s.b,.int .u32 s.c,.int .u32 s.d,.int .u32 s.e,.int .u32 s.f,.int .u32 s.g,.int .u32 s.h]
theorem W8.size (s:W8):s.cells.size=8:=rfl
theorem W8.one (s:W8):s.cells.all (·.oneCell')=true:=by simp[W8.cells,Value.oneCell']
def ltS1 (e:Int):Int:=xorI (xorI (zbL e 6) (zbL e 11)) (zbL e 25)
def ltS0 (a:Int):Int:=xorI (xorI (zbL a 2) (zbL a 13)) (zbL a 22)
def chI (e f g:Int):Int:=xorI g (andI e (xorI f g))
def majI (a b c:Int):Int:=orI (andI a b) (andI c (orI a b))
def xW (s:W8)(k w:Int):Int:=w32 (w32 (w32 (w32 (s.h+ltS1 s.e)+chI s.e s.f s.g)+k)+w)
def yW (s:W8):Int:=w32 (ltS0 s.a+majI s.a s.b s.c)
def roundW (s:W8)(k w:Int):W8:=⟨w32 (xW s k w+yW s),s.a,s.b,s.c,w32 (s.d+xW s k w),s.e,s.f,s.g⟩
def zaS (s:W8)(b:List UInt8):Nat→W8
 |0=>s
 |t+1=>roundW (zaS s b t) (kI t) (zah b t)
def addW (s t:W8):W8:=⟨w32 (s.a+t.a),w32 (s.b+t.b),w32 (s.c+t.c),w32 (s.d+t.d),w32 (s.e+t.e),w32 (s.f+t.f),w32 (s.g+t.g),w32 (s.h+t.h)⟩
def stepW (s:W8)(b:List UInt8):W8:=addW (zaS s b 64) s
def Zer8:Obj:=.cells #[.int .u32 0,.int .u32 0,.int .u32 0,.int .u32 0,.int .u32 0,.int .u32 0,.int .u32 0,.int .u32 0] 415
def mixW (s t:W8)(i:Nat):W8:=⟨if 0<i then w32 (s.a+t.a) else s.a,if 1<i then w32 (s.b+t.b) else s.b,if 2<i then w32 (s.c+t.c) else s.c,if 3<i then w32 (s.d+t.d) else s.d,if 4<i then w32 (s.e+t.e) else s.e,if 5<i then w32 (s.f+t.f) else s.f,if 6<i then w32 (s.g+t.g) else s.g,if 7<i then w32 (s.h+t.h) else s.h⟩
def W8.at (s:W8):Nat→Int
 |0=>s.a
 |1=>s.b
 |2=>s.c
 |3=>s.d
 |4=>s.e
 |5=>s.f
 |6=>s.g
 |_=>s.h
theorem W8.get (s:W8):∀n,n<8→s.cells[n]? = some (.int .u32 (s.at n))
 |0,_=>rfl
 |1,_=>rfl
 |2,_=>rfl
 |3,_=>rfl
 |4,_=>rfl
 |5,_=>rfl
 |6,_=>rfl
 |7,_=>rfl
 |n+8,h=>by omega
theorem zpF (s t:W8):∀n,n<8→(mixW s t n).at n=s.at n
 |0,_=>rfl
 |1,_=>rfl
 |2,_=>rfl
 |3,_=>rfl
 |4,_=>rfl
 |5,_=>rfl
 |6,_=>rfl
 |7,_=>rfl
 |n+8,h=>by omega
theorem znY (s t:W8):∀n,n<8→(mixW s t n).cells.setIfInBounds n (.int .u32 (w32 (s.at n+t.at n)))=(mixW s t (n+1)).cells
 |0,_=>rfl
 |1,_=>rfl
 |2,_=>rfl
 |3,_=>rfl
 |4,_=>rfl
 |5,_=>rfl
 |6,_=>rfl
 |7,_=>rfl
 |n+8,h=>by omega
def Kon (w:World):Prop:=∃cs:Array Value,cs.size=64∧(∃(tt:TypeId)(fr:Nat×Nat),w.heap[7]? = some (.cells cs tt fr))∧7+1≤w.heap.size∧∀i,i<64→cs[i]? = some (.int .u32 (kI i))
theorem ShByt.keep {S:Nat→Prop}{w w':World}{g off n:Nat}{b:List UInt8}(h:ShByt w g off n b)(k:za S w w')(hg:g<w.heap.size)(hn:¬S g):ShByt w' g off n b:=fun j hj=>(World.cell?_of_block (k.block g hg hn)).trans (h j hj)
theorem zem {s:W8}(h:s.u32)(b:List UInt8):∀t,(zaS s b t).u32
 |0=>h
 |t+1=>by
  obtain⟨h1,h2,h3,h4,h5,h6,h7,h8⟩:=zem h b t;exact⟨u32_w _,h1,h2,h3,u32_w _,h5,h6,h7⟩
theorem zlR (ws:Array Value)(hws:ws.size=64)(t:Nat)(h:t<64)(v:Value)(hv:ws[t]? = some v)(w:World):(Instr.index 441 (.agg ws) (.int .i64 (t:Int))).run Tryz.prog w = .ok v w:=by
 have e:ws[t]'(by omega)=v:=by
  rw[Array.getElem?_eq_getElem (by omega)] at hv
  exact Option.some.inj hv
 simp[Instr.index,go_sem,hws,h,e]
section
attribute [local simp high] hA441 hS441 hA415 hS415
theorem zoy (s0:W8)(g off cap:Nat)(b:List UInt8)(w:World)(hu:s0.u32)(hk:Kon w)(hb:ShByt w g off 64 b)(hcap:64≤cap)(hcm:cap≤9223372036854775807) :
 Calls Tryz.prog 351 #[.agg s0.cells,.slice (some ⟨g,off,none⟩) 64 cap] w fun e w'=>e = .returned (.agg (stepW s0 b).cells)∧za zq2 w w':=by
 have HB:=zz0 hb;have HK:=zz0 hk;have hgl:g<w.heap.size:=World.block_lt_of_cell? _ _ (hb 0 (by omega))
 clear hb hk
 go_enter Tryz.func351,Tryz.ntmps351
 go_wp2_with fail
 have hl:=zcf (P:=Tryz.prog) _ w.heap.size 415 s0.cells (0,0) 8 (zi (ze w (.cells s0.cells 415)) Zer8) rfl;unfold Zer8 at hl;simp only[oA415,oS415,Result.andThen,↓reduceIte,hl];rw[Oper.upon_value]
 go_wp2_with fail
 have hz:=ze ((w.alloc (.cells s0.cells 415)).alloc Zer8) Zer8;rw[World.size_alloc,World.size_alloc] at hz;have hst:=zb4 (P:=Tryz.prog) (((w.alloc (.cells s0.cells 415)).alloc Zer8).alloc Zer8) (w.heap.size+1+1) 415 #[.int .u32 0,.int .u32 0,.int .u32 0,.int .u32 0,.int .u32 0,.int .u32 0,.int .u32 0,.int .u32 0] s0.cells hz rfl rfl s0.one;unfold Zer8 at hst;simp only[oS415,Result.andThen,↓reduceIte,hst,W8.size];rw[Oper.upon_skip]
 go_wp2_with fail
 have kW:za zq2 w ((((w.alloc (.cells s0.cells 415)).alloc Zer8).alloc Zer8).setRow (w.heap.size+1+1) s0.cells):=((((za.refl _ _).alloc _).alloc _).alloc _).setRow (.inr (by omega)) _
 have gs:=setRow_heap _ (w.heap.size+1+1) _ s0.cells _ _ hz;have gz:=(setRow_other (((w.alloc (.cells s0.cells 415)).alloc Zer8).alloc Zer8) (w.heap.size+1+1) w.heap.size s0.cells (by omega)).trans (zi (zi (ze w (.cells s0.cells 415)) Zer8) Zer8)
 have gr:=ze (w.alloc (.cells s0.cells 415)) Zer8;rw[World.size_alloc] at gr;have gr:=(setRow_other (((w.alloc (.cells s0.cells 415)).alloc Zer8).alloc Zer8) (w.heap.size+1+1) (w.heap.size+1) s0.cells (by omega)).trans (zi gr Zer8)
 refine(zmA g off cap b _ (HB.out.keep kW hgl (fun e=>e)) hcap hcm).mono ?_
 rintro e w1 ⟨ws,rfl,hws,hwv,kp⟩;have gs:=kp.at gs (fun e=>e)
 have gz:=kp.at gz (fun e=>e)
 have gr:=kp.at gr (fun e=>e)
 have KP:=zz0 (kW.trans1 kp);have WV:=zz0 hwv;clear kW kp hl hz hst hwv;revert gs gz gr;intro gs gz gr;have GS:=zz0 gs;have GZ:=zz0 gz;have GR:=zz0 gr;clear gs gz gr
 go_wp2_with fail
 go_loopw [16] (fun i wr=>∃t:Nat,t≤64∧i = .int .i64 t∧za zq2 w wr∧wr.heap[w.heap.size+1+1]? = some (.cells (zaS s0 b t).cells 415 (0,0))∧wr.heap[w.heap.size]? = some (.cells s0.cells 415 (0,0))∧wr.heap[w.heap.size+1]? = some Zer8) (fun i _=>64-(intOf i).toNat)
 case atStart=>exact⟨0,by omega,rfl,KP.out,GS.out,GZ.out,GR.out⟩
 case round =>
  obtain⟨t,ht,rfl,kp,gs,gz,gr⟩:=hrel;clear KP GS GZ GR;have KP:=zz0 kp;have GS:=zz0 gs;have GZ:=zz0 gz;have GR:=zz0 gr;clear kp gs gz gr;by_cases h64:t<64
  ·have ht64:(t:Int)<64:=by omega
   have hix:(Instr.index 441 (.agg ws) (.int .i64 (t:Int))).run Tryz.prog wr = .ok (.int .u32 (zah b t)) wr :=
    zlR ws hws t h64 _ (WV.out t h64) wr
   have HU:=zz0 (zem hu b t);obtain⟨kcs,hk1,⟨ktt,kfr,hk2⟩,hk3,hk4⟩:=HK.out;have kt:wr.cell? ⟨7,t,none⟩=some (.int .u32 (kI t)):=(World.cell?_of_block (KP.out.block 7 (by omega) (fun e=>e))).trans ((cell_of_row w 7 t kcs ktt kfr hk2).trans (hk4 t h64))
   have hrt:Hid (zaS s0 b (t+1)=roundW (zaS s0 b t) (kI t) (zah b t)):=zz0 rfl;generalize zaS s0 b t=sr at GS HU hrt;obtain⟨sa,sb,sc,sd,se,sf,sg,sh⟩:=sr;have c0:wr.cell? ⟨w.heap.size+1+1,0,none⟩=some (.int .u32 sa):=(cell_of_row _ _ 0 _ _ _ GS.out);have c1:wr.cell? ⟨w.heap.size+1+1,1,none⟩=some (.int .u32 sb):=(cell_of_row _ _ 1 _ _ _ GS.out);have c2:wr.cell? ⟨w.heap.size+1+1,2,none⟩=some (.int .u32 sc):=(cell_of_row _ _ 2 _ _ _ GS.out);have c3:wr.cell? ⟨w.heap.size+1+1,3,none⟩=some (.int .u32 sd):=(cell_of_row _ _ 3 _ _ _ GS.out);have c4:wr.cell? ⟨w.heap.size+1+1,4,none⟩=some (.int .u32 se):=(cell_of_row _ _ 4 _ _ _ GS.out);have c5:wr.cell? ⟨w.heap.size+1+1,5,none⟩=some (.int .u32 sf):=(cell_of_row _ _ 5 _ _ _ GS.out);have c6:wr.cell? ⟨w.heap.size+1+1,6,none⟩=some (.int .u32 sg):=(cell_of_row _ _ 6 _ _ _ GS.out);have c7:wr.cell? ⟨w.heap.size+1+1,7,none⟩=some (.int .u32 sh):=(cell_of_row _ _ 7 _ _ _ GS.out);clear hk1 hk2 hk3 hk4 kfr ktt;have HU2:Hid (U32 sa∧U32 se):=zz0 ⟨HU.out.1,HU.out.2.2.2.2.1⟩
   go_wp2_with fail
   go_quiet (fail)
   generalize nq=n1
   go_wp2_with fail
   go_quiet ((first
    |(go_at_call 371;refine(zp2 _ HU2.out.2 _).mono ?_;rintro e w' ⟨rfl,rfl⟩;exact⟨rfl,_,rfl⟩)
    |(go_at_call 371;refine(zoe _ HU2.out.2 _).mono ?_;rintro e w' ⟨rfl,rfl⟩;exact⟨rfl,_,rfl⟩)
    |(go_at_call 371;refine(zok _ HU2.out.2 _).mono ?_;rintro e w' ⟨rfl,rfl⟩;exact⟨rfl,_,rfl⟩)))
   generalize nq=n2;generalize hx:(((sh+bits BinOp.xor IntKind.u32 (bits BinOp.xor IntKind.u32 (zbL se 6) (zbL se 11)) (zbL se 25)+bits BinOp.xor IntKind.u32 sg (bits BinOp.and IntKind.u32 se (bits BinOp.xor IntKind.u32 sf sg))+kI t)%4294967296+zah b t)%4294967296)=x;have HX:=zz0 hx;clear hx
   go_wp2_with fail
   go_quiet ((first
    |(go_at_call 371;refine(zp1 _ HU2.out.1 _).mono ?_;rintro e w' ⟨rfl,rfl⟩;exact⟨rfl,_,rfl⟩)
    |(go_at_call 371;refine(zof _ HU2.out.1 _).mono ?_;rintro e w' ⟨rfl,rfl⟩;exact⟨rfl,_,rfl⟩)
    |(go_at_call 371;refine(zoj _ HU2.out.1 _).mono ?_;rintro e w' ⟨rfl,rfl⟩;exact⟨rfl,_,rfl⟩)))
   generalize nq=n3;generalize hy:((bits BinOp.xor IntKind.u32 (bits BinOp.xor IntKind.u32 (zbL sa 2) (zbL sa 13)) (zbL sa 22)+bits BinOp.or IntKind.u32 (bits BinOp.and IntKind.u32 sa sb) (bits BinOp.and IntKind.u32 sc (bits BinOp.or IntKind.u32 sa sb)))%4294967296)=y;have HY:=zz0 hy;clear hy;have ER:Hid (zaS s0 b (t+1)=⟨(x+y)%4294967296,sa,sb,sc,(sd+x)%4294967296,se,sf,sg⟩):=zz0 (by
    have ex:xW ⟨sa,sb,sc,sd,se,sf,sg,sh⟩ (kI t) (zah b t)=x:=by
     rw[←HX.out];simp only[xW,w32,ltS1,chI,xorI,andI];omega
    have ey:yW ⟨sa,sb,sc,sd,se,sf,sg,sh⟩=y:=by
     rw[←HY.out];simp only[yW,w32,ltS0,majI,xorI,andI,orI]
    rw[hrt.out];unfold roundW;rw[ex,ey]
    rfl)
   go_wp2_with fail
   refine Eq.mpr (congrArg (Oper.upon _ _ _ _ _) (show _=Result.ok Next.skip (World.setRow (wr.drewN (n1+n2+n3)) (w.heap.size+1+1) (W8.cells ⟨(x+y)%4294967296,sa,sb,sc,(sd+x)%4294967296,se,sf,sg⟩)) from ?_)) ?_
   ·have h:=run_storeVar_row (P:=Tryz.prog) (wr.drewN (n1+n2+n3)) (w.heap.size+1+1) 415 415 _ (W8.cells ⟨(x+y)%4294967296,sa,sb,sc,(sd+x)%4294967296,se,sf,sg⟩) GS.out rfl rfl (W8.one _)
    refine Eq.trans ?_ (congrArg (fun r=>Result.andThen r (fun _ w'=>Result.ok Next.skip w')) h)
    clear h;have hsz:=oS415;have f0:=frozen_of_row wr (w.heap.size+1+1) 0 _ _ GS.out;have f1:=frozen_of_row wr (w.heap.size+1+1) 1 _ _ GS.out;have f2:=frozen_of_row wr (w.heap.size+1+1) 2 _ _ GS.out;have f3:=frozen_of_row wr (w.heap.size+1+1) 3 _ _ GS.out;have f4:=frozen_of_row wr (w.heap.size+1+1) 4 _ _ GS.out;have f5:=frozen_of_row wr (w.heap.size+1+1) 5 _ _ GS.out;have f6:=frozen_of_row wr (w.heap.size+1+1) 6 _ _ GS.out;have f7:=frozen_of_row wr (w.heap.size+1+1) 7 _ _ GS.out;unfold W8.cells;go_simp
   rw[Oper.upon_skip]
   go_wp2_with fail
   go_roundw
   case rel=>exact⟨t+1,by omega,by go_num,(KP.out.drewN _).setRow (.inr (by omega)) _,by rw[ER.out];exact setRow_heap _ _ _ _ _ _ GS.out,(setRow_other _ _ _ _ (by omega)).trans GZ.out,(setRow_other _ _ _ _ (by omega)).trans GR.out⟩
   case measure=>simp[intOf];omega
  ·have e:t=64:=by omega
   subst e
   go_wp2_with fail
   go_loopw [92] (fun i wq=>∃n:Nat,n≤8∧i = .int .i64 n∧za zq2 w wq∧wq.heap[w.heap.size+1+1]? = some (.cells (mixW (zaS s0 b 64) s0 n).cells 415 (0,0))∧wq.heap[w.heap.size]? = some (.cells s0.cells 415 (0,0))∧wq.heap[w.heap.size+1]? = some Zer8) (fun i _=>8-(intOf i).toNat)
   case atStart=>exact⟨0,by omega,rfl,KP.out,GS.out,GZ.out,GR.out⟩
   case round =>
    obtain⟨n,hn,rfl,kp,gs,gz,gr⟩:=hrel;clear KP GS GZ GR;have KP:=zz0 kp;have GS:=zz0 gs;have GZ:=zz0 gz;have GR:=zz0 gr;clear kp gs gz gr;by_cases h8:n<8
    ·have h8i:(n:Int)<8:=by omega
     have cs:wr.cell? ⟨w.heap.size+1+1,n,none⟩=some (.int .u32 ((zaS s0 b 64).at n)):=by
      rw[cell_of_row _ _ n _ _ _ GS.out,W8.get _ n h8,zpF _ _ n h8]
     have ct:wr.cell? ⟨w.heap.size,n,none⟩=some (.int .u32 (s0.at n)):=by
      rw[cell_of_row _ _ n _ _ _ GZ.out,W8.get _ n h8]
     have fs:=frozen_of_row wr (w.heap.size+1+1) n _ _ GS.out;have MS:=zz0 (znY (zaS s0 b 64) s0 n h8);generalize (zaS s0 b 64).at n=x at cs MS;generalize s0.at n=y at ct MS
     go_wp2_with fail
     go_region
     all_goals go_wp2_with fail
     go_roundw
     case rel=>exact⟨n+1,by omega,by go_num,(KP.out.setNew (by omega) _ _).drewN _,by rw[←MS.out];exact zeJ (zj GS.out n _) _,zeJ (zdC GZ.out (by omega) _ _) _,zeJ (zdC GR.out (by omega) _ _) _⟩
     case measure=>simp[intOf];omega
    ·have e:n=8:=by omega
     subst e
     go_wp2_with fail
     have hl:=zcf (P:=Tryz.prog) wr (w.heap.size+1+1) 415 _ (0,0) 8 GS.out rfl;simp only[oA415,oS415,Result.andThen,↓reduceIte,hl];rw[Oper.upon_value]
     go_wp2_with fail
     have hst:=zb4 (P:=Tryz.prog) wr (w.heap.size+1) 415 _ (mixW (zaS s0 b 64) s0 8).cells GR.out rfl rfl (W8.one _);simp only[oS415,Result.andThen,↓reduceIte,hst,W8.size];rw[Oper.upon_skip]
     go_wp2_with fail
     refine bodyPost_ret (v:=.agg (stepW s0 b).cells) (results_cell_row (P:=Tryz.prog) Tryz.results351 _ _ (w.heap.size+1) 415 (stepW s0 b).cells (0,0) _ rfl (setRow_heap _ _ _ _ _ _ GR.out) Tryz.underlying415 rfl rfl) rfl ?_;exact⟨rfl,KP.out.setRow (.inr (by omega)) _⟩
end
def lensB (n j:Nat):List UInt8:=(List.range j).map fun i=>UInt8.ofNat (n*8 / 2^(56-8*i))
def padB (n:Nat):List UInt8:=128::(List.replicate ((119-n%64)%64) 0++lensB n 8)
theorem zpR (n:Nat):padB n=128::(List.replicate ((119-n%64)%64) 0++lensB n 8):=rfl
theorem zdj (n:Nat):(padB n).length=1+(119-n%64)%64+8:=by simp[padB,lensB];omega
def lenOfV:Value→Nat
 |.slice _ n _=>n
 |_=>0
theorem zhR (w:World)(u:Value)(t:TypeId):Rd (w.alloc (.cells #[u] t)) (.slice (some ⟨w.heap.size,0,none⟩) 1 1) [u]:=by
 refine⟨_,1,rfl,fun _=>⟨w.heap.size,0,rfl,fun j x hx=>?_⟩⟩
 cases j with
 |zero =>
  simp at hx;subst hx;exact World.cell?_alloc_new _ _ _ 0
 |succ j=>simp at hx
theorem zqd {w:World}{base:Nat}{e:TypeId}{size:Nat}{v:Value}{n:Nat}{xs:List Value}(h:w.ownsRow base e size v n xs):∃a cap,v = .slice a n cap∧n≤cap∧cap≤maxLen:=by
 rcases h.2 with ⟨rfl,rfl⟩|⟨g,cap,cur,rfl,_,_,h1,h2,_⟩
 ·exact⟨none,0,rfl,by omega,by simp[maxLen]⟩
 ·exact⟨_,cap,rfl,h1,h2⟩
theorem shU8:(Tryz.prog.info? 5).map (fun i=>(i.zero,i.size,i.bytes))=some (some (.int .u8 0),1,1):=by kernel_rfl
theorem zpS (n:Nat)(hn:n≤131072)(w:World) :
 Calls Tryz.prog 350 #[.int .i64 (n:Int)] w fun e w'=>∃g cap,e = .returned (.slice (some ⟨g,0,none⟩) (padB n).length cap)∧za zq2 w w'∧w.heap.size≤g∧w'.ownsRow w.heap.size 5 1 (.slice (some ⟨g,0,none⟩) (padB n).length cap) (padB n).length ((padB n).map bv):=by
 obtain⟨i0,hi0,hz0,hz1,hz2⟩:=info_parts shU8
 go_enter Tryz.func350,Tryz.ntmps350
 go_wp2_with fail
 go_loopw [3] (fun v wr=>∃k:Nat,k≤(119-n%64)%64∧za zq2 w wr∧wr.ownsRow w.heap.size 5 1 v (1+k) ((128::List.replicate k 0).map bv)) (fun v _=>64-(lenOfV v))
 case atStart =>
  refine⟨0,by omega,(za.refl _ _).alloc _,?_⟩
  exact World.ownsRow_lit (base:=w.heap.size) (e:=5) (size:=1) w #[.int .u8 128] 1 (Nat.le_refl _) (by decide) rfl
 case round =>
  obtain⟨k,hk,kp,ho⟩:=hrel;rcases ho.2 with ⟨_,hz⟩|⟨g,cap,cur,rfl,hb,hg,hle,hmx,hcs,htk⟩
  ·omega
  have KP:=zz0 kp;have HO:=zz0 ho;clear kp ho;have w1:IntKind.i64.wrap ((n:Int)+((1+k:Nat):Int))=(n:Int)+((1+k:Nat):Int):=by rw[IntKind.wrap_i64];omega
  have w2:IntKind.i64.wrap ((n:Int)+((1+k:Nat):Int)+8)=(n:Int)+((1+k:Nat):Int)+8:=by rw[IntKind.wrap_i64];omega
  by_cases hlt:k<(119-n%64)%64
  ·have hne:(((n:Int)+(1+(k:Int))+8)%64 != 0)=true:=by simp;omega
   go_wp2_with(at_builtin;refine zH rfl _ _ 43 rfl w.heap.size 5 i0 (.int .u8 0) 1 Tryz.underlying43 hi0 hz0 hz1 hz2 rfl (.slice (some ⟨g,0,none⟩) (1+k) cap) (1+k) _ rfl (HO.out.alloc _) (.slice (some ⟨wr.heap.size,0,none⟩) 1 1) rfl [.int .u8 0] (zhR _ _ _) (by intro u hu;simp at hu;subst hu;rfl) (by unfold maxLen;simp;omega) (by simp;omega) (by have:=KP.out.size;simp;omega) ?_;intro v' w' ho hg hp;have HO2:=zz0 ho;have HG:=zz0 hg;clear ho hp hg)
   have h2:=HO2.out;rw[show List.map bv (128::List.replicate k 0) ++ [Value.int .u8 0]=List.map bv (128::List.replicate (k+1) 0) by simp[List.replicate_succ',bv],show 1+k + [Value.int .u8 0].length=1+(k+1) from rfl] at h2
   obtain⟨a2,cap2,rfl,_,_⟩:=zqd h2;exact⟨⟨k+1,by omega,(KP.out.alloc _).grown HG.out (fun q e=>.inr (by injection e with e;subst e;exact hb)),h2⟩,by simp[lenOfV];omega⟩
  ·have ek:Hid (k=(119-n%64)%64):=zz0 (by omega)
   have hne:(((n:Int)+(1+(k:Int))+8)%64 != 0)=false:=by simp;omega
   go_wp2_with fail
   go_loopw [3,4] (fun v i wq=>∃j:Nat,j≤8∧i = .int .i64 (56-8*(j:Int))∧za zq2 w wq∧wq.ownsRow w.heap.size 5 1 v (1+k+j) ((128::(List.replicate k 0++lensB n j)).map bv)) (fun _ i _=>(intOf i+8).toNat)
   case atStart=>exact⟨0,by omega,rfl,KP.out,by simpa [lensB] using HO.out⟩
   case round =>
    clear KP HO htk hle hmx hcs hg hb hk hlt hne;obtain⟨j,hj,rfl,kp,ho⟩:=hrel;rcases ho.2 with ⟨_,hz⟩|⟨g,cap,cur,rfl,hb,hg,hle,hmx,hcs,htk⟩
    ·omega
    have KP:=zz0 kp;have HO:=zz0 ho;clear kp ho;by_cases h8:j<8
    ·have hsh:(0:Int)≤56-8*(j:Int):=by omega
     have w5:IntKind.i64.wrap (56-8*(j:Int)-8)=56-8*(j:Int)-8:=by rw[IntKind.wrap_i64];omega
     have hk:k<64:=by have:=ek.out;omega
     go_wp2_with(at_builtin;refine zH rfl _ _ 43 rfl w.heap.size 5 i0 (.int .u8 0) 1 Tryz.underlying43 hi0 hz0 hz1 hz2 rfl (.slice (some ⟨g,0,none⟩) (1+k+j) cap) (1+k+j) _ rfl (HO.out.alloc _) (.slice (some ⟨wr.heap.size,0,none⟩) 1 1) rfl [.int .u8 ((n:Int)*8 / 2^(56-8*j)%256)] (zhR _ _ _) (by intro u hu;simp at hu;subst hu;rfl) (by unfold maxLen;simp;omega) (by simp;omega) (by have:=KP.out.size;simp;omega) ?_;intro v' w' ho hg hp;have HO2:=zz0 ho;have HG:=zz0 hg;clear ho hp hg)
     have h2:=HO2.out;have e8:(UInt8.ofNat (n*8 / 2^(56-8*j))).toNat=n*8 / 2^(56-8*j)%256:=by simp
     rw[show List.map bv (128::(List.replicate k 0++lensB n j)) ++ [Value.int .u8 ((n:Int)*8 / 2^(56-8*j)%256)]=List.map bv (128::(List.replicate k 0++lensB n (j+1))) by simp[lensB,List.range_succ,bv,e8],show 1+k+j + [Value.int .u8 ((n:Int)*8 / 2^(56-8*j)%256)].length=1+k+(j+1) from rfl] at h2
     exact⟨⟨j+1,by omega,by congr 1;omega,(KP.out.alloc _).grown HG.out (fun q e=>.inr (by injection e with e;subst e;exact hb)),h2⟩,by simp[intOf];omega⟩
    ·have e:j=8:=by omega
     subst e
     go_wp2_with fail
     go_ret;refine⟨g,cap,?_,KP.out,hb,?_⟩
     ·rw[zdj,←ek.out]
      rfl
     ·have:=HO.out
      rw[zdj,←ek.out,zpR,←ek.out];exact this
end Go.Proofs.YtpojgmeoaflmoaaGreatDoor
