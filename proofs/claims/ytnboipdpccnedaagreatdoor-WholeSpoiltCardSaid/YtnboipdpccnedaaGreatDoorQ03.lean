/- A maker's sum of bytes: walked. · slices.Concat of bytes: walked. · Bytes and their sum: sealed, opened. · Bytes and their sum: sealed, opened. · Word -/
import Derived.Test.YtnboipdpccnedaaGreatDoorQ02
set_option linter.unusedVariables false
set_option maxRecDepth 100000
set_option maxHeartbeats 16000000
namespace Go.Proofs.YtnboipdpccnedaaGreatDoor
open Go.RowKit
theorem zkL (b:Nat) (o:Nat→Option Value) (w:World) (h:MkAt w b 0 o) (h0:o 0=some (.int .u32 0)) (h1:o 1=some (.int .i32 0)) :
    Calls Tryz.prog 336 #[.pointer (some ⟨b,0,none⟩),.func (.func 337) #[.pointer (some ⟨b,0,none⟩)] #[]] w fun e w'=>e = .returned (.tuple #[])∧Keep (One b) w w'∧∃ o',MkAt w' b 256 o':=by
  have l0:w.cell? ⟨b,0,none⟩=some (.int .u32 0):=by rw [h.other 0 (by omega)];exact h0
  have H:=zz0 h
  clear h
  go_enter Tryz.func336,Tryz.ntmps336
  go_wp2_with (first
    | (go_at_call 365;refine (zeR ⟨b,0,none⟩ _ l0).mono ?_;rintro e w' ⟨rfl,rfl⟩)
    | (go_at_call 366;refine (zln b o _ H.out h0 h1).mono ?_;rintro e w2 ⟨rfl,k2,m2⟩;have K2:=zz0 k2;have M2:=zz0 m2;clear k2 m2))
  go_end0
  exact ⟨rfl,K2.out,M2.out⟩
theorem zlS (b i:Nat) (v:Int) (w:World) (h:w.cell? ⟨b,i,none⟩=some (.int .i64 v)) (hf:w.frozen? ⟨b,i,none⟩=false) (h0:0≤v) (h1:v≤1000000) :
    Calls Tryz.prog 210 #[.pointer (some ⟨b,i,none⟩),.int .i64 1] w fun e w'=>e = .returned (.int .i64 (v+1))∧w'=w.setCell ⟨b,i,none⟩ (.int .i64 (v+1)):=by
  have hl:=run_call_add (P:=Tryz.prog) Tryz.func286 (by kernel_rfl) (by kernel_rfl) (by kernel_rfl) .i64 (by kernel_rfl) (y:=1) (s:=v+1) h hf (by simp [go_sem,IntWalk.i64_in _ (show -9223372036854775808≤v+1∧v+1≤9223372036854775807 by omega)])
  go_enter Tryz.func210,Tryz.ntmps210
  go_wp2
  go_ret
  exact ⟨rfl,rfl⟩
theorem znV (b:Nat) (o:Nat→Option Value) (w:World) (h:MkAt w b 0 o) (h2:o 259=some (.int .i64 0)) :
    Calls Tryz.prog 145 #[.pointer (some ⟨b,0,none⟩)] w fun e w'=>e = .returned (.tuple #[])∧Keep (One b) w w'∧MkAt w' b 0 (fun i=>if i=259 then some (.int .i64 1) else o i):=by
  have c:=h.other 259 (by omega)
  rw [h2] at c
  have f:=h.free 259
  have H:=zz0 (h.set 259 (by omega) (.int .i64 1) (by omega))
  clear h
  go_enter Tryz.func145,Tryz.ntmps145
  go_wp2_with (go_at_call 210;refine (zlS b 259 0 _ c f (by omega) (by omega)).mono ?_;rintro e w' ⟨rfl,rfl⟩)
  go_end0
  exact ⟨rfl,(Keep.refl _ _).setOne _ _,H.out⟩
def crcStep (x:Int) (c:UInt8):Int:=bits .xor .u32 (tabI (bits .xor .u8 (x % 256) c.toNat)) (x / 256)
def crcGo (x:Int) (l:List UInt8):Int:=l.foldl crcStep x
def not32 (x:Int):Int:=bits .xor .u32 IntKind.u32.max x
def crcI (l:List UInt8):Int:=not32 (crcGo (not32 0) l)
theorem zdT (x:Int) (hx:0≤x∧x < 4294967296):∀ l:List UInt8,0≤crcGo x l∧crcGo x l < 4294967296
  | []=>hx
  | c :: l=>zdT (crcStep x c) (bits32 _ _ _) l
theorem zfm (l:List UInt8):0≤crcGo (not32 0) l∧crcGo (not32 0) l < 4294967296:=zdT _ (bits32 _ _ _) l
theorem xor8 (x y:Int):∃ k:Nat,bits .xor .u8 x y=(k:Int)∧k < 256:=by
  have h:=wf_bits .xor .u8 x y
  simp [Lit.wf,IntKind.min,IntKind.max,IntKind.signed,IntKind.bits] at h
  exact ⟨(bits .xor .u8 x y).toNat,by omega,by omega⟩
theorem ziM (b:Nat) (o:Nat→Option Value) (v:Value) (l:List UInt8) (w:World) (h:MkAt w b 0 o) (h0:o 0=some (.int .u32 0)) (h1:o 1=some (.int .i32 0)) (hv:Bs w v l) (hll:l.length≤100000000) (hb:∀ g,v.ownBlock=some g→g≠b) :
    Calls Tryz.prog 287 #[.pointer (some ⟨b,0,none⟩),.int .u32 0,v] w fun e w'=>e = .returned (.int .u32 (crcI l))∧Keep (One b) w w':=by
  have H:=zz0 h
  have V:=zz0 hv
  have VB:=zz0 hb
  obtain ⟨a,c,rfl,_⟩:=hv
  rw [List.length_map] at V VB ⊢
  clear h hb
  go_enter Tryz.func287,Tryz.ntmps287
  go_wp2_with (go_at_call 336;refine (zkL b o _ H.out h0 h1).mono ?_;rintro e w2 ⟨rfl,k2,o2,m2⟩;have K2:=zz0 k2;have M2:=zz0 m2;clear k2 m2)
  go_loopw [7,26] (fun o i wr=>∃ j:Nat,j≤l.length∧i = .int .i64 j∧o = .int .u32 (crcGo (not32 0) (l.take j))∧wr=w2) (fun _ i _=>l.length - (intOf i).toNat)
  case atStart=>exact ⟨0,by omega,rfl,rfl,rfl⟩
  case round =>
    obtain ⟨j,hj,rfl,rfl,rfl⟩:=hrel
    by_cases hlt:j < l.length
    · have hx:=zfm (l.take j)
      have HS:Hid (crcGo (not32 0) (l.take (j+1))=crcStep (crcGo (not32 0) (l.take j)) l[j]):=zz0 (by rw [List.take_succ_eq_append_getElem hlt,crcGo,List.foldl_append];rfl)
      have hbs:=V.out.keep K2.out (fun g e=>VB.out g e)
      obtain ⟨g,off,rfl,hc⟩:∃ g off,a=some ⟨g,off,none⟩∧∀ j u,(l.map bv)[j]? = some u→wr.cell? ⟨g,off+j,none⟩=some u:=by
        obtain ⟨a',c',e,hx⟩:=hbs
        injection e with e1 e2 e3
        obtain ⟨g,off,e4,hc⟩:=hx (by intro e;have e':=List.map_eq_nil_iff.1 e;rw [e'] at hlt;exact absurd hlt (by simp))
        exact ⟨g,off,e1.trans e4,hc⟩
      have hcell:wr.cell? ⟨g,off+j,none⟩=some (.int .u8 (l[j].toNat:Int)):=hc j _ (by simp [bv,hlt])
      have hl256:l[j].toNat < 256:=UInt8.toNat_lt _
      have hlj:(j:Int) < (l.length:Int):=by omega
      clear hc hbs
      generalize crcGo (not32 0) (l.take j)=x at hx HS
      generalize l[j]=c8 at hcell hl256 HS
      obtain ⟨k,hk,hk2⟩:=xor8 (x % 256) c8.toNat
      have htab:=M2.out.cell k hk2
      have HS2:Hid (crcStep x c8=bits .xor .u32 (tabI k) (x / 256)):=zz0 (by unfold crcStep;rw [hk])
      generalize c8.toNat=c' at hcell hl256 hk
      have hx1:=hx.1
      have hx2:=hx.2
      have hk3:(k:Int) < 256:=by omega
      go_wp2_with fail
      exact ⟨⟨j+1,by omega,by go_num,by rw [HS.out,HS2.out],trivial⟩,by simp [intOf];omega⟩
    · obtain rfl:j=l.length:=by omega
      rw [List.take_length]
      go_wp2_with fail
      go_ret
      exact ⟨rfl,K2.out⟩
theorem znj (b:Nat) (o:Nat→Option Value) (v:Value) (l:List UInt8) (w:World) (h:MkAt w b 0 o) (h0:o 0=some (.int .u32 0)) (h1:o 1=some (.int .i32 0)) (h2:o 259=some (.int .i64 0)) (hv:Bs w v l) (hll:l.length≤100000000) (hb:∀ g,v.ownBlock=some g→g≠b) :
    Calls Tryz.prog 211 #[.pointer (some ⟨b,0,none⟩),.int .u32 0,v] w fun e w'=>e = .returned (.int .u32 (crcI l))∧Keep (One b) w w':=by
  have H:=zz0 h
  have V:=zz0 hv
  have VB:=zz0 hb
  clear h hb
  obtain ⟨a,c,rfl,_⟩:=hv
  rw [List.length_map] at V VB ⊢
  go_enter Tryz.func211,Tryz.ntmps211
  go_wp2_with (first
    | (go_at_call 145;refine (znV b o _ H.out h2).mono ?_;rintro e w1 ⟨rfl,k1,m1⟩;have K1:=zz0 k1;have M1:=zz0 m1;clear k1 m1)
    | (go_at_call 287;refine (ziM b _ _ l _ M1.out (by rw [if_neg (by omega)];exact h0) (by rw [if_neg (by omega)];exact h1) (V.out.keep K1.out (fun g e=>VB.out g e)) hll VB.out).mono ?_;rintro e w2 ⟨rfl,k2⟩;have K2:=zz0 k2;clear k2))
  go_ret
  exact ⟨rfl,K1.out.trans1 K2.out⟩
theorem zmB (b:Nat) (o:Nat→Option Value) (v:Value) (l:List UInt8) (w:World) (h:MkAt w b 0 o) (h0:o 0=some (.int .u32 0)) (h1:o 1=some (.int .i32 0)) (h2:o 259=some (.int .i64 0)) (hv:Bs w v l) (hll:l.length≤100000000) (hb:∀ g,v.ownBlock=some g→g≠b) :
    Calls Tryz.prog 148 #[.pointer (some ⟨b,0,none⟩),v] w fun e w'=>e = .returned (.int .u32 (crcI l))∧Keep (One b) w w':=by
  have H:=zz0 h
  have V:=zz0 hv
  have VB:=zz0 hb
  clear h hb
  obtain ⟨a,c,rfl,_⟩:=hv
  rw [List.length_map] at V VB ⊢
  go_enter Tryz.func148,Tryz.ntmps148
  go_wp2_with (go_at_call 211;refine (znj b _ _ l _ H.out h0 h1 h2 V.out hll VB.out).mono ?_;rintro e w2 ⟨rfl,k2⟩;have K2:=zz0 k2;clear k2)
  go_ret
  exact ⟨rfl,K2.out⟩
theorem zeg (w:World) :
    Calls Tryz.prog 83 #[] w fun e w'=>e = .returned (.pointer (some ⟨w.heap.size,0,none⟩))∧Keep Non w w'∧∃ o,MkAt w' w.heap.size 0 o∧o 0=some (.int .u32 0)∧o 1=some (.int .i32 0)∧o 259=some (.int .i64 0):=by
  go_enter Tryz.func83,Tryz.ntmps83
  go_wp2_with fail
  go_ret
  exact ⟨rfl,(Keep.refl _ _).alloc _,fun i=>Tryz.zeroCells240[i]?,⟨_,zab _ _,by kernel_rfl,fun k hk=>by omega,fun k hk=>rfl⟩,by kernel_rfl,by kernel_rfl,by kernel_rfl⟩
theorem zml (n:Nat) (w:World) (hn:n≤100000000) :
    Calls Tryz.prog 325 #[.slice none 0 0,.int .i64 n] w fun e w'=>∃ v,e = .returned v∧Keep Non w w'∧w'.ownsRow w.heap.size 5 1 v 0 []:=by
  have hb1:Tryz.t5.bytes=1:=rfl
  by_cases hn0:n=0
  · subst hn0
    go_enter Tryz.func325,Tryz.ntmps325
    go_wp2_with fail
    go_ret
    exact ⟨_,rfl,Keep.refl _ _,World.ownsRow_nil _ _ _ _⟩
  · have hns:Builtin.nextslicecap n 0=n:=by unfold Builtin.nextslicecap;rw [if_pos (by omega)]
    have hn1:0 < n:=by omega
    have hcap:(Question.appendCap n 0 5).cut (w.tape w.drawn (Question.appendCap n 0 5))=n+w.tape w.drawn (Question.appendCap n 0 5) % (2 ^ 63 - n):=rfl
    have hmod:w.tape w.drawn (Question.appendCap n 0 5) % (2 ^ 63 - n) < 2 ^ 63 - n:=Nat.mod_lt _ (by omega)
    have HC:=zz0 (And.intro hcap hmod)
    clear hcap hmod
    go_enter Tryz.func325,Tryz.ntmps325
    go_wp2_with fail
    · go_ret
      obtain ⟨q1,q2⟩:=HC.out
      have z0:∀ k,(Builtin.zeroCells #[Value.int .u8 0] k).size=k:=fun k=>by simp [Builtin.zeroCells]
      refine ⟨_,rfl,((Keep.refl _ _).alloc _).drew,rfl,.inr ⟨w.heap.size,_,_,rfl,Nat.le_refl _,zab _ _,Nat.zero_le _,?_,?_,rfl⟩⟩
      · unfold maxLen;omega
      · rw [Array.size_append,z0,z0];omega
def Bss (w:World) (vs:List Value) (ls:List (List UInt8)):Prop:=vs.length=ls.length∧∀ (i:Nat) u l,vs[i]? = some u→ls[i]? = some l→Bs w u l
theorem zeW (g:Nat) (vs:List Value) (ls:List (List UInt8)) (c:Nat) (w:World) (h:Rd w (.slice (some ⟨g,0,none⟩) vs.length c) vs) (hb:Bss w vs ls) (hl:ls.flatten.length≤100000000) (hvl:vs.length≤1000) :
    Calls Tryz.prog 263 #[.slice (some ⟨g,0,none⟩) vs.length c] w (NewB w ls.flatten):=by
  have H:=zz0 h
  have HB:=zz0 hb
  clear h hb
  obtain ⟨i0,hi0,hz0,hz1,hz2⟩:=info_parts infoU8
  go_enter Tryz.func263,Tryz.ntmps263
  go_wp2_with fail
  go_loopw [3,11] (fun o i wr=>∃ j:Nat,j≤vs.length∧i = .int .i64 j∧o = .int .i64 (ls.take j).flatten.length∧wr=w) (fun _ i _=>vs.length - (intOf i).toNat)
  case atStart=>exact ⟨0,by omega,rfl,rfl,rfl⟩
  case round =>
    obtain ⟨j,hj,rfl,rfl,rfl⟩:=hrel
    by_cases hlt:j < vs.length
    · have hjl:j < ls.length:=by rw [← HB.out.1];exact hlt
      have hu:=(HB.out.2 j vs[j] ls[j] (by simp [hlt]) (by simp [hjl]))
      obtain ⟨g',off,e,hc⟩:∃ g' off,some (⟨g,0,none⟩:Addr)=some ⟨g',off,none⟩∧∀ j u,vs[j]? = some u→wr.cell? ⟨g',off+j,none⟩=some u:=by
        obtain ⟨a',c',e,hx⟩:=H.out
        injection e with e1 e2 e3
        obtain ⟨g,off,e4,hc⟩:=hx (by intro e;rw [e] at hlt;exact absurd hlt (by simp))
        exact ⟨g,off,e1.trans e4,hc⟩
      injection e with e
      injection e with e1 e2
      subst e1
      subst e2
      have hcell:=hc j _ (List.getElem?_eq_getElem hlt)
      rw [Nat.zero_add] at hcell
      obtain ⟨a1,c1,e,_⟩:=hu
      rw [e,List.length_map] at hcell
      have HS:Hid ((ls.take (j+1)).flatten.length=(ls.take j).flatten.length+ls[j].length):=zz0 (by rw [List.take_succ_eq_append_getElem hjl,List.flatten_append,List.length_append,List.flatten_cons,List.flatten_nil,List.append_nil])
      have hle:(ls.take j).flatten.length+ls[j].length≤100000000:=by
        rw [← HS.out]
        refine Nat.le_trans ?_ hl
        conv=>rhs;rw [← List.take_append_drop (j+1) ls,List.flatten_append,List.length_append]
        omega
      clear hc e
      generalize (ls.take j).flatten.length=s0 at HS hle
      generalize ls[j].length=s1 at HS hle hcell
      go_wp2_with fail
      exact ⟨⟨j+1,by omega,by go_num,by rw [HS.out];go_num,trivial⟩,by simp [intOf];omega⟩
    · obtain rfl:j=vs.length:=by omega
      rw [HB.out.1,List.take_length]
      generalize hL:ls.flatten.length=L at hl
      go_wp2_with (go_at_call 325;refine (zml L _ hl).mono ?_;rintro e w1 ⟨v1,rfl,k1,o1⟩;have K1:=zz0 k1;have O1:=zz0 o1;clear k1 o1)
      have HL:=zz0 hL
      clear hL
      obtain ⟨w0,hw0⟩:∃ w0,w0=wr:=⟨_,rfl⟩
      subst hw0
      go_loopw [6,27] (fun o i wr2=> ∃ j:Nat,j≤ls.length∧i = .int .i64 j∧Keep Non w0 wr2∧wr2.ownsRow w0.heap.size 5 1 o (ls.take j).flatten.length ((ls.take j).flatten.map bv)) (fun _ i _=>ls.length - (intOf i).toNat)
      case atStart=>exact ⟨0,by omega,rfl,K1.out,O1.out⟩
      case round =>
        obtain ⟨j,hj,rfl,k2,o2⟩:=hrel
        have K2:=zz0 k2
        have O2:=zz0 o2
        clear k2 o2
        by_cases hlt:j < ls.length
        · have hlv:j < vs.length:=by rw [HB.out.1];exact hlt
          have hu:=(HB.out.2 j vs[j] ls[j] (by simp [hlv]) (by simp [hlt])).keepNon K2.out
          obtain ⟨g',off,e,hc⟩:∃ g' off,some (⟨g,0,none⟩:Addr)=some ⟨g',off,none⟩∧∀ j u,vs[j]? = some u→wr.cell? ⟨g',off+j,none⟩=some u:=by
            obtain ⟨a',c',e,hx⟩:=H.out.keepNon K2.out
            injection e with e1 e2 e3
            obtain ⟨g,off,e4,hc⟩:=hx (by intro e;rw [e] at hlv;exact absurd hlv (by simp))
            exact ⟨g,off,e1.trans e4,hc⟩
          injection e with e
          injection e with e1 e2
          subst e1
          subst e2
          have hcell:=hc j _ (List.getElem?_eq_getElem hlv)
          rw [Nat.zero_add] at hcell
          have HU:=zz0 hu
          obtain ⟨a1,c1,e,_⟩:=hu
          rw [e,List.length_map] at hcell HU
          have HS:Hid ((ls.take (j+1)).flatten=(ls.take j).flatten ++ ls[j]):=zz0 (by rw [List.take_succ_eq_append_getElem hlt,List.flatten_append,List.flatten_cons,List.flatten_nil,List.append_nil])
          have hle:(ls.take j).flatten.length+ls[j].length≤100000000:=by
            rw [← List.length_append,← HS.out]
            refine Nat.le_trans ?_ hl
            rw [← HL.out]
            conv=>rhs;rw [← List.take_append_drop (j+1) ls,List.flatten_append,List.length_append]
            omega
          clear hc e
          generalize (ls.take j).flatten=s0 at HS hle O2
          generalize ls[j]=s1 at HS hle hcell HU
          obtain ⟨va,vc,rfl,_,_⟩:=zaa O2.out
          go_wp2_with (refine zah rfl _ _ 44 rfl w0.heap.size 5 i0 (.int .u8 0) 1 Tryz.underlying44 hi0 hz0 hz1 hz2 rfl _ _ _ rfl O2.out _ rfl (s1.map bv) HU.out (zam s1) (by unfold maxLen;simp;omega) (by simp;omega) K2.out.size ?_;intro v' w' ho hg hpp;have HO3:=zz0 ho;have HG:=zz0 hg;clear ho hg hpp)
          have h3:=HO3.out
          rw [← List.map_append,← HS.out] at h3
          refine ⟨⟨j+1,by omega,by go_num,K2.out.grown HG.out (fun q e=>.inr ((O2.out.lt q e).1)),?_⟩,by simp [intOf];omega⟩
          rw [show (ls.take (j+1)).flatten.length=s0.length+(s1.map bv).length by rw [HS.out];simp]
          exact h3
        · obtain rfl:j=ls.length:=by omega
          have o2:=O2.out
          rw [List.take_length] at o2
          have O3:=zz0 o2
          clear o2
          go_wp2_with fail
          go_ret
          exact ⟨_,rfl,K2.out,O3.out⟩
def b8 (y:Int):UInt8:=UInt8.ofNat y.toNat
theorem bv_b8 {y:Int} (h:0≤y∧y < 256):Value.int .u8 y=bv (b8 y):=by
  unfold bv b8
  rw [UInt8.toNat_ofNat',Nat.mod_eq_of_lt (by omega)]
  congr 1
  omega
def fourB (x:Int):List UInt8:=[b8 (x / 16777216),b8 (x / 65536 % 256),b8 (x / 256 % 256),b8 (x % 256)]
theorem zfx (x:Int) (h:0≤x∧x < 4294967296) (w:World):Calls Tryz.prog 147 #[.int .u32 x] w (NewB w (fourB x)):=by
  have h1:=h.1
  have h2:=h.2
  go_enter Tryz.func147,Tryz.ntmps147
  go_wp2_with fail
  go_ret
  refine ⟨_,rfl,(Keep.refl _ _).alloc _,rfl,.inr ⟨w.heap.size,4,_,rfl,Nat.le_refl _,zab _ _,Nat.le_refl _,by unfold maxLen;omega,rfl,?_⟩⟩
  rw [bv_b8 (show 0≤x / 16777216∧x / 16777216 < 256 by omega),bv_b8 (show 0≤x / 65536 % 256∧x / 65536 % 256 < 256 by omega),bv_b8 (show 0≤x / 256 % 256∧x / 256 % 256 < 256 by omega),bv_b8 (show 0≤x % 256∧x % 256 < 256 by omega)]
  rfl
theorem zaw {w:World} {v:Value} {l:List UInt8} (h:Bs w v l):∃ a c,v = .slice a l.length c∧(∀ j (hj:j < l.length),∃ g off,a=some ⟨g,off,none⟩∧w.cell? ⟨g,off+j,none⟩=some (.int .u8 ((l[j].toNat:Nat):Int))):=by
  obtain ⟨a,c,rfl,hx⟩:=h
  refine ⟨a,c,by rw [List.length_map],fun j hj=>?_⟩
  obtain ⟨g,off,rfl,hc⟩:=hx (by intro e;have e':=List.map_eq_nil_iff.1 e;rw [e'] at hj;exact absurd hj (by simp))
  exact ⟨g,off,rfl,hc j _ (by simp [bv,hj])⟩
theorem zgO {l m:List UInt8} {j:Nat} (hl:j < l.length) (hm:j < m.length) (he:l.take j=m.take j):l[j].toNat=m[j].toNat ↔ l.take (j+1)=m.take (j+1):=by
  rw [List.take_succ_eq_append_getElem hl,List.take_succ_eq_append_getElem hm,he,UInt8.toNat_inj]
  constructor
  · intro e;rw [e]
  · intro e
    have:=List.append_cancel_left e
    injection this
theorem zj6 (v v':Value) (l m:List UInt8) (w:World) (h:Bs w v l) (h':Bs w v' m) (hl:l.length≤100000000) (hm:m.length≤100000000) :
    Calls Tryz.prog 146 #[v,v'] w fun e w'=>e = .returned (.bool (l == m))∧Keep Non w w':=by
  have H:=zz0 h
  have H':=zz0 h'
  obtain ⟨a,c,rfl,q0⟩:=zaw h
  obtain ⟨a',c',rfl,q1⟩:=zaw h'
  clear h h' q0 q1
  by_cases hlen:l.length=m.length
  · rw [← hlen] at H' ⊢
    have HLEN:=zz0 hlen
    clear hlen
    go_enter Tryz.func146,Tryz.ntmps146
    go_wp2_with fail
    go_loopw [13] (fun i wr=>∃ j:Nat,j≤l.length∧i = .int .i64 j∧l.take j=m.take j∧Keep Non w wr) (fun i _=>l.length - (intOf i).toNat)
    case atStart=>exact ⟨0,by omega,rfl,rfl,Keep.refl _ _⟩
    case round =>
      obtain ⟨j,hj,rfl,he,hk⟩:=hrel
      have HE:=zz0 he
      have K:=zz0 hk
      clear he hk
      by_cases hlt:j < l.length
      · have hlt':j < m.length:=by have:=HLEN.out;omega
        obtain ⟨a1,c1,e1,q⟩:=zaw (H.out.keepNon K.out)
        obtain ⟨g,off,rfl,hcell⟩:=q j hlt
        injection e1 with e1 e5 e3
        subst e1
        subst e3
        clear e5
        obtain ⟨a2,c2,e2,q'⟩:=zaw (H'.out.keepNon K.out)
        obtain ⟨g2,off2,rfl,hcell2⟩:=q' j hlt'
        injection e2 with e2 e6 e4
        subst e2
        subst e4
        clear e6
        have hlj:(j:Int) < (l.length:Int):=by omega
        have HQ:Hid (l[j].toNat=m[j].toNat ↔ l.take (j+1)=m.take (j+1)):=zz0 (zgO hlt hlt' HE.out)
        clear q q'
        generalize l[j].toNat=x at hcell HQ
        generalize m[j].toNat=y at hcell2 HQ
        clear hlt'
        by_cases hxy:x=y
        · subst hxy
          have HQ2:=zz0 (HQ.out.1 rfl)
          clear HQ
          go_wp2_with fail
          go_region
          all_goals
            go_wp2_with fail
            exact ⟨⟨j+1,by omega,by go_num,HQ2.out,K.out.drew⟩,by simp [intOf];omega⟩
        · have hne:((x:Nat):Int)≠(y:Int):=by omega
          have hf:(l == m)=false:=by
            rw [beq_eq_false_iff_ne]
            intro e
            exact hxy (HQ.out.2 (by rw [e]))
          go_wp2_with fail
          go_region
          all_goals
            go_wp2_with fail
            go_ret
            exact ⟨by rw [hf];rfl,K.out.drew⟩
      · obtain rfl:j=l.length:=by omega
        have hf:(l == m)=true:=by
          have:=HE.out
          rw [List.take_length,HLEN.out,List.take_length] at this
          rw [this]
          exact beq_self_eq_true _
        go_wp2_with fail
        go_ret
        exact ⟨by rw [hf];rfl,K.out⟩
  · have hf:(l == m)=false:=by
      rw [beq_eq_false_iff_ne]
      intro e
      exact hlen (by rw [e])
    have hne:((l.length:Nat):Int)≠(m.length:Int):=by omega
    go_enter Tryz.func146,Tryz.ntmps146
    go_wp2_with fail
    go_ret
    exact ⟨by rw [hf];rfl,Keep.refl _ _⟩
def MkNew (w:World) (b:Nat):Prop:=∃ o,MkAt w b 0 o∧o 0=some (.int .u32 0)∧o 1=some (.int .i32 0)∧o 259=some (.int .i64 0)
theorem MkNew.keep {S:Nat→Prop} {w w':World} {b:Nat} (h:MkNew w b) (k:Keep S w w') (hn:¬ S b):MkNew w' b:=by
  obtain ⟨o,h1,h2⟩:=h
  exact ⟨o,h1.keep k hn,h2⟩
theorem MkNew.lt {w:World} {b:Nat} (h:MkNew w b):b < w.heap.size:=by
  obtain ⟨o,⟨cs,h1,_⟩,_⟩:=h
  exact lt_of_block h1
theorem zfH (b:Nat) (v:Value) (l:List UInt8) (w:World) (h:MkNew w b) (hv:Bs w v l) (hll:l.length≤100000000) (hb:∀ g,v.ownBlock=some g→g≠b) :
    Calls Tryz.prog 148 #[.pointer (some ⟨b,0,none⟩),v] w fun e w'=>e = .returned (.int .u32 (crcI l))∧Keep (One b) w w':=by
  obtain ⟨o,h1,h2,h3,h4⟩:=h
  exact zmB b o v l w h1 h2 h3 h4 hv hll hb
theorem zdU (l:List UInt8):0≤crcI l∧crcI l < 4294967296:=by unfold crcI not32;exact bits32 _ _ _
theorem zba (x:Int):(fourB x).length=4:=rfl
def sealB (l:List UInt8):List UInt8:=l ++ fourB (crcI l)
theorem zgC (l:List UInt8):(sealB l).length=l.length+4:=by simp [sealB,zba]
theorem zlB {w:World} {t:TypeId} (u v:Value):Rd (w.alloc (.cells #[u,v] t)) (.slice (some ⟨w.heap.size,0,none⟩) 2 2) [u,v]:=by
  refine ⟨_,2,rfl,fun _=>⟨w.heap.size,0,rfl,fun j x hx=>?_⟩⟩
  match j with
  | 0=>simp at hx;subst hx;exact World.cell?_alloc_new _ _ _ 0
  | 1=>simp at hx;subst hx;exact World.cell?_alloc_new _ _ _ 1
  | j+2=>simp at hx
theorem zlz {w:World} {u v:Value} {l m:List UInt8} (h:Bs w u l) (h':Bs w v m):Bss w [u,v] [l,m]:=by
  refine ⟨rfl,fun i x y hx hy=>?_⟩
  match i with
  | 0=>simp at hx hy;subst hx;subst hy;exact h
  | 1=>simp at hx hy;subst hx;subst hy;exact h'
  | i+2=>simp at hx
theorem zjd (b:Nat) (v:Value) (l:List UInt8) (w:World) (h:MkNew w b) (hv:Bs w v l) (hll:l.length≤1000000) (hb:∀ g,v.ownBlock=some g→g≠b) :
    Calls Tryz.prog 264 #[.pointer (some ⟨b,0,none⟩),v] w fun e w'=>∃ v',e = .returned v'∧Keep (One b) w w'∧w'.ownsRow w.heap.size 5 1 v' (sealB l).length ((sealB l).map bv):=by
  have H:=zz0 h
  have V:=zz0 hv
  have VB:=zz0 hb
  have hlt:=h.lt
  clear h hb
  obtain ⟨a,c,rfl,_⟩:=hv
  rw [List.length_map] at V VB ⊢
  go_enter Tryz.func264,Tryz.ntmps264
  go_wp2_with (first
    | (go_at_call 148;refine (zfH b _ l _ H.out V.out (by omega) VB.out).mono ?_;rintro e w1 ⟨rfl,k1⟩;have K1:=zz0 k1;clear k1)
    | (go_at_call 147;refine (zfx _ (zdU l) _).mono ?_;rintro e w2 ⟨v2,rfl,k2,o2⟩;obtain ⟨a2,c2,rfl,_,_⟩:=zaa o2;have K2:=zz0 k2;have O2:=zz0 o2;clear k2 o2)
    | (go_at_call 263;have hb2:Bss (w2.alloc (.cells #[Value.slice a l.length c,Value.slice a2 (fourB (crcI l)).length c2] 44)) [Value.slice a l.length c,Value.slice a2 (fourB (crcI l)).length c2] [l,fourB (crcI l)]:=zlz ((V.out.keep K1.out (fun g e=>VB.out g e)).keepNon (K2.out.alloc _)) (Rd.keepNon (Rd.ofOwns O2.out) ((Keep.refl _ _).alloc _));refine (zeW _ [Value.slice a l.length c,Value.slice a2 (fourB (crcI l)).length c2] [l,fourB (crcI l)] 2 _ (zlB _ _) hb2 (by simp [zba];omega) (by simp)).mono ?_;rintro e w3 ⟨v3,rfl,k3,o3⟩;have K3:=zz0 k3;have O3:=zz0 o3;clear k3 o3))
  go_ret
  have ho:=O3.out
  have e:[l,fourB (crcI l)].flatten=sealB l:=by simp [sealB]
  rw [e] at ho
  exact ⟨_,rfl,(((K1.out.trans1 K2.out.ofNon).alloc _).trans1 K3.out.ofNon),zad ho (by have h1:=K1.out.size;have h2:=K2.out.size;simp;omega)⟩
theorem zax {S:Nat→Prop} {w w':World} (h:Keep S w.drew w'):Keep S w w':=⟨h.os,h.tape,h.output,h.size,h.block⟩
theorem zfb (b:Nat) (v:Value) (t s:List UInt8) (w:World) (h:MkNew w b) (hv:Bs w v (t ++ s)) (hc:okc v) (hs:s.length=4) (hll:t.length≤1000000) (hb:∀ g,v.ownBlock=some g→g≠b) :
    Calls Tryz.prog 84 #[.pointer (some ⟨b,0,none⟩),v] w fun e w'=>Keep (One b) w w'∧((fourB (crcI t)=s∧∃ v',e = .returned (.tuple #[v',.nilIface])∧w'.ownsRow w.heap.size 5 1 v' t.length (t.map bv))∨(fourB (crcI t)≠s∧e = .returned (.tuple #[.slice none 0 0,errv 11]))):=by
  have H:=zz0 h
  have V:=zz0 hv
  have VB:=zz0 hb
  have hlt:=h.lt
  have hlen:(t ++ s).length=t.length+4:=by rw [List.length_append,hs]
  clear h hb
  obtain ⟨a,c,rfl,hx⟩:=hv
  obtain ⟨g,off,rfl,_⟩:=hx (by intro e;rw [List.map_eq_nil_iff] at e;rw [e] at hlen;simp at hlen)
  have hc1:=hc.1
  rw [List.length_map,hlen] at V VB hc1 ⊢
  clear hx hc
  have VH:=zz0 (zkk V.out)
  have VR:Hid (Bs w (.slice (some ⟨g,off+t.length,none⟩) 4 (c - t.length)) s):=zz0 (by have:=zew V.out;rw [show t.length+4 - t.length=4 by omega] at this;exact this)
  have VB2:Hid (∀ q,g=q→q≠b):=zz0 (fun q e=>VB.out q (by rw [← e];rfl))
  clear V VB
  have hcq:¬ c=t.length:=by omega
  go_enter Tryz.func84,Tryz.ntmps84
  by_cases hq:fourB (crcI t)=s
  · have hq2:(fourB (crcI t) == s)=true:=by rw [hq];exact beq_self_eq_true _
    go_wp2_with fail
    go_region_with (first
      | (go_at_call 148;refine (zfH b _ t _ (by exact H.out) (by exact VH.out) (by omega) (fun q e=>VB2.out q (by injection e))).mono ?_;rintro e w1 ⟨rfl,k1⟩;have K1:=zz0 (zax (w:=w) (by exact k1));clear k1)
      | (go_at_call 147;refine (zfx _ (zdU t) _).mono ?_;rintro e w2 ⟨v2,rfl,k2,o2⟩;obtain ⟨a2,c2,rfl,_,_⟩:=zaa o2;have K2:=zz0 k2;have O2:=zz0 o2;clear k2 o2)
      | (go_at_call 146;refine (zj6 _ _ _ s _ (Rd.ofOwns O2.out) ((VR.out.keep K1.out (fun q e=>VB2.out q (by injection e))).keepNon K2.out) (by rw [zba];omega) (by omega)).mono ?_;rw [hq2];rintro e w3 ⟨rfl,k3⟩;have K3:=zz0 k3;clear k3))
    all_goals
     go_wp2_with (go_at_call 81;refine (za1 _ t _ (((VH.out.keep K1.out (fun q e=>VB2.out q (by injection e))).keepNon K2.out).keepNon K3.out) (by omega)).mono ?_;rintro e w4 ⟨v4,rfl,k4,o4⟩;have K4:=zz0 k4;have O4:=zz0 o4;clear k4 o4)
     go_ret2
     exact ⟨((K1.out.trans1 K2.out.ofNon).trans1 K3.out.ofNon).trans1 K4.out.ofNon,.inl ⟨hq,_,rfl,zad O4.out (by have h1:=K1.out.size;have h2:=K2.out.size;have h3:=K3.out.size;omega)⟩⟩
  · have hq2:(fourB (crcI t) == s)=false:=beq_eq_false_iff_ne.2 hq
    go_wp2_with fail
    go_region_with (first
      | (go_at_call 148;refine (zfH b _ t _ (by exact H.out) (by exact VH.out) (by omega) (fun q e=>VB2.out q (by injection e))).mono ?_;rintro e w1 ⟨rfl,k1⟩;have K1:=zz0 (zax (w:=w) (by exact k1));clear k1)
      | (go_at_call 147;refine (zfx _ (zdU t) _).mono ?_;rintro e w2 ⟨v2,rfl,k2,o2⟩;obtain ⟨a2,c2,rfl,_,_⟩:=zaa o2;have K2:=zz0 k2;have O2:=zz0 o2;clear k2 o2)
      | (go_at_call 146;refine (zj6 _ _ _ s _ (Rd.ofOwns O2.out) ((VR.out.keep K1.out (fun q e=>VB2.out q (by injection e))).keepNon K2.out) (by rw [zba];omega) (by omega)).mono ?_;rw [hq2];rintro e w3 ⟨rfl,k3⟩;have K3:=zz0 k3;clear k3))
    all_goals
     go_wp2_with fail
     go_ret2
     exact ⟨(K1.out.trans1 K2.out.ofNon).trans1 K3.out.ofNon,.inr ⟨hq,rfl⟩⟩
def U32 (x:Int):Prop:=0≤x∧x < 4294967296
def w32 (x:Int):Int:=x % 4294967296
def xorI (x y:Int):Int:=bits .xor .u32 x y
def andI (x y:Int):Int:=bits .and .u32 x y
def orI (x y:Int):Int:=bits .or .u32 x y
def rotI (x:Int) (k:Nat):Int:=orI (w32 (x * 2 ^ (32 - k))) (x / 2 ^ k)
theorem u32_w (x:Int):U32 (w32 x):=by
  unfold U32 w32
  omega
theorem zno (op:BinOp) (x y:Int):U32 (bits op .u32 x y):=by
  unfold U32
  have h:∀ z:Int,0≤IntKind.u32.wrap z∧IntKind.u32.wrap z < 4294967296:=fun z=>by
    rw [IntKind.wrap_u32']
    omega
  exact h _
theorem zqe (x y:Int):U32 (orI x y):=zno _ _ _
theorem zp5 (x:Int) (hx:U32 x) (w:World):Calls Tryz.prog 372 #[.int .u32 x,.int .i64 (-2)] w fun e w'=>e = .returned (.int .u32 (rotI x 2))∧w=w':=by
  obtain ⟨h0,h1⟩:=hx
  have hb:bits .and .u64 (IntKind.u64.wrap (-2)) 31=30:=by decide
  go_enter Tryz.func372,Tryz.ntmps372
  go_wp2
  go_ret
  exact ⟨by simp [rotI,orI,w32],rfl⟩
theorem zoU (x:Int) (hx:U32 x) (w:World):Calls Tryz.prog 346 #[.int .u32 x,.int .i64 2] w fun e w'=>e = .returned (.int .u32 (rotI x 2))∧w=w':=by
  go_enter Tryz.func346,Tryz.ntmps346
  go_wp2_with fail
  refine (zp5 x hx _).mono ?_
  rintro e w' ⟨rfl,rfl⟩
  go_wp2_with fail
  go_ret
  exact ⟨rfl,rfl⟩
theorem zp6 (x:Int) (hx:U32 x) (w:World):Calls Tryz.prog 372 #[.int .u32 x,.int .i64 (-6)] w fun e w'=>e = .returned (.int .u32 (rotI x 6))∧w=w':=by
  obtain ⟨h0,h1⟩:=hx
  have hb:bits .and .u64 (IntKind.u64.wrap (-6)) 31=26:=by decide
  go_enter Tryz.func372,Tryz.ntmps372
  go_wp2
  go_ret
  exact ⟨by simp [rotI,orI,w32],rfl⟩
theorem zoV (x:Int) (hx:U32 x) (w:World):Calls Tryz.prog 346 #[.int .u32 x,.int .i64 6] w fun e w'=>e = .returned (.int .u32 (rotI x 6))∧w=w':=by
  go_enter Tryz.func346,Tryz.ntmps346
  go_wp2_with fail
  refine (zp6 x hx _).mono ?_
  rintro e w' ⟨rfl,rfl⟩
  go_wp2_with fail
  go_ret
  exact ⟨rfl,rfl⟩
theorem zp7 (x:Int) (hx:U32 x) (w:World):Calls Tryz.prog 372 #[.int .u32 x,.int .i64 (-7)] w fun e w'=>e = .returned (.int .u32 (rotI x 7))∧w=w':=by
  obtain ⟨h0,h1⟩:=hx
  have hb:bits .and .u64 (IntKind.u64.wrap (-7)) 31=25:=by decide
  go_enter Tryz.func372,Tryz.ntmps372
  go_wp2
  go_ret
  exact ⟨by simp [rotI,orI,w32],rfl⟩
theorem zoW (x:Int) (hx:U32 x) (w:World):Calls Tryz.prog 346 #[.int .u32 x,.int .i64 7] w fun e w'=>e = .returned (.int .u32 (rotI x 7))∧w=w':=by
  go_enter Tryz.func346,Tryz.ntmps346
  go_wp2_with fail
  refine (zp7 x hx _).mono ?_
  rintro e w' ⟨rfl,rfl⟩
  go_wp2_with fail
  go_ret
  exact ⟨rfl,rfl⟩
theorem zoY (x:Int) (hx:U32 x) (w:World):Calls Tryz.prog 372 #[.int .u32 x,.int .i64 (-11)] w fun e w'=>e = .returned (.int .u32 (rotI x 11))∧w=w':=by
  obtain ⟨h0,h1⟩:=hx
  have hb:bits .and .u64 (IntKind.u64.wrap (-11)) 31=21:=by decide
  go_enter Tryz.func372,Tryz.ntmps372
  go_wp2
  go_ret
  exact ⟨by simp [rotI,orI,w32],rfl⟩
theorem zmT (x:Int) (hx:U32 x) (w:World):Calls Tryz.prog 346 #[.int .u32 x,.int .i64 11] w fun e w'=>e = .returned (.int .u32 (rotI x 11))∧w=w':=by
  go_enter Tryz.func346,Tryz.ntmps346
  go_wp2_with fail
  refine (zoY x hx _).mono ?_
  rintro e w' ⟨rfl,rfl⟩
  go_wp2_with fail
  go_ret
  exact ⟨rfl,rfl⟩
theorem zoZ (x:Int) (hx:U32 x) (w:World):Calls Tryz.prog 372 #[.int .u32 x,.int .i64 (-13)] w fun e w'=>e = .returned (.int .u32 (rotI x 13))∧w=w':=by
  obtain ⟨h0,h1⟩:=hx
  have hb:bits .and .u64 (IntKind.u64.wrap (-13)) 31=19:=by decide
  go_enter Tryz.func372,Tryz.ntmps372
  go_wp2
  go_ret
  exact ⟨by simp [rotI,orI,w32],rfl⟩
theorem zmU (x:Int) (hx:U32 x) (w:World):Calls Tryz.prog 346 #[.int .u32 x,.int .i64 13] w fun e w'=>e = .returned (.int .u32 (rotI x 13))∧w=w':=by
  go_enter Tryz.func346,Tryz.ntmps346
  go_wp2_with fail
  refine (zoZ x hx _).mono ?_
  rintro e w' ⟨rfl,rfl⟩
  go_wp2_with fail
  go_ret
  exact ⟨rfl,rfl⟩
theorem zo0 (x:Int) (hx:U32 x) (w:World):Calls Tryz.prog 372 #[.int .u32 x,.int .i64 (-17)] w fun e w'=>e = .returned (.int .u32 (rotI x 17))∧w=w':=by
  obtain ⟨h0,h1⟩:=hx
  have hb:bits .and .u64 (IntKind.u64.wrap (-17)) 31=15:=by decide
  go_enter Tryz.func372,Tryz.ntmps372
  go_wp2
  go_ret
  exact ⟨by simp [rotI,orI,w32],rfl⟩
theorem zmV (x:Int) (hx:U32 x) (w:World):Calls Tryz.prog 346 #[.int .u32 x,.int .i64 17] w fun e w'=>e = .returned (.int .u32 (rotI x 17))∧w=w':=by
  go_enter Tryz.func346,Tryz.ntmps346
  go_wp2_with fail
  refine (zo0 x hx _).mono ?_
  rintro e w' ⟨rfl,rfl⟩
  go_wp2_with fail
  go_ret
  exact ⟨rfl,rfl⟩
theorem zo1 (x:Int) (hx:U32 x) (w:World):Calls Tryz.prog 372 #[.int .u32 x,.int .i64 (-18)] w fun e w'=>e = .returned (.int .u32 (rotI x 18))∧w=w':=by
  obtain ⟨h0,h1⟩:=hx
  have hb:bits .and .u64 (IntKind.u64.wrap (-18)) 31=14:=by decide
  go_enter Tryz.func372,Tryz.ntmps372
  go_wp2
  go_ret
  exact ⟨by simp [rotI,orI,w32],rfl⟩
theorem zmW (x:Int) (hx:U32 x) (w:World):Calls Tryz.prog 346 #[.int .u32 x,.int .i64 18] w fun e w'=>e = .returned (.int .u32 (rotI x 18))∧w=w':=by
  go_enter Tryz.func346,Tryz.ntmps346
  go_wp2_with fail
  refine (zo1 x hx _).mono ?_
  rintro e w' ⟨rfl,rfl⟩
  go_wp2_with fail
  go_ret
  exact ⟨rfl,rfl⟩
theorem zo2 (x:Int) (hx:U32 x) (w:World):Calls Tryz.prog 372 #[.int .u32 x,.int .i64 (-19)] w fun e w'=>e = .returned (.int .u32 (rotI x 19))∧w=w':=by
  obtain ⟨h0,h1⟩:=hx
  have hb:bits .and .u64 (IntKind.u64.wrap (-19)) 31=13:=by decide
  go_enter Tryz.func372,Tryz.ntmps372
  go_wp2
  go_ret
  exact ⟨by simp [rotI,orI,w32],rfl⟩
theorem zmX (x:Int) (hx:U32 x) (w:World):Calls Tryz.prog 346 #[.int .u32 x,.int .i64 19] w fun e w'=>e = .returned (.int .u32 (rotI x 19))∧w=w':=by
  go_enter Tryz.func346,Tryz.ntmps346
  go_wp2_with fail
  refine (zo2 x hx _).mono ?_
  rintro e w' ⟨rfl,rfl⟩
  go_wp2_with fail
  go_ret
  exact ⟨rfl,rfl⟩
theorem zo3 (x:Int) (hx:U32 x) (w:World):Calls Tryz.prog 372 #[.int .u32 x,.int .i64 (-22)] w fun e w'=>e = .returned (.int .u32 (rotI x 22))∧w=w':=by
  obtain ⟨h0,h1⟩:=hx
  have hb:bits .and .u64 (IntKind.u64.wrap (-22)) 31=10:=by decide
  go_enter Tryz.func372,Tryz.ntmps372
  go_wp2
  go_ret
  exact ⟨by simp [rotI,orI,w32],rfl⟩
theorem zmY (x:Int) (hx:U32 x) (w:World):Calls Tryz.prog 346 #[.int .u32 x,.int .i64 22] w fun e w'=>e = .returned (.int .u32 (rotI x 22))∧w=w':=by
  go_enter Tryz.func346,Tryz.ntmps346
  go_wp2_with fail
  refine (zo3 x hx _).mono ?_
  rintro e w' ⟨rfl,rfl⟩
  go_wp2_with fail
  go_ret
  exact ⟨rfl,rfl⟩
theorem zo4 (x:Int) (hx:U32 x) (w:World):Calls Tryz.prog 372 #[.int .u32 x,.int .i64 (-25)] w fun e w'=>e = .returned (.int .u32 (rotI x 25))∧w=w':=by
  obtain ⟨h0,h1⟩:=hx
  have hb:bits .and .u64 (IntKind.u64.wrap (-25)) 31=7:=by decide
  go_enter Tryz.func372,Tryz.ntmps372
  go_wp2
  go_ret
  exact ⟨by simp [rotI,orI,w32],rfl⟩
theorem zmZ (x:Int) (hx:U32 x) (w:World):Calls Tryz.prog 346 #[.int .u32 x,.int .i64 25] w fun e w'=>e = .returned (.int .u32 (rotI x 25))∧w=w':=by
  go_enter Tryz.func346,Tryz.ntmps346
  go_wp2_with fail
  refine (zo4 x hx _).mono ?_
  rintro e w' ⟨rfl,rfl⟩
  go_wp2_with fail
  go_ret
  exact ⟨rfl,rfl⟩
end Go.Proofs.YtnboipdpccnedaaGreatDoor
