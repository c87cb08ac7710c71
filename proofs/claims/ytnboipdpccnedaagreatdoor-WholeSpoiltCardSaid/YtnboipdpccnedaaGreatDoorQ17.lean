/- The document's forms of the bits, and the program's: plain numbers. · The document's round, its sums spelled as its walk spells them: plain laws. -/
import Derived.Test.YtnboipdpccnedaaGreatDoorQ15
set_option linter.unusedVariables false
set_option maxRecDepth 100000
set_option maxHeartbeats 16000000
namespace Go.Proofs.YtnboipdpccnedaaGreatDoor
open Go.RowKit
theorem zh0 {a i:Nat} (ha:a < M32) (hi:32≤i):a.testBit i=false:=Nat.testBit_lt_two_pow (Nat.lt_of_lt_of_le ha (Nat.pow_le_pow_right (by decide) hi:2 ^ 32≤2 ^ i))
def notN (a:Nat):Nat:=2 ^ 32 - (a+1)
theorem zoD (a:Nat):notN a < M32:=by unfold notN M32;omega
theorem zpL {e f g:Nat} (he:e < M32) (hf:f < M32) (hg:g < M32):(e &&& f) ^^^ (notN e &&& g)=g ^^^ (e &&& (f ^^^ g)):=by
  apply Nat.eq_of_testBit_eq
  intro i
  simp only [Nat.testBit_xor,Nat.testBit_and,notN]
  rw [Nat.testBit_two_pow_sub_succ (show e < 2 ^ 32 from he)]
  by_cases hi:i < 32
  · simp only [hi,decide_true,Bool.true_and]
    cases e.testBit i <;> cases f.testBit i <;> cases g.testBit i <;> rfl
  · rw [zh0 he (by omega),zh0 hf (by omega),zh0 hg (by omega)]
    simp
theorem zov (a b c:Nat):((a &&& b) ^^^ (a &&& c)) ^^^ (b &&& c)=(a &&& b) ||| (c &&& (a ||| b)):=by
  apply Nat.eq_of_testBit_eq
  intro i
  simp only [Nat.testBit_xor,Nat.testBit_and,Nat.testBit_or]
  cases a.testBit i <;> cases b.testBit i <;> cases c.testBit i <;> rfl
theorem zcE {x:Int} (h:U32 x):∃ n:Nat,x=(n:Int)∧n < M32:=by
  obtain ⟨h0,h1⟩:=h
  obtain ⟨n,rfl⟩:=Int.eq_ofNat_of_zero_le h0
  exact ⟨n,rfl,by unfold M32;omega⟩
def notI (x:Int):Int:=4294967295 - x
theorem zib {a:Nat} (h:a < M32):notI (a:Int)=((notN a:Nat):Int):=by
  unfold notI notN
  unfold M32 at h
  omega
theorem ch_eq {e f g:Int} (he:U32 e) (hf:U32 f) (hg:U32 g):xorI (andI e f) (andI (notI e) g)=chI e f g:=by
  obtain ⟨e,rfl,he'⟩:=zcE he
  obtain ⟨f,rfl,hf'⟩:=zcE hf
  obtain ⟨g,rfl,hg'⟩:=zcE hg
  unfold chI
  rw [zib he',zbE he' hf',zbE (zoD e) hg',zct (zcu hf') (zcu hg'),zct hf' hg',zbE he' (zlN hf' hg'),zct hg' (zcu (zlN hf' hg')),zpL he' hf' hg']
theorem zpV {a b c:Int} (ha:U32 a) (hb:U32 b) (hc:U32 c):xorI (xorI (andI a b) (andI a c)) (andI b c)=majI a b c:=by
  obtain ⟨a,rfl,ha'⟩:=zcE ha
  obtain ⟨b,rfl,hb'⟩:=zcE hb
  obtain ⟨c,rfl,hc'⟩:=zcE hc
  unfold majI
  rw [zbE ha' hb',zbE ha' hc',zbE hb' hc',zct (zcu hb') (zcu hc'),zct (zlN (zcu hb') (zcu hc')) (zcu hc'),zel ha' hb',zbE hc' (or_lt ha' hb'),zel (zcu hb') (zcu (or_lt ha' hb')),zov]
theorem zkQ {a b k:Nat} (h:b < 2 ^ k):a * 2 ^ k ||| b=a * 2 ^ k+b:=by
  rw [Nat.mul_comm,Nat.two_pow_add_eq_or_of_lt h]
theorem bnd_0 {x0:Nat} (h0:x0 < 256):x0 * 16777216 < 4294967296:=by omega
theorem bnd_1 {x0:Nat} (h0:x0 < 256):x0 * 65536 < 16777216:=by omega
theorem bnd_2 {x0:Nat} (h0:x0 < 256):x0 * 256 < 65536:=by omega
theorem sum_4 {x0 x1 x2 x3:Nat} (h0:x0 < 256) (h1:x1 < 256) (h2:x2 < 256) (h3:x3 < 256):((x0 * 16777216 ||| x1 * 65536) ||| x2 * 256) ||| x3=x0 * 16777216+x1 * 65536+x2 * 256+x3:=by
  have s1:x0 * 16777216 ||| x1 * 65536=x0 * 16777216+x1 * 65536:=zkQ (k:=24) (bnd_1 h1)
  have s2:(x0 * 16777216+x1 * 65536) ||| x2 * 256=x0 * 16777216+x1 * 65536+x2 * 256:=by
    have:=zkQ (a:=x0 * 256+x1) (b:=x2 * 256) (k:=16) (bnd_2 h2)
    rw [show (x0 * 256+x1) * 2 ^ 16=x0 * 16777216+x1 * 65536 by omega] at this
    exact this
  have s3:(x0 * 16777216+x1 * 65536+x2 * 256) ||| x3=x0 * 16777216+x1 * 65536+x2 * 256+x3:=by
    have:=zkQ (a:=x0 * 65536+x1 * 256+x2) (b:=x3) (k:=8) h3
    rw [show (x0 * 65536+x1 * 256+x2) * 2 ^ 8=x0 * 16777216+x1 * 65536+x2 * 256 by omega] at this
    exact this
  rw [s1,s2,s3]
theorem orI_4 {x0 x1 x2 x3:Nat} (h0:x0 < 256) (h1:x1 < 256) (h2:x2 < 256) (h3:x3 < 256):orI (orI (orI ((x0:Int) * 16777216) ((x1:Int) * 65536)) ((x2:Int) * 256)) (x3:Int)=(x0:Int) * 16777216+(x1:Int) * 65536+(x2:Int) * 256+(x3:Int):=by
  have l0:x0 * 16777216 < M32:=bnd_0 h0
  have l1:x1 * 65536 < M32:=Nat.lt_trans (bnd_1 h1) (by decide)
  have l2:x2 * 256 < M32:=Nat.lt_trans (bnd_2 h2) (by decide)
  have l3:x3 < M32:=Nat.lt_trans h3 (by decide)
  have e0:(x0:Int) * 16777216=((x0 * 16777216:Nat):Int):=by omega
  have e1:(x1:Int) * 65536=((x1 * 65536:Nat):Int):=by omega
  have e2:(x2:Int) * 256=((x2 * 256:Nat):Int):=by omega
  rw [e0,e1,e2,zel l0 l1,zel (or_lt l0 l1) l2,zel (or_lt (or_lt l0 l1) l2) l3,sum_4 h0 h1 h2 h3]
  rfl
theorem znX (b:List UInt8) (t:Nat):beI b t=byI b (4 * t) * 16777216+byI b (4 * t+1) * 65536+byI b (4 * t+2) * 256+byI b (4 * t+3) :=
  orI_4 (b.getD (4 * t) 0).toNat_lt (b.getD (4 * t+1) 0).toNat_lt (b.getD (4 * t+2) 0).toNat_lt (b.getD (4 * t+3) 0).toNat_lt
theorem zmI {a:Nat} (ha:a < M32):(2 ^ 32 - 1) ^^^ a=notN a:=by
  apply Nat.eq_of_testBit_eq
  intro i
  rw [Nat.testBit_xor,notN,Nat.testBit_two_pow_sub_succ (show a < 2 ^ 32 from ha),Nat.testBit_two_pow_sub_one]
  by_cases hi:i < 32
  · simp [hi]
  · rw [zh0 ha (by omega)]
    simp [hi]
theorem znK {e:Int} (he:U32 e):bits .xor .u32 (if IntKind.u32.signed=true then -1 else IntKind.u32.max) e=notI e:=by
  obtain ⟨n,rfl,hn⟩:=zcE he
  rw [zib hn,← zmI hn]
  exact zct (a:=2 ^ 32 - 1) (by decide) hn
theorem zqg {ra rb rc rd re rf rg rh kt wt x6 x11 x25:Int} (h6:x6=rotI re 6) (h11:x11=rotI re 11) (h25:x25=rotI re 25) (ue:U32 re) (uf:U32 rf) (ug:U32 rg) :
    IntKind.u32.wrap (IntKind.u32.wrap (IntKind.u32.wrap (IntKind.u32.wrap (rh+bits .xor .u32 (bits .xor .u32 x6 x11) x25)+bits .xor .u32 (bits .and .u32 re rf) (bits .and .u32 (notI re) rg))+kt)+wt)=xW ⟨ra,rb,rc,rd,re,rf,rg,rh⟩ kt wt:=by
  subst h6 h11 h25
  have h:=ch_eq ue uf ug
  simp only [xorI,andI] at h
  rw [h]
  simp only [IntKind.wrap_u32',xW,ltS1,w32,xorI]
theorem zqh {ra rb rc rd re rf rg rh x2 x13 x22:Int} (h2:x2=rotI ra 2) (h13:x13=rotI ra 13) (h22:x22=rotI ra 22) (ua:U32 ra) (ub:U32 rb) (uc:U32 rc) :
    IntKind.u32.wrap (bits .xor .u32 (bits .xor .u32 x2 x13) x22+bits .xor .u32 (bits .xor .u32 (bits .and .u32 ra rb) (bits .and .u32 ra rc)) (bits .and .u32 rb rc))=yW ⟨ra,rb,rc,rd,re,rf,rg,rh⟩:=by
  subst h2 h13 h22
  have h:=zpV ua ub uc
  simp only [xorI,andI] at h
  rw [h]
  simp only [IntKind.wrap_u32',yW,ltS0,w32,xorI]
def sums (s r:W8):List Value:=[.int .u32 (IntKind.u32.wrap (s.a+r.a)),.int .u32 (IntKind.u32.wrap (s.b+r.b)),.int .u32 (IntKind.u32.wrap (s.c+r.c)),.int .u32 (IntKind.u32.wrap (s.d+r.d)),.int .u32 (IntKind.u32.wrap (s.e+r.e)),.int .u32 (IntKind.u32.wrap (s.f+r.f)),.int .u32 (IntKind.u32.wrap (s.g+r.g)),.int .u32 (IntKind.u32.wrap (s.h+r.h))]
theorem zpg (s r:W8):sums s r=(addW r s).cells.toList:=by
  simp only [sums,addW,W8.cells,IntKind.wrap_u32',w32,Int.add_comm]
theorem zmS (w:World) (a b c d e f g h:Value) (t:TypeId):Rd (w.alloc (.cells #[a,b,c,d,e,f,g,h] t)) (.slice (some ⟨w.heap.size,0,none⟩) 8 8) [a,b,c,d,e,f,g,h]:=by
  refine ⟨_,8,rfl,fun _=>⟨w.heap.size,0,rfl,fun j x hx=>?_⟩⟩
  rw [Nat.zero_add,cell_of_row _ _ j _ _ _ (zab w _)]
  simpa using hx
end Go.Proofs.YtnboipdpccnedaaGreatDoor
