/- Arguments opened: a slice of structs of integers. · Arguments opened: a slice of bytes; a slice of slices of bytes. · Lists of numbers, and three numb -/
import Derived.ProofKit
import Derived.OpenShut
import Derived.ChangeOld
import Derived.Deep.Slices
import Derived.Deep.Fields
import Derived.ChangeSame
import Derived.WideKeyPair
import Derived.Deep.SlicePairs
import Derived.Test.YtnboipdpccnedaaGreatDoorQ45
set_option linter.unusedVariables false
set_option maxRecDepth 100000
set_option maxHeartbeats 16000000
namespace Go.Proofs.YtnboipdpccnedaaGreatDoor
open Go.ChangeShapes Go.WideShapes Go.Deep Go.RowKit
section
variable {H : Type} {enc : TypeId × Value → H} {P : Program} {w : World} {base : Nat} {spare : Nat → Bool} {held : Bool}
theorem zeL {t e:TypeId} {fuel:Nat} {a:Option Addr} {len cap:Nat} {x:DataW H × List MemPlace}
    (ht:P.underlying t=some (.slice e)) (he:P.underlying e=some (.int .i64)) (hC:P.cellsOf e=1)
    (h:DataW.trod enc P w base spare held fuel t [.slice a len cap]=some x) :
    len=0∨∃ b off,a=some ⟨b,off,none⟩∧b < w.heap.size∧len≤cap∧cap≤maxLen ∧
      ∀ i,i < len→∃ n,w.cell? ⟨b,off+i,none⟩=some (.int .i64 n)∧(Lit.int .i64 n).wf=true:=by
  rcases open_slice1 ht hC h with ⟨h0,_⟩ | ⟨a',len',cap',m,n,V,D,Pl,hcs,hb,hl,hm,hmm,hx,hi⟩
  · simp at h0
    exact .inl h0.2.1
  simp at hcs
  obtain ⟨rfl,rfl,rfl⟩:=hcs
  by_cases hz:len=0
  · exact .inl hz
  refine .inr ?_
  have hml:len≤m:=by rw [hmm];split <;> omega
  have key:∀ i,i < len→∃ n,w.cell? (a'.add i)=some (.int .i64 n)∧(Lit.int .i64 n).wf=true:=by
    intro i hil
    obtain ⟨h1,h2⟩:=hi i (by omega)
    obtain ⟨q,hq,_,hwf⟩:=DataW.trod_int he h2
    simp at hq
    exact ⟨q,by rw [h1,hq],hwf⟩
  obtain ⟨b,off,spot⟩:=a'
  obtain ⟨n0,hc0,_⟩:=key 0 (by omega)
  have hspot:spot=none:=by
    have:=World.cell?_spot hc0
    simpa [Addr.add] using this
  subst hspot
  refine ⟨b,off,rfl,?_,hl,hm,fun i hil=>?_⟩
  · have:=World.block_lt_of_cell? _ _ hc0
    simpa [Addr.add] using this
  · obtain ⟨n,h1,h2⟩:=key i hil
    refine ⟨n,?_,h2⟩
    have e:(⟨b,off,none⟩:Addr).add i=⟨b,off+i,none⟩:=by
      unfold Addr.add
      split
      · next h0 =>
        have h1:off=off+i:=by omega
        rw [← h1]
      · rfl
    rw [← e]
    exact h1
end
theorem bv_of {n:Int} (h:(Lit.int .u8 n).wf=true):bv (UInt8.ofNat n.toNat) = .int .u8 n:=by
  have hb:=bounds_u8 h
  unfold bv
  congr 1
  simp
  omega
section
variable {H : Type} {enc : TypeId × Value → H} {P : Program} {w : World} {base : Nat} {spare : Nat → Bool} {held : Bool}
theorem ziZ {t e:TypeId} {fuel:Nat} {v:Value} {x:DataW H × List MemPlace}
    (ht:P.underlying t=some (.slice e)) (he:P.underlying e=some (.int .u8)) (hC:P.cellsOf e=1)
    (h:DataW.trod enc P w base spare held fuel t [v]=some x) :
    ∃ (a:Option Addr) (l:List UInt8) (cap:Nat),v = .slice a l.length cap∧Bs w v l∧l.length≤maxLen:=by
  rcases open_slice1 ht hC h with ⟨h0,_⟩ | ⟨a',len',cap',m,n,V,D,Pl,hcs,hb,hl,hm,hmm,hx,hi⟩
  · simp at h0
    subst h0
    exact ⟨none,[],0,rfl,Rd.nil w,by simp⟩
  simp at hcs
  subst hcs
  have hml:len'≤m:=by rw [hmm];split <;> omega
  have key:∀ i,i < len'→∃ n,w.cell? (a'.add i)=some (.int .u8 n)∧(Lit.int .u8 n).wf=true:=by
    intro i hil
    obtain ⟨h1,h2⟩:=hi i (by omega)
    obtain ⟨q,hq,_,hwf⟩:=DataW.trod_int he h2
    simp at hq
    exact ⟨q,by rw [h1,hq],hwf⟩
  obtain ⟨N,hN⟩:=choose_lt (α:=Int) (p:=fun i n=>w.cell? (a'.add i)=some (.int .u8 n)∧(Lit.int .u8 n).wf=true) key
  let l:List UInt8:=(List.range len').map fun i=>UInt8.ofNat (N i).toNat
  have hlen:l.length=len':=by simp [l]
  refine ⟨some a',l,cap',by rw [hlen],⟨some a',cap',by simp [hlen],fun hne=>?_⟩,by omega⟩
  have hpos:0 < len':=by
    rcases Nat.eq_zero_or_pos len' with h0 | h0
    · exfalso
      apply hne
      simp [l,h0]
    · exact h0
  obtain ⟨b,off,spot⟩:=a'
  have hspot:spot=none:=by
    have:=World.cell?_spot (hN 0 hpos).1
    simpa [Addr.add] using this
  subst hspot
  refine ⟨b,off,rfl,fun j u hu=>?_⟩
  have hj:j < len':=by
    have:=(List.getElem?_eq_some_iff.1 hu).1
    simpa [l] using this
  obtain ⟨h1,h2⟩:=hN j hj
  rw [zau] at h1
  rw [h1,← bv_of h2]
  simp [l,hj] at hu
  rw [hu]
end
end Go.Proofs.YtnboipdpccnedaaGreatDoor
namespace Go.Proofs.YtnboipdpccnedaaGreatDoor
open Go.ChangeShapes Go.WideShapes Go.Deep Go.RowKit Go.WideMaps
theorem zkN {H:Type} {enc:TypeId × Value→H} {W:World} {fuel:Nat} {a:Option Addr} {len cap:Nat} {x:DataW H × List MemPlace}
    (h:DataW.trod enc Tryz.prog W 0 (fun _=>true) true fuel 23 [.slice a len cap]=some x) :
    ∃ es:List Int,Rd W (.slice a len cap) (es.map (fun x=>Value.int .i64 x)):=by
  rcases zeL Tryz.underlying23 Tryz.underlying3 (by kernel_rfl) h with h0 | ⟨b,off,rfl,_,_,_,hc⟩
  · subst h0
    exact ⟨[],a,cap,rfl,fun e=>absurd rfl e⟩
  · refine ⟨(List.range len).map (fun i=>match W.cell? ⟨b,off+i,none⟩ with | some (.int _ n)=>n | _=>0),some ⟨b,off,none⟩,cap,by simp,fun _=>⟨b,off,rfl,fun j u hu=>?_⟩⟩
    rw [List.getElem?_map,List.getElem?_map] at hu
    by_cases hj:j < len
    · obtain ⟨n,hn,_⟩:=hc j hj
      rw [List.getElem?_range hj] at hu
      simp only [Option.map_some,hn] at hu
      injection hu with hu
      rw [hn,hu]
    · rw [List.getElem?_eq_none (by simp;omega)] at hu
      cases hu
theorem key3:ArrKey Tryz.prog 24 3 3:=⟨Tryz.underlying24,by kernel_rfl,by kernel_rfl,by kernel_rfl⟩
theorem zhe {H:Type} {enc:TypeId × Value→H} {W:World} {base:Nat} {sp:Nat→Bool} {held:Bool} {r:Reach} {b0:Nat} {v:Value} {d:DataW H} {ps:List MemPlace} (hval:Value.okWide Tryz.prog W r b0 24 v) (hd:DataW.Trod enc Tryz.prog W base sp held 24 v d ps) :
    ∃ a b c:Int,v = .agg #[.int .i64 a,.int .i64 b,.int .i64 c]:=by
  simp only [Value.okWide,key3.hu] at hval
  obtain ⟨cs,rfl,h2,_⟩:=hval
  rw [key3.size] at h2
  obtain ⟨l⟩:=cs
  match l,h2 with
  | [c0,c1,c2],_ =>
    obtain ⟨fuel,hf⟩:=hd
    cases fuel with
    | zero=>simp [DataW.trod] at hf
    | succ n =>
      rw [DataW.trod_step] at hf
      unfold DataW.trodStep at hf
      simp only [key3.hu,Value.cells] at hf
      rw [if_pos (by rw [key3.size];rfl)] at hf
      simp only [Option.map_eq_some_iff] at hf
      obtain ⟨xs,hx,e1⟩:=hf
      rw [show List.range 3 = [0,1,2] from rfl,List.mapM_cons,List.mapM_cons,List.mapM_cons,List.mapM_nil] at hx
      simp only [bind,Option.bind_eq_some_iff,pure,Option.some.injEq,key3.one] at hx
      obtain ⟨y0,h0,_,⟨y1,h1,_,⟨y2,h2',_,rfl,rfl⟩,rfl⟩,rfl⟩:=hx
      obtain ⟨a,ea,rfl,wa⟩:=DataW.trod_int Tryz.underlying3 h0
      obtain ⟨b,eb,rfl,wb⟩:=DataW.trod_int Tryz.underlying3 h1
      obtain ⟨c,ec,rfl,wc⟩:=DataW.trod_int Tryz.underlying3 h2'
      simp at ea eb ec
      subst ea;subst eb;subst ec
      exact ⟨a,b,c,rfl⟩
end Go.Proofs.YtnboipdpccnedaaGreatDoor
namespace Go.Proofs.YtnboipdpccnedaaGreatDoor
open Go.ChangeShapes Go.WideShapes Go.Deep Go.RowKit
section
variable {H : Type} {enc : TypeId × Value → H} {w : World} {base : Nat} {spare : Nat → Bool} {held : Bool}
theorem cellStruct:∃ f0 f1:Field,Tryz.prog.underlying 60=some (.struct #[f0,f1])∧f0.offset=0∧f1.offset=1∧f0.type=3∧f1.type=44:=⟨_,_,Tryz.underlying60,rfl,rfl,rfl,rfl⟩
theorem zi0 {fuel:Nat} {v:Value} {x:DataW H × List MemPlace} (h:DataW.trod enc Tryz.prog w base spare held fuel 22 [v]=some x):∃ cl,CellsIn w v cl∧cl.length≤maxLen:=by
  obtain ⟨f0,f1,he,o0,o1,t0,t1⟩:=cellStruct
  rcases open_slice_pairs Tryz.underlying22 he (by kernel_rfl) o0 o1 (by rw [t0];kernel_rfl) (by rw [t1];kernel_rfl) h with ⟨h0,_⟩ | ⟨a,len,cap,m,n,V0,V1,D0,D1,P0,P1,hcs,hb,hl,hm,hmm,hx,hi⟩
  · simp at h0
    subst h0
    exact ⟨[],⟨none,0,rfl,fun j hj=>by simp at hj⟩,by simp⟩
  · simp at hcs
    subst hcs
    have hml:len≤m:=by rw [hmm];split <;> omega
    have each:∀ j,j < len→∃ c:Cl,∃ sa sc,V0 j = .int .i64 c.1∧V1 j = .slice sa c.2.length sc∧Bs w (.slice sa c.2.length sc) c.2:=fun j hj=>by
      obtain ⟨h1,h2,h3,h4⟩:=hi j (by omega)
      rw [t0] at h3
      rw [t1] at h4
      obtain ⟨a1,l,c1,e1,b1,_⟩:=ziZ Tryz.underlying44 Tryz.underlying5 (by kernel_rfl) h4
      obtain ⟨k,e0,_,_⟩:=DataW.trod_int Tryz.underlying3 h3
      simp at e0
      rw [e1] at b1
      exact ⟨(k,l),a1,c1,e0,e1,b1⟩
    by_cases hz:len=0
    · subst hz
      exact ⟨[],⟨some a,cap,rfl,fun j hj=>by simp at hj⟩,by simp⟩
    obtain ⟨b,off,spot⟩:=a
    have hc0:=(hi 0 (by omega)).1
    have hspot:spot=none:=by
      have:=World.cell?_spot hc0
      simpa [Addr.add] using this
    subst hspot
    have hbl:b < w.heap.size:=by
      have:=World.block_lt_of_cell? _ _ hc0
      simpa [Addr.add] using this
    obtain ⟨f,hf⟩:∃ f:∀ j,j < len→Cl,∀ j hj,∃ sa sc,V0 j = .int .i64 (f j hj).1∧V1 j = .slice sa (f j hj).2.length sc∧Bs w (.slice sa (f j hj).2.length sc) (f j hj).2:=⟨fun j hj=>Classical.choose (each j hj),fun j hj=>Classical.choose_spec (each j hj)⟩
    have hlen:(List.ofFn (fun j:Fin len=>f j.1 j.2)).length=len:=List.length_ofFn
    refine ⟨List.ofFn (fun j:Fin len=>f j.1 j.2),⟨some ⟨b,off,none⟩,cap,by rw [hlen],fun j hj=>?_⟩,by rw [hlen];omega⟩
    have hj':j < len:=by rw [hlen] at hj;exact hj
    obtain ⟨sa,sc,e0,e1,b1⟩:=hf j hj'
    obtain ⟨h1,h2,_,_⟩:=hi j (by omega)
    rw [List.getElem_ofFn]
    refine ⟨b,off,sa,sc,rfl,hbl,by rw [zau] at h1;rw [← e0];exact h1,by rw [zau] at h2;rw [← e1,Nat.add_assoc];exact h2,b1,?_⟩
    by_cases hne:(f j hj').2 = []
    · exact .inl hne
    · refine .inr fun k e=>?_
      obtain ⟨a2,c2,e2,hx2⟩:=b1
      obtain ⟨g,off2,rfl,hc2⟩:=hx2 (by simpa using hne)
      injection e2 with e2 _ _
      subst e2
      have hk:g=k:=by simpa [Value.ownBlock] using e
      subst hk
      cases hd:(f j hj').2 with
      | nil=>exact absurd hd hne
      | cons u r =>
        have h1:=hc2 0 (bv u) (by simp [hd])
        have:=World.block_lt_of_cell? _ _ h1
        simpa [Addr.add] using this
end
end Go.Proofs.YtnboipdpccnedaaGreatDoor
