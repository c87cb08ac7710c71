/- A store's objects: names, puts, deletes, gets: walked. · A store's puts, deletes and gets: walked. · A disk's files' names: walked. -/
import Derived.Test.YtnboipdpccnedaaGreatDoorQ09
set_option linter.unusedVariables false
set_option maxRecDepth 100000
set_option maxHeartbeats 16000000
namespace Go.Proofs.YtnboipdpccnedaaGreatDoor
open Go.RowKit Go.Maps
def okObj (n:Byt):Prop:=okName n∧n.length≤20∧126 ∉ n
theorem okObj.tilde {n:Byt} (h:okObj n):okName (tilde n):=by
  obtain ⟨⟨h1,h2,h3⟩,h4,h5⟩:=h
  refine ⟨by simp [Go.Proofs.YtnboipdpccnedaaGreatDoor.tilde],by simp [Go.Proofs.YtnboipdpccnedaaGreatDoor.tilde];omega,?_⟩
  intro c hc
  simp only [Go.Proofs.YtnboipdpccnedaaGreatDoor.tilde,List.mem_cons] at hc
  rcases hc with rfl | hc
  · decide
  · exact h3 c hc
theorem zfC:∀ (l:List UInt8) (c:UInt8),c ∉ l→Lib.indexByte l c = -1:=by
  intro l c h
  have h2:=Lib.contains_iff_indexByte l c
  have h3:l.contains c=false:=by simpa using h
  rw [h3] at h2
  have h4:¬ 0≤Lib.indexByte l c:=by
    intro h5
    rw [decide_eq_true h5] at h2
    cases h2
  have:=Lib.indexByte_ge l c
  omega
theorem zfD:∀ (l:List UInt8) (c:UInt8),c ∈ l→0≤Lib.indexByte l c:=by
  intro l c h
  have h2:=Lib.contains_iff_indexByte l c
  have h3:l.contains c=true:=by simpa using h
  rw [h3] at h2
  exact of_decide_eq_true h2.symm
theorem zfg (n:Byt) (w:World) (h:okName n) :
    Calls Tryz.prog 31 #[sv n] w fun e w'=>e = .returned (.bool (decide (n.length≤20∧126 ∉ n)))∧Keep Non w w':=by
  have NM:=zz0 (zbg n w h)
  have hs:(⟨n.toArray⟩:ByteArray).size=n.length:=by show n.toArray.size=_;simp
  have hct:=fun w=>Tryz.strings_Contains_one ⟨n.toArray⟩ 126 w
  unfold sv at NM ⊢
  by_cases h1:n.length≤20
  · by_cases h2:126 ∈ n
    · have e:decide (n.length≤20∧126 ∉ n)=false:=decide_eq_false (fun k=>k.2 h2)
      have e2:decide (0≤Lib.indexByte (⟨n.toArray⟩:ByteArray).data.toList 126)=true:=decide_eq_true (zfD _ _ (by simpa using h2))
      simp only [e2] at hct
      have CT:=zz0 hct
      rw [e]
      clear e e2 hct
      go_enter Tryz.func31,Tryz.ntmps31
      go_wp2_with (first
        | (go_at_call 77;refine NM.out.mono ?_;rintro e w1 ⟨rfl,k1⟩;have K1:=zz0 k1;clear k1)
        | (go_at_call 78;refine (CT.out _).mono ?_;rintro e w2 ⟨rfl,e2⟩;subst e2))
      go_ret
      exact ⟨rfl,K1.out⟩
    · have e:decide (n.length≤20∧126 ∉ n)=true:=decide_eq_true ⟨h1,h2⟩
      have e2:decide (0≤Lib.indexByte (⟨n.toArray⟩:ByteArray).data.toList 126)=false:=decide_eq_false (by rw [zfC _ _ (by simpa using h2)];omega)
      simp only [e2] at hct
      have CT:=zz0 hct
      rw [e]
      clear e e2 hct
      go_enter Tryz.func31,Tryz.ntmps31
      go_wp2_with (first
        | (go_at_call 77;refine NM.out.mono ?_;rintro e w1 ⟨rfl,k1⟩;have K1:=zz0 k1;clear k1)
        | (go_at_call 78;refine (CT.out _).mono ?_;rintro e w2 ⟨rfl,e2⟩;subst e2))
      go_ret
      exact ⟨rfl,K1.out⟩
  · have e:decide (n.length≤20∧126 ∉ n)=false:=decide_eq_false (fun k=>h1 k.1)
    rw [e]
    clear e hct
    go_enter Tryz.func31,Tryz.ntmps31
    go_wp2_with fail
    go_ret
    exact ⟨rfl,Keep.refl _ _⟩
theorem zdz (q:Nat) (n:Byt) (w:World) (h:okObj n) :
    Calls Tryz.prog 34 #[.pointer (some ⟨q,0,none⟩),sv n] w fun e w'=>e = .returned .nilIface∧Keep Non w w':=by
  have NM:=zfg n w h.1
  rw [decide_eq_true h.2] at NM
  have NM2:=zz0 NM
  clear NM
  unfold sv at NM2 ⊢
  go_enter Tryz.func34,Tryz.ntmps34
  go_wp2_with (go_at_call 31;refine NM2.out.mono ?_;rintro e w1 ⟨rfl,k1⟩;have K1:=zz0 k1;clear k1)
  go_ret
  exact ⟨rfl,K1.out⟩
def StB (p:Nat):Obj:=.cells #[.pointer (some ⟨p,0,none⟩)] 80 (0,0)
theorem st_0 {w:World} {q p:Nat} (e:w.heap[q]? = some (StB p)):w.cell? ⟨q,0,none⟩=some (.pointer (some ⟨p,0,none⟩)):=by simp [World.cell?,e,StB]
structure StoreAt (F:Nat→Prop) (w:World) (q p:Nat) (X:Dk):Prop where
  blk:w.heap[q]? = some (StB p)
  inF:F q
  dk:∃ G,DiskAt G w p X∧∀ g,G g→F g∧g≠q
def StoreTo (F:Nat→Prop) (w:World) (q p:Nat) (X:Dk) (w':World):Prop:=Keep F w w'∧∃ F',Sub F' F w∧StoreAt F' w' q p X
theorem zef {w:World} {q:Nat} {o:Obj} (h:w.heap[q]? = some o):q < w.heap.size:=by
  rcases Nat.lt_or_ge q w.heap.size with h2 | h2
  · exact h2
  · rw [Array.getElem?_eq_none h2] at h;cases h
theorem StoreAt.keep {F S:Nat→Prop} {w w':World} {q p:Nat} {X:Dk} (d:StoreAt F w q p X) (k:Keep S w w') (hn:∀ g,F g→¬ S g):StoreAt F w' q p X:=by
  obtain ⟨b,i,G,dg,hg⟩:=d
  exact ⟨k.at b (hn _ i),i,G,dg.keep k (fun g e=>hn g (hg g e).1),hg⟩
theorem StoreTo.of {F G:Nat→Prop} {w w':World} {q p:Nat} {X:Dk} (d:DiskTo G w p X w') (b:w.heap[q]? = some (StB p)) (i:F q) (hg:∀ g,G g→F g∧g≠q):StoreTo F w q p X w':=by
  obtain ⟨k,G',s,dg⟩:=d
  have hlt:=zef b
  refine ⟨k.mono (fun i _ e=>(hg i e).1),fun g=>g=q∨G' g,?_,k.at b (fun e=>(hg q e).2 rfl),.inl rfl,G',dg,?_⟩
  · rintro g (rfl | e)
    · exact .inl i
    · rcases s g e with e | e
      · exact .inl (hg g e).1
      · exact .inr e
  · intro g e
    refine ⟨.inr e,?_⟩
    rcases s g e with e | e
    · exact (hg g e).2
    · omega
theorem StoreTo.refl {F:Nat→Prop} {w w':World} {q p:Nat} {X:Dk} (d:StoreAt F w q p X) (k:Keep Non w w'):StoreTo F w q p X w' :=
  ⟨k.mono (fun _ _ e=>e.elim),F,Sub.refl _ _,d.keep k (fun _ _ e=>e)⟩
theorem StoreTo.trans {F F':Nat→Prop} {w w' w'':World} {q p:Nat} {X:Dk} (s:Sub F' F w) (k:Keep F w w') (d:StoreTo F' w' q p X w''):StoreTo F w q p X w'':=by
  obtain ⟨k2,F'',s2,d2⟩:=d
  exact ⟨za9 k s k2,F'',s.trans s2 k.size,d2⟩
structure Dk.lim (X:Dk) (a k f:Nat):Prop where
  files:size X.shown≤a
  pend:X.pend.length≤k
  used:fused X.shown≤f
  fuse:X.fuse≤1000000000
  map:IsMap X.shown
theorem Dk.lim.mild {X:Dk} {a k f:Nat} (h:X.lim a k f) (ha:a≤511) (hk:k≤1000) (hf:f≤500000000):X.mild :=
  ⟨by have:=h.files;omega,by have:=h.pend;omega,by have:=h.used;omega,h.fuse⟩
theorem Dk.lim.mono {X:Dk} {a k f a' k' f':Nat} (h:X.lim a k f) (ha:a≤a') (hk:k≤k') (hf:f≤f'):X.lim a' k' f' :=
  ⟨by have:=h.files;omega,by have:=h.pend;omega,by have:=h.used;omega,h.fuse,h.map⟩
theorem zjz (X:Dk):X.works.2.fuse≤X.fuse:=by
  unfold Dk.works
  split
  · exact Int.le_refl _
  · split
    · exact Int.le_refl _
    · show (if 0 < X.fuse then X.fuse - 1 else X.fuse)≤X.fuse
      split <;> omega
theorem Dk.lim.works {X:Dk} {a k f:Nat} (h:X.lim a k f):X.works.2.lim a k f:=by
  obtain ⟨r1,r2,r3,r4⟩:=zav X
  exact ⟨by rw [r2];exact h.files,by rw [r3];exact h.pend,by rw [r2];exact h.used,by have:=zjz X;have:=h.fuse;omega,by rw [r2];exact h.map⟩
theorem Dk.lim.write {X:Dk} {a k f:Nat} (h:X.lim a k f) (n b:Byt):(X.write n b).2.lim (a+1) (k+1) (f+b.length):=by
  have hw:=h.works
  unfold Dk.write
  split
  · exact hw.mono (by omega) (by omega) (by omega)
  · split
    · exact hw.mono (by omega) (by omega) (by omega)
    · split
      · exact hw.mono (by omega) (by omega) (by omega)
      · refine ⟨?_,?_,?_,hw.fuse,zcM hw.map⟩
        · exact Nat.le_trans (zeD hw.map) (by have:=hw.files;omega)
        · show (X.works.2.pend ++ [_]).length≤_
          have:=hw.pend
          simp;omega
        · exact Nat.le_trans (zdk hw.map) (by have:=hw.used;omega)
theorem Dk.lim.sync {X:Dk} {a k f:Nat} (h:X.lim a k f):X.sync.2.lim a k f:=by
  have hw:=h.works
  unfold Dk.sync
  split
  · exact hw
  · exact ⟨hw.files,by simp,hw.used,hw.fuse,hw.map⟩
theorem Dk.lim.rename {X:Dk} {a k f:Nat} (h:X.lim a k f) (n m:Byt):(X.rename n m).2.lim (a+1) (k+1) (f+(fget X.shown n).length):=by
  have hw:=h.works
  obtain ⟨r1,r2,r3,r4⟩:=zav X
  unfold Dk.rename
  split
  · exact hw.mono (by omega) (by omega) (by omega)
  · split
    · rename_i h1 h2
      have e:Chg.on (.rename n m) X.works.2.shown=fput (fdel X.works.2.shown n) m (fget X.works.2.shown n):=by show (if _ then _ else _)=_;rw [if_pos h2]
      refine ⟨?_,?_,?_,hw.fuse,?_⟩
      · show size (Chg.on (.rename n m) X.works.2.shown)≤_
        rw [e]
        have:=zeD (n:=m) (b:=fget X.works.2.shown n) (zbo (n:=n) hw.map)
        have:=zbT (n:=n) hw.map
        have:=hw.files
        omega
      · show (X.works.2.pend ++ [_]).length≤_
        have:=hw.pend
        simp;omega
      · show fused (Chg.on (.rename n m) X.works.2.shown)≤_
        rw [e]
        have:=zdk (n:=m) (b:=fget X.works.2.shown n) (zbo (n:=n) hw.map)
        have:=zb2 (n:=n) hw.map
        have:=hw.used
        rw [r2] at *
        omega
      · show IsMap (Chg.on (.rename n m) X.works.2.shown)
        rw [e]
        exact zcM (zbo hw.map)
    · exact hw.mono (by omega) (by omega) (by omega)
theorem Dk.lim.remove {X:Dk} {a k f:Nat} (h:X.lim a k f) (n:Byt):(X.remove n).2.lim a (k+1) f:=by
  have hw:=h.works
  unfold Dk.remove
  split
  · exact hw.mono (by omega) (by omega) (by omega)
  · split
    · rename_i h1 h2
      have e:Chg.on (.remove n) X.works.2.shown=fdel X.works.2.shown n:=by show (if _ then _ else _)=_;rw [if_pos h2]
      refine ⟨?_,?_,?_,hw.fuse,?_⟩
      · show size (Chg.on (.remove n) X.works.2.shown)≤_
        rw [e]
        exact Nat.le_trans (zbT hw.map) hw.files
      · show (X.works.2.pend ++ [_]).length≤_
        have:=hw.pend
        simp;omega
      · show fused (Chg.on (.remove n) X.works.2.shown)≤_
        rw [e]
        exact Nat.le_trans (zb2 hw.map) hw.used
      · show IsMap (Chg.on (.remove n) X.works.2.shown)
        rw [e]
        exact zbo hw.map
    · exact hw.mono (by omega) (by omega) (by omega)
theorem zjC (n:Byt) (hn:n.length≤1000) (w:World):(Op.stringOp .add ⟨#[126]⟩ ⟨n.toArray⟩).run Tryz.prog w = .ok (.string ⟨(tilde n).toArray⟩) w :=
  run_string_add_lists (P:=Tryz.prog) w [126] n (by decide) (by omega)
theorem Dk.lim.sput {X:Dk} {a k f:Nat} (h:X.lim a k f) (n b:Byt):(X.sput n b).2.lim (a+2) (k+2) (f+2 * b.length):=by
  have h1:=h.write (tilde n) b
  have h2:=h1.sync
  unfold Dk.sput
  split
  · exact h1.mono (by omega) (by omega) (by omega)
  · rename_i hc1
    split
    · exact h2.mono (by omega) (by omega) (by omega)
    · have hg:(fget (X.write (tilde n) b).2.sync.2.shown (tilde n)).length≤b.length:=by
        have e1:(X.write (tilde n) b).2.sync.2.shown=(X.write (tilde n) b).2.shown:=by
          obtain ⟨r1,r2,r3,r4⟩:=zav (X.write (tilde n) b).2
          unfold Dk.sync
          split
          · exact r2
          · exact r2
        rw [e1]
        have e2:(X.write (tilde n) b).2.shown=fput X.works.2.shown (tilde n) b:=by
          unfold Dk.write at hc1 ⊢
          split at hc1
          · exact absurd ‹_› hc1
          · split at hc1
            · exact absurd (show (3:Int)≠0 by decide) hc1
            · split at hc1
              · exact absurd (show (5:Int)≠0 by decide) hc1
              · rename_i g1 g2 g3
                rw [if_neg g1,if_neg g2,if_neg g3]
                rfl
        rw [e2,zbI h.works.map]
        exact Nat.le_refl _
      have h3:=h2.rename (tilde n) n
      split
      · exact h3.mono (by omega) (by omega) (by omega)
      · exact h3.sync.mono (by omega) (by omega) (by omega)
theorem zcX (F:Nat→Prop) (q p:Nat) (v:Value) (n b:Byt) (X:Dk) (a k f:Nat) (w:World) (d:StoreAt F w q p X) (hl:X.lim a k f) (ha:a≤505) (hk:k≤990) (hf:f≤400000000)
    (hn:okObj n) (hv:Bs w v b) (hb:b.length≤65536) (hnp:∀ g,v.ownBlock=some g→¬ F g) :
    Calls Tryz.prog 14 #[.pointer (some ⟨q,0,none⟩),sv n,v] w fun e w'=>e = .returned (errv (X.sput n b).1)∧StoreTo F w q p (X.sput n b).2 w':=by
  have hadd:=zjC n (by have:=hn.2.1;omega)
  have SA:=zz0 (zdz q n w hn)
  obtain ⟨blk,inF,G,dg,hg⟩:=d
  have c0:=st_0 blk
  have B:=zz0 blk
  have IF:=zz0 inF
  have HG:=zz0 hg
  have H1:=zz0 (hl.write (tilde n) b)
  have F1:=zz0 H1.out.fuse
  have H2:=zz0 H1.out.sync
  have M1:=zz0 (hl.mild (by omega) (by omega) (by omega))
  have M3:=zz0 (H2.out.mild (by omega) (by omega) (by omega))
  have H3:=zz0 (H2.out.rename (tilde n) n)
  have hq:q < w.heap.size:=zef blk
  -- the worlds,one after another
  have W1:Hid (∀ w1,Keep Non w w1→Calls Tryz.prog 39 #[.pointer (some ⟨p,0,none⟩),.string ⟨(tilde n).toArray⟩,v] w1 fun e w2=>e = .returned (errv (X.write (tilde n) b).1)∧DiskTo G w p (X.write (tilde n) b).2 w2):=zz0 (by
    intro w1 k1
    refine (zmd G p v (tilde n) b X w1 (dg.keep k1 (fun _ _ e=>e)) M1.out hn.tilde (hv.keep k1 (fun _ _ e=>e)) hb (fun g e e2=>hnp g e (hg g e2).1)).mono ?_
    rintro e w2 ⟨r,kk,G',s,dd⟩
    exact ⟨r,za9 (k1.mono (fun _ _ e=>e.elim)) (Sub.refl _ _) kk,G',fun g e=>by rcases s g e with e | e;exact .inl e;exact .inr (by have:=k1.size;omega),dd⟩)
  have W2:Hid (∀ w1 (Y:Dk),Y.fuse≤1000000000→DiskTo G w p Y w1→Calls Tryz.prog 40 #[.pointer (some ⟨p,0,none⟩)] w1 fun e w2=>e = .returned (errv Y.sync.1)∧DiskTo G w p Y.sync.2 w2):=zz0 (by
    rintro w1 Y hy ⟨k1,G',s,dd⟩
    refine (zg3 G' p Y w1 dd hy).mono ?_
    rintro e w2 ⟨r,kk,G2,s2,dd2⟩
    exact ⟨r,za9 k1 s kk,G2,s.trans s2 k1.size,dd2⟩)
  have W3:Hid (∀ w1 (Y:Dk),Y.mild→DiskTo G w p Y w1→Calls Tryz.prog 41 #[.pointer (some ⟨p,0,none⟩),.string ⟨(tilde n).toArray⟩,.string ⟨n.toArray⟩] w1 fun e w2=>e = .returned (errv (Y.rename (tilde n) n).1)∧DiskTo G w p (Y.rename (tilde n) n).2 w2):=zz0 (by
    rintro w1 Y hy ⟨k1,G',s,dd⟩
    refine (zj0 G' p (tilde n) n Y w1 dd hy hn.tilde hn.1).mono ?_
    rintro e w2 ⟨r,kk,G2,s2,dd2⟩
    exact ⟨r,za9 k1 s kk,G2,s.trans s2 k1.size,dd2⟩)
  have CC:Hid (∀ w1 (Y:Dk),DiskTo G w p Y w1→w1.cell? ⟨q,0,none⟩=some (.pointer (some ⟨p,0,none⟩))):=zz0 (fun w1 Y dd=>st_0 (dd.1.at B.out (fun e=>(HG.out q e).2 rfl)))
  have FIN:Hid (∀ w1 (Y:Dk),DiskTo G w p Y w1→StoreTo F w q p Y w1):=zz0 (fun w1 Y dd=>StoreTo.of dd B.out IF.out HG.out)
  clear blk inF dg hg hl hn hv hnp H1 M1
  unfold Dk.sput
  generalize hX1:X.write (tilde n) b=X1 at W1 M3 H3 H2 F1 ⊢
  by_cases h1:X1.1=0
  · skip
    generalize hX2:X1.2.sync=X2 at M3 H3 H2 ⊢
    by_cases h2:X2.1=0
    · generalize hX3:X2.2.rename (tilde n) n=X3 at H3 ⊢
      have F3:Hid (X3.2.fuse≤1000000000):=zz0 H3.out.fuse
      by_cases h3:X3.1=0
      · rw [if_neg (fun e=>e h1),if_neg (fun e=>e h2),if_neg (fun e=>e h3)]
        unfold sv at SA ⊢
        go_enter Tryz.func14,Tryz.ntmps14
        go_wp2_with (first
          | (go_at_call 34;refine SA.out.mono ?_;rintro e w1 ⟨rfl,k1⟩;have c1:=st_0 (k1.at B.out (fun e=>e));have K1:=zz0 k1;clear k1)
          | (go_at_call 39;refine (W1.out _ K1.out).mono ?_;rw [zbe h1];rintro e w2 ⟨rfl,d2⟩;have c2:=CC.out _ _ d2;have D2:=zz0 d2;clear d2)
          | (go_at_call 41;refine (W3.out _ _ M3.out D3.out).mono ?_;rw [hX3,zbe h3];rintro e w4 ⟨rfl,d4⟩;have c4:=CC.out _ _ d4;have D4:=zz0 d4;clear d4)
          | (go_at_call 40;with_reducible refine (W2.out _ _ F3.out D4.out).mono ?_;rintro e w5 ⟨rfl,d5⟩;have D5:=zz0 d5;clear d5)
          | (go_at_call 40;with_reducible refine (W2.out _ _ F1.out D2.out).mono ?_;rw [hX2,zbe h2];rintro e w3 ⟨rfl,d3⟩;have c3:=CC.out _ _ d3;have D3:=zz0 d3;clear d3))
        go_ret
        exact ⟨rfl,FIN.out _ _ D5.out⟩
      · rw [if_neg (fun e=>e h1),if_neg (fun e=>e h2),if_pos h3]
        rw [zaU h3]
        unfold sv at SA ⊢
        go_enter Tryz.func14,Tryz.ntmps14
        go_wp2_with (first
          | (go_at_call 34;refine SA.out.mono ?_;rintro e w1 ⟨rfl,k1⟩;have c1:=st_0 (k1.at B.out (fun e=>e));have K1:=zz0 k1;clear k1)
          | (go_at_call 39;refine (W1.out _ K1.out).mono ?_;rw [zbe h1];rintro e w2 ⟨rfl,d2⟩;have c2:=CC.out _ _ d2;have D2:=zz0 d2;clear d2)
          | (go_at_call 41;refine (W3.out _ _ M3.out D3.out).mono ?_;rw [hX3,zaU h3];rintro e w4 ⟨rfl,d4⟩;have D4:=zz0 d4;clear d4)
          | (go_at_call 40;with_reducible refine (W2.out _ _ F1.out D2.out).mono ?_;rw [hX2,zbe h2];rintro e w3 ⟨rfl,d3⟩;have c3:=CC.out _ _ d3;have D3:=zz0 d3;clear d3))
        go_ret
        exact ⟨rfl,FIN.out _ _ D4.out⟩
    · rw [if_neg (fun e=>e h1),if_pos h2]
      rw [zaU h2]
      unfold sv at SA ⊢
      go_enter Tryz.func14,Tryz.ntmps14
      go_wp2_with (first
        | (go_at_call 34;refine SA.out.mono ?_;rintro e w1 ⟨rfl,k1⟩;have c1:=st_0 (k1.at B.out (fun e=>e));have K1:=zz0 k1;clear k1)
        | (go_at_call 39;refine (W1.out _ K1.out).mono ?_;rw [zbe h1];rintro e w2 ⟨rfl,d2⟩;have c2:=CC.out _ _ d2;have D2:=zz0 d2;clear d2)
        | (go_at_call 40;with_reducible refine (W2.out _ _ F1.out D2.out).mono ?_;rw [hX2,zaU h2];rintro e w3 ⟨rfl,d3⟩;have D3:=zz0 d3;clear d3))
      go_ret
      exact ⟨rfl,FIN.out _ _ D3.out⟩
  · rw [if_pos h1]
    rw [zaU h1]
    unfold sv at SA ⊢
    go_enter Tryz.func14,Tryz.ntmps14
    go_wp2_with (first
      | (go_at_call 34;refine SA.out.mono ?_;rintro e w1 ⟨rfl,k1⟩;have c1:=st_0 (k1.at B.out (fun e=>e));have K1:=zz0 k1;clear k1)
      | (go_at_call 39;refine (W1.out _ K1.out).mono ?_;rw [zaU h1];rintro e w2 ⟨rfl,d2⟩;have D2:=zz0 d2;clear d2))
    go_ret
    exact ⟨rfl,FIN.out _ _ D2.out⟩
theorem StoreAt.disk {F:Nat→Prop} {w:World} {q p:Nat} {X:Dk} (d:StoreAt F w q p X):∃ G,DiskAt G w p X∧∀ g,G g→F g∧g≠q:=d.dk
theorem zcW (F:Nat→Prop) (q p:Nat) (n:Byt) (X:Dk) (w:World) (d:StoreAt F w q p X) (hn:okObj n) (hd:X.down=false) (hh:fhas X.shown n=false) :
    Calls Tryz.prog 11 #[.pointer (some ⟨q,0,none⟩),sv n] w fun e w'=>e = .returned (.tuple #[.slice none 0 0,.iface 55 (.int .i64 4)])∧Keep Non w w':=by
  have SA:=zz0 (zdz q n w hn)
  obtain ⟨blk,inF,G,dg,hg⟩:=d
  have B:=zz0 blk
  have R:=zz0 (fun w1 (k:Keep Non w w1)=>ziH G p X n w1 (dg.keep k (fun _ _ e=>e)) hd (by have:=hn.2.1;omega) hh)
  clear blk dg hg hd
  unfold sv at SA R ⊢
  go_enter Tryz.func11,Tryz.ntmps11
  go_wp2_with (first
    | (go_at_call 34;refine SA.out.mono ?_;rintro e w1 ⟨rfl,k1⟩;have c1:=st_0 (k1.at B.out (fun e=>e));have K1:=zz0 k1;clear k1)
    | (go_at_call 35;refine (R.out _ K1.out).mono ?_;rintro e w2 ⟨rfl,e2⟩;subst e2))
  go_ret2
  exact ⟨rfl,K1.out⟩
theorem zcD (F:Nat→Prop) (q p:Nat) (n:Byt) (X:Dk) (w:World) (d:StoreAt F w q p X) (hn:okObj n) (hd:X.down=false) (hh:fhas X.shown n=true) (hl:(fget X.shown n).length≤1000000000) :
    Calls Tryz.prog 11 #[.pointer (some ⟨q,0,none⟩),sv n] w fun e w'=>∃ v',e = .returned (.tuple #[v',.nilIface])∧Keep Non w w'∧w'.ownsRow w.heap.size 5 1 v' (fget X.shown n).length ((fget X.shown n).map bv):=by
  have SA:=zz0 (zdz q n w hn)
  obtain ⟨blk,inF,G,dg,hg⟩:=d
  have B:=zz0 blk
  have R:=zz0 (fun w1 (k:Keep Non w w1)=>zma G p X n w1 (dg.keep k (fun _ _ e=>e)) hd (by have:=hn.2.1;omega) hh hl)
  clear blk dg hg hd hl
  generalize fget X.shown n=D at R ⊢
  unfold sv at SA R ⊢
  go_enter Tryz.func11,Tryz.ntmps11
  go_wp2_with (first
    | (go_at_call 34;refine SA.out.mono ?_;rintro e w1 ⟨rfl,k1⟩;have c1:=st_0 (k1.at B.out (fun e=>e));have K1:=zz0 k1;clear k1)
    | (go_at_call 35;refine (R.out _ K1.out).mono ?_;rintro e w2 ⟨v2,rfl,k2,o2⟩;have K2:=zz0 k2;have O2:=zz0 o2;clear k2 o2))
  go_ret2
  exact ⟨_,rfl,K1.out.trans1 K2.out,zad O2.out K1.out.size⟩
theorem zm7 (F:Nat→Prop) (q p:Nat) (n:Byt) (X:Dk) (w:World) (d:StoreAt F w q p X) (hm:X.mild) (hmap:IsMap X.shown) (hn:okObj n) :
    Calls Tryz.prog 139 #[.pointer (some ⟨q,0,none⟩),sv n] w fun e w'=>e = .returned (errv (X.sdel n).1)∧StoreTo F w q p (X.sdel n).2 w':=by
  have SA:=zz0 (zdz q n w hn)
  have F1:=zz0 ((Dk.lim.mk (Nat.le_refl _) (Nat.le_refl _) (Nat.le_refl _) hm.2.2.2 hmap).remove n).fuse
  obtain ⟨blk,inF,G,dg,hg⟩:=d
  have B:=zz0 blk
  have IF:=zz0 inF
  have HG:=zz0 hg
  have W1:Hid (∀ w1,Keep Non w w1→Calls Tryz.prog 92 #[.pointer (some ⟨p,0,none⟩),.string ⟨n.toArray⟩] w1 fun e w2=>e = .returned (errv (X.remove n).1)∧DiskTo G w p (X.remove n).2 w2):=zz0 (by
    intro w1 k1
    refine (zgc G p n X w1 (dg.keep k1 (fun _ _ e=>e)) hm hn.1).mono ?_
    rintro e w2 ⟨r,kk,G',s,dd⟩
    exact ⟨r,za9 (k1.mono (fun _ _ e=>e.elim)) (Sub.refl _ _) kk,G',fun g e=>by rcases s g e with e | e;exact .inl e;exact .inr (by have:=k1.size;omega),dd⟩)
  have W2:Hid (∀ w1 (Y:Dk),Y.fuse≤1000000000→DiskTo G w p Y w1→Calls Tryz.prog 40 #[.pointer (some ⟨p,0,none⟩)] w1 fun e w2=>e = .returned (errv Y.sync.1)∧DiskTo G w p Y.sync.2 w2):=zz0 (by
    rintro w1 Y hy ⟨k1,G',s,dd⟩
    refine (zg3 G' p Y w1 dd hy).mono ?_
    rintro e w2 ⟨r,kk,G2,s2,dd2⟩
    exact ⟨r,za9 k1 s kk,G2,s.trans s2 k1.size,dd2⟩)
  have CC:Hid (∀ w1 (Y:Dk),DiskTo G w p Y w1→w1.cell? ⟨q,0,none⟩=some (.pointer (some ⟨p,0,none⟩))):=zz0 (fun w1 Y dd=>st_0 (dd.1.at B.out (fun e=>(HG.out q e).2 rfl)))
  have FIN:Hid (∀ w1 (Y:Dk),DiskTo G w p Y w1→StoreTo F w q p Y w1):=zz0 (fun w1 Y dd=>StoreTo.of dd B.out IF.out HG.out)
  clear blk inF dg hg hm hn
  unfold Dk.sdel
  generalize hX1:X.remove n=X1 at W1 F1 ⊢
  unfold sv at SA ⊢
  by_cases h1:X1.1=0
  · rw [if_neg (fun e=>e h1)]
    go_enter Tryz.func139,Tryz.ntmps139
    go_wp2_with (first
      | (go_at_call 34;refine SA.out.mono ?_;rintro e w1 ⟨rfl,k1⟩;have c1:=st_0 (k1.at B.out (fun e=>e));have K1:=zz0 k1;clear k1)
      | (go_at_call 92;refine (W1.out _ K1.out).mono ?_;rw [zbe h1];rintro e w2 ⟨rfl,d2⟩;have c2:=CC.out _ _ d2;have D2:=zz0 d2;clear d2)
      | (go_at_call 40;refine (W2.out _ _ F1.out D2.out).mono ?_;rintro e w3 ⟨rfl,d3⟩;have D3:=zz0 d3;clear d3))
    go_ret
    exact ⟨rfl,FIN.out _ _ D3.out⟩
  · rw [if_pos h1]
    rw [zaU h1]
    go_enter Tryz.func139,Tryz.ntmps139
    go_wp2_with (first
      | (go_at_call 34;refine SA.out.mono ?_;rintro e w1 ⟨rfl,k1⟩;have c1:=st_0 (k1.at B.out (fun e=>e));have K1:=zz0 k1;clear k1)
      | (go_at_call 92;refine (W1.out _ K1.out).mono ?_;rw [zaU h1];rintro e w2 ⟨rfl,d2⟩;have D2:=zz0 d2;clear d2))
    go_ret
    exact ⟨rfl,FIN.out _ _ D2.out⟩
theorem ziR (mb:Option Nat) (W:World):Calls Tryz.prog 76 #[.map mb] W fun e w'=>e = .returned (.func (.func 142) #[] #[.pointer (some ⟨W.heap.size,0,none⟩)])∧w'=W.alloc (.cells #[.map mb] 132) :=
  (callsIn_wide (n:=5)).1 (Tryz.maps_Keys_76 mb W)
theorem zgH {T:Nat→Prop} {w:World} {b:Nat} {D:Fl} (h:FlAt w T b D) (hs:size D≤1000) :
    Calls Tryz.prog 75 #[.func (.func 142) #[] #[.pointer (some ⟨w.heap.size,0,none⟩)]] (w.alloc (.cells #[.map (some b)] 132)) fun e w'=>∃ v,∃ ns:List Byt,e = .returned v∧ns.Perm (Go.strKeys D)∧Keep Non w w'∧w'.ownsRow w.heap.size 9 1 v ns.length (ns.map sv):=by
  refine ((callsIn_wide (n:=5)).1 (Tryz.slices_Sorted_keys_75_76 b (size D) D _ w h (by simp only [maxLen];omega) (by omega))).mono ?_
  rintro e w' ⟨v,ss,rfl,hp,ho,hn,hb⟩
  refine ⟨v,ss.mergeSort (fun x y=>decide (x≤y)),rfl,(List.mergeSort_perm ss _).trans hp,((Keep.refl Non w).alloc _).trans1 (Keep.ofBelow hb),?_⟩
  rw [List.length_mergeSort]
  exact zad ho (by simp)
theorem zfs (F:Nat→Prop) (p:Nat) (X:Dk) (w:World) (d:DiskAt F w p X) (hd:X.down=false) (hs:size X.shown≤1000) :
    Calls Tryz.prog 30 #[.pointer (some ⟨p,0,none⟩)] w fun e w'=>∃ v,∃ ns:List Byt,e = .returned (.tuple #[v,.nilIface])∧ns.Perm (Go.strKeys X.shown)∧Keep Non w w'∧w'.ownsRow w.heap.size 9 1 v ns.length (ns.map sv):=by
  have L:=zz0 (zfF d hd)
  obtain ⟨T,s,h,pv,d⟩:=d
  have c2:=dk_2 d.blk
  have S:=zz0 (zgH d.shown hs)
  clear d
  go_enter Tryz.func30,Tryz.ntmps30
  go_wp2_with (first
    | (go_at_call 74;refine L.out.mono ?_;rintro e w1 ⟨rfl,e1⟩;subst e1)
    | (go_at_call 76;refine (ziR _ _).mono ?_;rintro e w1 ⟨rfl,e1⟩;subst e1)
    | (go_at_call 75;refine S.out.mono ?_;rintro e w2 ⟨v,ns,rfl,p2,k2,o2⟩;have P2:=zz0 p2;have K2:=zz0 k2;have O2:=zz0 o2;clear p2 k2 o2))
  go_ret2
  exact ⟨v,ns,rfl,P2.out,K2.out,O2.out⟩
end Go.Proofs.YtnboipdpccnedaaGreatDoor
