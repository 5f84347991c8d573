/- A part of the proof. -/
import Derived.Test.YthflocfaafoohaaGreatP4
import Derived.ProofKit
import Derived.OpenShut
import Derived.Deep.Slices
set_option linter.all false
set_option exponentiation.threshold 5000
set_option maxRecDepth 10000
section
namespace Go.Av
open Go.Proofs Go.Lam
theorem Vl {es:List RE} (h:Qz es) (a b:Nat) (q:Int):Qz (es++[Ct a b q]):=h.snoc (Fs _)
theorem Qb5 (a b:Nat) (q:Int):(Ct a b q).av=.agg [.int .i64 (a:Nat),.int .i64 (b:Nat),.bool (Bb (Iw q)).n1,Al (Bb (Iw q)).l1,.bool (Bb (Iw q)).n2,Al (Bb (Iw q)).l2]:=rfl
theorem Qcn (o:List RE):∀x∈Dk o,x.cells.length=6∧∀y∈x.cells,y.one=true:=fun x hx=>by
 obtain⟨e,_,rfl⟩:=List.mem_map.1 hx;exact⟨e.av_len,List.all_eq_true.1 e.av_ones⟩
theorem Uh (j:Int) (l:List RE) (a b:Int) (hl:Qz l∧l.length<2^63):Aj Tryz.prog 8 [.int .i64 j,A3 l,.int .i64 a,.int .i64 b] Aa.emp fun v m=>v=.bool true∧m=Aa.emp:=by
 obtain⟨rj,_,hj⟩:=Sm j;obtain⟨ra,_,ha⟩:=Sm a;obtain⟨rb,_,hb⟩:=Sm b;have hwk:=Wh;have hw2:=Fi 2 (by omega) (by omega);have hw3:=Fi 3 (by omega) (by omega);unfold RR.av at hw2 hw3;obtain⟨N,hN⟩:∃N,2+rj % 6=N:=⟨_,rfl⟩;have hN2:2≤N:=by omega
 have hN7:N≤7:=by omega
 have hap:=Z1 N l hN2 (by omega) hl.2;have wN:IntKind.i64.wrap (2+(rj:Int).tmod 6)=(N:Nat):=by
  rw[show(rj:Int).tmod 6=((rj % 6:Nat):Int) from rfl,←hN];exact wi (a:=2+rj % 6) (by omega)
 have wN1:=Au (N+1) (by omega);have hN0:¬N=0:=by omega
 have hxN:ra % N<N:=Nat.mod_lt _ (by omega);have hyN:rb % N<N:=Nat.mod_lt _ (by omega);generalize hx:ra % N=x at *;generalize hy:rb % N=y at *;refine Ad Tryz.func8 rfl rfl 142 rfl (Nat.le_of_ble_eq_true rfl) ?_;unfold A3 at *;(repeat refine AW.seq_k fun K hK=>?_);refine AW.rg ?_;simp[Ak];try (refine hK _ rfl ?_;clear hK K)
 (repeat refine AW.seq_k fun K hK=>?_);refine AW.rg ?_;simp[hj,wN];try (refine hK _ rfl ?_;clear hK K)
 (repeat refine AW.seq_k fun K hK=>?_);refine AW.rg ?_;simp;try (refine hK _ rfl ?_;clear hK K)
 refine Ac.pure hap ?_;rintro _ ⟨es,rfl,hck,hlb,h24⟩;unfold A3;simp;try (refine hK _ rfl ?_;clear hK K)
 (repeat refine AW.seq_k fun K hK=>?_);refine AW.rg ?_;simp[ha,hN0,hx];try (refine hK _ rfl ?_;clear hK K)
 (repeat refine AW.seq_k fun K hK=>?_);refine AW.rg ?_;simp[hb,hN0,hy];try (refine hK _ rfl ?_;clear hK K)
 have hf0:=Ge (N:Nat) es hlb;have hc1:=Qu (x:=x) hck hN7 h24 hxN;have hf1:=Ge ((N+1:Nat):Int) (es++[Ct x N 2]) (Vl hlb _ _ _);have hi1:=Qcd hck hN7 h24 hxN;rw[Rt hck (by omega)]at hf0;rw[Rt hc1 (by omega),hi1]at hf1;have hil:=Q6 hck;unfold Cb A3 at hf0 hf1;rw[hck]at hf0;rw[hc1]at hf1;obtain⟨B,hB⟩:∃B:Int,B=2*(N:Int)-3-((Cr (N:Nat) es).length:Int):=⟨_,rfl⟩;have e1:2*((N+1:Nat):Int)-3-((Cr (N:Nat) es++[es.length]).length:Int)=B+1:=by rw[hB,List.length_append];simp[-Int.natCast_mul,-Int.natCast_add];omega
 have wB:IntKind.i64.wrap (B+1)=B+1:=Mt (by omega);rw[e1]at hf1;rw[←hB]at hf0;(repeat refine AW.seq_k fun K hK=>?_);refine AW.rg ?_;simp;try (refine hK _ rfl ?_;clear hK K)
 refine Ac.val hf0 ?_;simp;try (refine hK _ rfl ?_;clear hK K)
 (repeat refine AW.seq_k fun K hK=>?_);refine AW.rgR [51] ?_;simp;try (refine hK _ rfl ?_;clear hK K)
 refine Ah.intro fun b1 _=>⟨Qcn es,by omega,by unfold maxLen;omega,Ah.intro fun b2 _=>?_⟩;refine Ac.val hw2 ?_;simp;refine⟨by omega,by unfold maxLen;omega,Ah.intro fun b3 _=>?_⟩;refine hK _ rfl ?_;clear hK K;have hsn1:Dk es++[(Ct x N 2).av]=Dk (es++[Ct x N 2]):=by simp[Dk]
 rw[←Qb5];refine AW.toEmp [(9,.int .i64 (N:Nat)),(11,.int .i64 (x:Nat)),(12,.int .i64 (y:Nat)),(13,.int .i64 B),(14,.int .i64 0),(15,.sl 6 (Dk (es++[Ct x N 2])))] (by simp;rw[←hsn1];exact Dy (Aa.set_same _ _ _) rfl (by simp)) ?_;(repeat refine AW.seq_k fun K hK=>?_);refine AW.rg ?_;simp[-Int.natCast_add,wN1];try (refine hK _ rfl ?_;clear hK K)
 refine Ac.val hf1 ?_;simp[-Int.natCast_add];try (refine hK _ rfl ?_;clear hK K)
 (repeat refine AW.seq_k fun K hK=>?_);refine AW.rg ?_;simp[-Int.natCast_add];try (refine hK _ rfl ?_;clear hK K)
 refine Ac.val hwk ?_;simp[-Int.natCast_add,wB];try (refine hK _ rfl ?_;clear hK K)
 refine AW.no ?_ rfl;refine AW.skip ?_;try simp[-Int.natCast_add]
 try (refine hK _ rfl ?_;clear hK K)
 by_cases hxy:x=y
 ·(repeat refine AW.seq_k fun K hK=>?_);refine AW.rg ?_;simp[-Int.natCast_add,hxy];try (refine hK _ rfl ?_;clear hK K)
  refine AW.yes ?_ (by simp[-Int.natCast_add,hxy]);(repeat refine AW.seq_k fun K hK=>?_);refine AW.rg ?_;simp[-Int.natCast_add];try (refine hK _ rfl ?_;clear hK K)
  exact AW.ret (Af rfl _ (.same _) ⟨rfl,rfl⟩)
 have hxy':¬(x:Int)=(y:Int):=by omega
 (repeat refine AW.seq_k fun K hK=>?_);refine AW.rg ?_;simp[-Int.natCast_add,hxy,hxy'];try (refine hK _ rfl ?_;clear hK K)
 refine AW.no ?_ (by simp[-Int.natCast_add,hxy]);refine AW.skip ?_;try simp[-Int.natCast_add]
 try (refine hK _ rfl ?_;clear hK K)
 have hc2:=Qcq hck hN7 h24 hxN hyN hxy;have hl2:Qz (es++[Ct x N 2]++[Ct N y 3]):=Vl (Vl hlb _ _ _) _ _ _;have hf2:=Ge ((N+1:Nat):Int) _ hl2;have hd2:=Kf ((N+1:Nat):Int) _ hl2;have hi2:=Qka hck hN7 h24 hxN hyN hxy;rw[Rt hc2 (by omega),hi2]at hf2;rw[hi2]at hd2;unfold Cb A3 at hf2 hd2;rw[hc2]at hf2 hd2;have e2:2*((N+1:Nat):Int)-3-((Cr (N:Nat) es++[es.length]++[es.length+1]).length:Int)=B:=by rw[hB,List.length_append,List.length_append];simp[-Int.natCast_mul,-Int.natCast_add];omega
 rw[e2]at hf2;obtain⟨k,hk⟩:∃k,(Cr (N:Nat) es).length=k:=⟨_,rfl⟩;have i1:(Cr (N:Nat) es++[es.length]++[es.length+1]).length=k+2:=by simp[hk]
 have i2:∀h,(Cr (N:Nat) es++[es.length]++[es.length+1])[k+1]'h=es.length+1:=fun h=>by
  rw[List.getElem_append_right (by simp[hk])];simp
 have i3:∀h,(Cr (N:Nat) es++[es.length]++[es.length+1])[k]'h=es.length:=fun h=>by
  rw[List.getElem_append_left (by simp[hk]),List.getElem_append_right (by simp[hk])];simp
 generalize Cr (N:Nat) es++[es.length]++[es.length+1]=I2 at *;obtain⟨m,hm⟩:∃m,es.length=m:=⟨_,rfl⟩;rw[hm]at i2 i3;have elen:(Dk (es++[Ct x N 2]++[Ct N y 3])).length=m+2:=by simp[hm]
 have hk40:k≤40:=by rw[←hk];exact hil
 have hsn2:Dk (es++[Ct x N 2])++[(Ct N y 3).av]=Dk (es++[Ct x N 2]++[Ct N y 3]):=by simp[Dk]
 have l1:(es++[Ct x N 2]).length=m+1:=by simp[hm]
 generalize es++[Ct x N 2]++[Ct N y 3]=E2 at *;generalize es++[Ct x N 2]=E1 at *;have s1:IntKind.i64.wrap (((k+2:Nat):Int)-1)=((k+1:Nat):Int):=by rw[show((k+2:Nat):Int)-1=((k+1:Nat):Int) by omega];exact wi (by omega)
 have s2:IntKind.i64.wrap (((k+2:Nat):Int)-2)=((k:Nat):Int):=by rw[show((k+2:Nat):Int)-2=((k:Nat):Int) by omega];exact wi (by omega)
 have s3:IntKind.i64.wrap (((m+2:Nat):Int)-1)=((m+1:Nat):Int):=by rw[show((m+2:Nat):Int)-1=((m+1:Nat):Int) by omega];exact wi (by omega)
 have s4:IntKind.i64.wrap (((m+2:Nat):Int)-2)=((m:Nat):Int):=by rw[show((m+2:Nat):Int)-2=((m:Nat):Int) by omega];exact wi (by omega)
 (repeat refine AW.seq_k fun K hK=>?_);refine AW.rgR [86] ?_;simp[-Int.natCast_add];try (refine hK _ rfl ?_;clear hK K)
 refine Ah.intro fun b1 _=>⟨Qcn _,by omega,by unfold maxLen;omega,Ah.intro fun b2 _=>?_⟩;refine Ac.val hw3 ?_;simp[-Int.natCast_add];refine⟨by omega,by unfold maxLen;omega,Ah.intro fun b3 _=>?_⟩;refine hK _ rfl ?_;clear hK K;rw[←Qb5];refine AW.toEmp [(9,.int .i64 (N:Nat)),(13,.int .i64 B),(18,.sl 6 (Dk E2))] (by simp[-Int.natCast_add];rw[←hsn2];exact Dy (Aa.set_same _ _ _) rfl (by simp)) ?_;(repeat refine AW.seq_k fun K hK=>?_);refine AW.rg ?_;simp[-Int.natCast_add,wN1];try (refine hK _ rfl ?_;clear hK K)
 refine Ac.val hf2 ?_;simp[-Int.natCast_add];try (refine hK _ rfl ?_;clear hK K)
 (repeat refine AW.seq_k fun K hK=>?_);refine AW.rg ?_;simp[-Int.natCast_add,wN1];try (refine hK _ rfl ?_;clear hK K)
 refine Ac.val hd2 ?_;simp[-Int.natCast_add];try (refine hK _ rfl ?_;clear hK K)
 (repeat refine AW.seq_k fun K hK=>?_);refine AW.rg ?_;simp[-Int.natCast_add,i1,i2,i3,elen,s1,s2,s3,s4];try (refine hK _ rfl ?_;clear hK K)
 exact AW.ret (Af rfl _ (.same _) ⟨rfl,rfl⟩)
end Go.Av
end
section
namespace Go.Av
open Go.Proofs
theorem Qww:Tryz.prog.underlying 40=some (.slice 124):=by kernel_rfl
theorem Qvq:Tryz.prog.underlying 124=some (.int .u32):=by kernel_rfl
theorem ty4:Tryz.prog.underlying 4=some .bool:=by kernel_rfl
theorem Qwx:Tryz.prog.cellsOf 124=1:=by kernel_rfl
theorem Qt3:Tryz.prog.cellsOf 44=4:=by kernel_rfl
theorem Qqr:Tryz.prog.cellsOf 42=2:=by kernel_rfl
theorem Qw5:Tryz.prog.cellsOf 40=1:=by kernel_rfl
theorem cl4:Tryz.prog.cellsOf 4=1:=by kernel_rfl
noncomputable def Qdt (t:TypeId):Array Field:=match Tryz.prog.underlying t with
 |some (.struct fs)=>fs
 |_=>#[]
noncomputable def Vf (t:TypeId) (i:Nat):Option (TypeId × Nat):=((Qdt t)[i]?).map fun f=>(f.type,f.offset)
theorem Qw1:Tryz.prog.underlying 44=some (.struct (Qdt 44)):=by kernel_rfl
theorem Qw0:Tryz.prog.underlying 42=some (.struct (Qdt 42)):=by kernel_rfl
theorem Quh:Vf 44 0=some (42,0):=by kernel_rfl
theorem Qui:Vf 44 1=some (42,2):=by kernel_rfl
theorem Qua:Vf 42 0=some (4,0):=by kernel_rfl
theorem Qve:Vf 42 1=some (40,1):=by kernel_rfl
theorem Jm {t:TypeId} {i:Nat} {p:TypeId × Nat} (h:Vf t i=some p):∃f:Field,(Qdt t)[i]?=some f∧f.type=p.1∧f.offset=p.2:=by
 unfold Vf at h;cases hf:(Qdt t)[i]? with
 |none=>rw[hf]at h;cases h
 |some f=>rw[hf]at h;cases h;exact⟨f,rfl,rfl,rfl⟩
variable {H:Type} {enc:TypeId × Value→H} {W:World}
theorem Qb6 {a:Addr} {v:Value} (h:W.cell? a=some v):a.block<W.heap.size:=by
 unfold World.cell? at h;rcases Nat.lt_or_ge a.block W.heap.size with hl | hl
 ·exact hl
 ·rw[Array.getElem?_eq_none hl]at h;simp at h
theorem Pi {l:List Nat} {i j:Nat} {u:AV} (h:Ay (Bg l) i j=some u):j=0∧i<l.length∧u=.int .u32 (nth l i:Nat):=by
 unfold Ay Bg at h;rw[List.getElem?_map]at h;cases hi:l[i]? with
 |none=>rw[hi]at h;cases h
 |some y =>
  rw[hi]at h;have hl:=(List.getElem?_eq_some_iff.1 hi).1;cases j with
  |zero =>
   cases h;refine⟨rfl,hl,?_⟩;unfold nth;rw[List.getD_eq_getElem?_getD,hi];rfl
  |succ k=>cases h
theorem Qhw {fuel:Nat} {c:Value} {x:DataW H × List MemPlace} (h:DataW.trod enc Tryz.prog W 0 (fun _=>true) true fuel 40 [c]=some x):∃l,Lb l∧VR W (fun _=>False) (Al l) c:=by
 rcases Go.ChangeShapes.open_ints Qww Qvq Qwx h with⟨hc,_⟩|⟨a,len,cap,zs,hc,_,hl,hm,hz,_,hcell,hwf⟩
 ·simp only[List.cons.injEq,and_true]at hc;subst hc;exact⟨[],fun y hy=>(by cases hy),.sl0 1 none 0⟩
 ·simp only[List.cons.injEq,and_true]at hc;subst hc;simp at hz;rcases Nat.eq_zero_or_pos len with h0 | h0
  ·subst h0;exact⟨[],fun y hy=>(by cases hy),.sl0 1 (some a) cap⟩
  ·have h00:=hcell 0 (by omega);have hsp:=World.cell?_spot h00;have hbl:=Qb6 h00;obtain⟨b,o,sp⟩:=a;simp[Addr.add]at hsp hbl;subst hsp;have hzl:∀i,i<len→0≤zs.getD i 0∧zs.getD i 0≤4294967295:=fun i hi=>by
    have:zs.getD i 0=zs[i]'(by omega):=by rw[List.getD_eq_getElem?_getD,List.getElem?_eq_getElem (by omega)];rfl
    rw[this];exact Go.bounds_u32 (hwf _ (List.getElem_mem _))
   refine⟨(List.range len).map fun i=>(zs.getD i 0).toNat,fun y hy=>?_,?_⟩
   ·obtain⟨i,hi,rfl⟩:=List.mem_map.1 hy;have:=hzl i (List.mem_range.1 hi);omega
   ·have e:((List.range len).map fun i=>(zs.getD i 0).toNat).length=len:=by simp
    have:=VR.sl (w:=W) (F:=fun _=>False) 1 (Bg ((List.range len).map fun i=>(zs.getD i 0).toNat)) b o cap (fun i _=>.int .u32 (zs.getD i 0)) (by simp) hbl (by simp;exact hl) (by
     intro v hv;obtain⟨y,_,rfl⟩:=List.mem_map.1 hv;rfl) ?_ ?_
    ·rw[Kc,e]at this;exact this
    ·intro i j u hu;obtain⟨rfl,q1,rfl⟩:=Pi hu;rw[e]at q1;have:=hzl i q1;have hn:nth ((List.range len).map fun i=>(zs.getD i 0).toNat) i=(zs.getD i 0).toNat:=by
      unfold nth;rw[List.getD_eq_getElem?_getD,List.getElem?_map,List.getElem?_range q1];rfl
     rw[hn,Int.toNat_of_nonneg this.1];exact .int _ _
    ·intro i j u hu;obtain⟨rfl,q1,rfl⟩:=Pi hu;rw[e]at q1;have:=hcell i (by omega);rcases Nat.eq_zero_or_pos i with h' | h'
     ·subst h';simpa[Addr.add]using this
     ·have h'':i≠0:=by omega
      simpa[Addr.add,h'']using this
set_option maxRecDepth 100000
theorem Wx {fuel:Nat} {cs:List Value} {x:DataW H × List MemPlace} (h:DataW.trod enc Tryz.prog W 0 (fun _=>true) true fuel 42 cs=some x):∃n l c,cs=[.bool n,c]∧Lb l∧VR W (fun _=>False) (Al l) c:=by
 obtain⟨xs,n,_,rfl,hl,hlen,hf⟩:=DataW.trod_struct Qw0 h;rw[Qqr]at hl;obtain⟨c0,c1,rfl⟩:∃c0 c1,cs=[c0,c1]:=by
  match cs,hl with
  |[c0,c1],_=>exact⟨c0,c1,rfl⟩
 obtain⟨f0,g1,g2,g3⟩:=Jm Qua;obtain⟨f1,k1,k2,k3⟩:=Jm Qve;have h0:=hf 0 f0 g1;have h1:=hf 1 f1 k1;simp only at g2 g3 k2 k3;rw[g2,g3,cl4]at h0;rw[k2,k3,Qw5]at h1;have hs:xs.length=2:=by rw[hlen];kernel_rfl
 obtain⟨b,hb,_⟩:=DataW.trod_bool ty4 (h0.trans (List.getElem?_eq_getElem (by omega)));obtain⟨l,hl1,hl2⟩:=Qhw (h1.trans (List.getElem?_eq_getElem (by omega)));simp at hb;exact⟨b,l,c1,by rw[hb],hl1,hl2⟩
theorem Qf2 {fuel:Nat} {cs:List Value} {x:DataW H × List MemPlace} (h:DataW.trod enc Tryz.prog W 0 (fun _=>true) true fuel 44 cs=some x):∃r:RR,r.Lb∧cs.length=4∧∀(j:Nat) (u:AV),r.av.cells[j]?=some u→∃c,cs[j]?=some c∧VR W (fun _=>False) u c:=by
 obtain⟨xs,n,_,rfl,hl,hlen,hf⟩:=DataW.trod_struct Qw1 h;rw[Qt3]at hl;obtain⟨c0,c1,c2,c3,rfl⟩:∃c0 c1 c2 c3,cs=[c0,c1,c2,c3]:=by
  match cs,hl with
  |[c0,c1,c2,c3],_=>exact⟨c0,c1,c2,c3,rfl⟩
 obtain⟨f0,g1,g2,g3⟩:=Jm Quh;obtain⟨f1,k1,k2,k3⟩:=Jm Qui;have h0:=hf 0 f0 g1;have h1:=hf 1 f1 k1;simp only at g2 g3 k2 k3;rw[g2,g3,Qqr]at h0;rw[k2,k3,Qqr]at h1;have hs:xs.length=2:=by rw[hlen];kernel_rfl
 obtain⟨n1,l1,d1,e1,b1,v1⟩:=Wx (h0.trans (List.getElem?_eq_getElem (by omega)));obtain⟨n2,l2,d2,e2,b2,v2⟩:=Wx (h1.trans (List.getElem?_eq_getElem (by omega)));simp at e1 e2;obtain⟨rfl,rfl⟩:=e1;obtain⟨rfl,rfl⟩:=e2;refine⟨⟨n1,l1,n2,l2⟩,⟨b1,b2⟩,rfl,fun j u hu=>?_⟩
 match j,hu with
 |0,hu=>cases hu;exact⟨_,rfl,.bool _⟩
 |1,hu=>cases hu;exact⟨_,rfl,v1⟩
 |2,hu=>cases hu;exact⟨_,rfl,.bool _⟩
 |3,hu=>cases hu;exact⟨_,rfl,v2⟩
 |k+4,hu=>cases hu
end Go.Av
end
section
namespace Go.Av
open Go.Proofs
variable {H:Type} {enc:TypeId × Value→H} {W:World}
theorem S4 {α:Type} [Inhabited α] {n:Nat} {p:Nat→α→Prop} (h:∀i,i<n→∃a,p i a):∃f:Nat→α,∀i,i<n→p i (f i):=by
 classical
 exact⟨fun i=>if hi:i<n then Classical.choose (h i hi) else default,fun i hi=>by
  simp only[dif_pos hi];exact Classical.choose_spec (h i hi)⟩
theorem Qef (b o i j:Nat):((⟨b,o,none⟩:Addr).add i).add j=⟨b,o+(i+j),none⟩:=by
 by_cases hi:i=0
 ·subst hi;by_cases hj:j=0
  ·subst hj;simp[Addr.add]
  ·simp[Addr.add,hj]
 ·by_cases hj:j=0
  ·subst hj;simp[Addr.add,hi]
  ·simp[Addr.add,hi,hj,Nat.add_assoc]
end Go.Av
end
section
namespace Go.Av
open Go.Proofs
theorem ty22:Tryz.prog.underlying 22=some (.slice 46):=by kernel_rfl
theorem ty3:Tryz.prog.underlying 3=some (.int .i64):=by kernel_rfl
theorem Qw2:Tryz.prog.underlying 46=some (.struct (Qdt 46)):=by kernel_rfl
theorem Qtt:Tryz.prog.cellsOf 46=6:=by kernel_rfl
theorem cl3:Tryz.prog.cellsOf 3=1:=by kernel_rfl
theorem Qvm:Vf 46 0=some (3,0):=by kernel_rfl
theorem Qvo:Vf 46 1=some (3,1):=by kernel_rfl
theorem Qu2:Vf 46 2=some (44,2):=by kernel_rfl
variable {H:Type} {enc:TypeId × Value→H} {W:World}
set_option maxRecDepth 100000
theorem Ou {fuel:Nat} {c:Value} {x:DataW H × List MemPlace} (h:DataW.trod enc Tryz.prog W 0 (fun _=>true) true fuel 3 [c]=some x):∃n:Int,c=.int .i64 n∧-9223372036854775808≤n∧n<9223372036854775808:=by
 obtain⟨n,h1,_,h2⟩:=DataW.trod_int ty3 h;have:=bounds_i64 h2;simp at h1;exact⟨n,h1,this.1,by omega⟩
theorem Qc9 {fuel:Nat} {cs:List Value} {x:DataW H × List MemPlace} (h:DataW.trod enc Tryz.prog W 0 (fun _=>true) true fuel 46 cs=some x):∃e:RE,e.sq.Lb∧cs.length=6∧∀(j:Nat) (u:AV),e.av.cells[j]?=some u→∃c,cs[j]?=some c∧VR W (fun _=>False) u c:=by
 obtain⟨xs,n,_,rfl,hl,hlen,hf⟩:=DataW.trod_struct Qw2 h;rw[Qtt]at hl;obtain⟨c0,c1,c2,c3,c4,c5,rfl⟩:∃c0 c1 c2 c3 c4 c5,cs=[c0,c1,c2,c3,c4,c5]:=by
  match cs,hl with
  |[c0,c1,c2,c3,c4,c5],_=>exact⟨c0,c1,c2,c3,c4,c5,rfl⟩
 obtain⟨f0,g1,g2,g3⟩:=Jm Qvm;obtain⟨f1,k1,k2,k3⟩:=Jm Qvo;obtain⟨f2,l1,l2,l3⟩:=Jm Qu2;have h0:=hf 0 f0 g1;have h1:=hf 1 f1 k1;have h2:=hf 2 f2 l1;simp only at g2 g3 k2 k3 l2 l3;rw[g2,g3,cl3]at h0;rw[k2,k3,cl3]at h1;rw[l2,l3,Qt3]at h2;have hs:xs.length=3:=by rw[hlen];kernel_rfl
 obtain⟨a,e0,_⟩:=Ou (h0.trans (List.getElem?_eq_getElem (by omega)));obtain⟨b,e1,_⟩:=Ou (h1.trans (List.getElem?_eq_getElem (by omega)));obtain⟨r,q1,_,q3⟩:=Qf2 (h2.trans (List.getElem?_eq_getElem (by omega)));subst e0 e1;refine⟨⟨a,b,r⟩,q1,rfl,fun j u hu=>?_⟩
 match j,hu with
 |0,hu=>cases hu;exact⟨_,rfl,.int _ _⟩
 |1,hu=>cases hu;exact⟨_,rfl,.int _ _⟩
 |2,hu=>exact q3 0 u hu
 |3,hu=>exact q3 1 u hu
 |4,hu=>exact q3 2 u hu
 |5,hu=>exact q3 3 u hu
 |k+6,hu=>cases hu
theorem Sb {fuel:Nat} {c:Value} {x:DataW H × List MemPlace} (h:DataW.trod enc Tryz.prog W 0 (fun _=>true) true fuel 22 [c]=some x):∃es:List RE,Qz es∧VR W (fun _=>False) (A3 es) c:=by
 rcases Go.Deep.open_slice ty22 h with⟨hc,_⟩|⟨a,len,cap,m,n,D,Pl,hc,_,hl,hm,hmm,_,hx⟩
 ·simp only[List.cons.injEq,and_true]at hc;subst hc;exact⟨[],fun y hy=>(by cases hy),.sl0 6 none 0⟩
 ·simp only[List.cons.injEq,and_true]at hc;subst hc;simp at hmm;subst hmm;rcases Nat.eq_zero_or_pos len with h0 | h0
  ·subst h0;exact⟨[],fun y hy=>(by cases hy),.sl0 6 (some a) m⟩
  ·rw[Qtt]at hx;obtain⟨C,hC⟩:=S4 (α:=List Value) (p:=fun i cs=>W.cells? 0 (a.add (i*6)) 6=some cs∧DataW.trod enc Tryz.prog W 0 (fun _=>true) true n 46 cs=some (D i,Pl i)) (n:=len) (fun i hi=>hx i (by omega));obtain⟨R,hR⟩:=S4 (α:=RE) (n:=len) (fun i hi=>Qc9 (hC i hi).2);have hcell:∀i,i<len→∀j,j<6→W.cell? ((a.add (i*6)).add j)=(C i)[j]?:=fun i hi=>(World.cells?_some (hC i hi).1).2.2;obtain⟨c00,hc00,_⟩:=(hR 0 h0).2.2 0 (.int .i64 (R 0).a) rfl;have h00:=(hcell 0 h0 0 (by omega)).trans hc00;have hsp:=World.cell?_spot h00
   have hbl:=Qb6 h00;obtain⟨b,o,sp⟩:=a;simp[Addr.add]at hsp hbl;subst hsp;have hcellAt:∀i j u,Ay (Dk ((List.range len).map R)) i j=some u→i<len∧(R i).av.cells[j]?=some u:=by
    intro i j u hu;unfold Ay Dk at hu;rw[List.map_map,List.getElem?_map]at hu;by_cases hi:i<len
    ·rw[List.getElem?_range hi]at hu;exact⟨hi,hu⟩
    ·rw[List.getElem?_eq_none (by simp;omega)]at hu;cases hu
   refine⟨(List.range len).map R,fun y hy=>?_,?_⟩
   ·obtain⟨i,hi,rfl⟩:=List.mem_map.1 hy;exact(hR i (List.mem_range.1 hi)).1
   ·have:=VR.sl (w:=W) (F:=fun _=>False) 6 (Dk ((List.range len).map R)) b o m (fun i j=>((C i)[j]?).getD (.bool false)) (by simp) hbl (by simp;exact hl) (by
     intro v hv;obtain⟨y,_,rfl⟩:=List.mem_map.1 hv;rfl) (fun i j u hu=>by
      obtain⟨hi,hu⟩:=hcellAt i j u hu;obtain⟨c,q1,q2⟩:=(hR i hi).2.2 j u hu;rw[q1];exact q2) (fun i j u hu=>by
      obtain⟨hi,hu⟩:=hcellAt i j u hu;obtain⟨c,q1,q2⟩:=(hR i hi).2.2 j u hu;have hj:j<6:=by
       have:=(List.getElem?_eq_some_iff.1 q1).1;rw[(hR i hi).2.1]at this;exact this
      have:=hcell i hi j hj;rw[Qef,q1]at this;rw[this,q1];rfl)
    rw[R7,List.length_map,List.length_range]at this;exact this
theorem P6 {fuel:Nat} {c:Value} {x:DataW H × List MemPlace} (h:DataW.trod enc Tryz.prog W 0 (fun _=>true) true fuel 22 [c]=some x):∃es:List RE,(Qz es∧es.length<2^63)∧VR W (fun _=>False) (A3 es) c:=by
 obtain⟨r,h1,h2⟩:=Sb h;refine⟨r,⟨h1,?_⟩,h2⟩;have hmax:maxLen<2^63:=by unfold maxLen;omega
 have hlen:∀(A:Option Addr) (len cap:Nat),c=.slice A len cap→len≤maxLen→r.length<2^63:=fun A len cap hc hl=>by
  subst hc;unfold A3 at h2;generalize hr:Dk r=R at h2;have hrl:r.length=R.length:=by rw[←hr,R7]
  rw[hrl];cases h2 with
  |sl0=>simp
  |sl=>omega
 rcases Go.Deep.open_slice ty22 h with⟨hc,_⟩|⟨a,len,cap,m,n,D,Pl,hc,_,hl,hm,_⟩
 ·simp only[List.cons.injEq,and_true]at hc;exact hlen _ _ _ hc (by omega)
 ·simp only[List.cons.injEq,and_true]at hc;exact hlen _ _ _ hc (by omega)
def vrl (W:World):List AV→List Value→Prop
 |[],[]=>True
 |x::xs,c::cs=>VR W (fun _=>False) x c∧vrl W xs cs
 |_,_=>False
theorem Qck:∀{xs:List AV} {cs:List Value},vrl W xs cs→cs.length=xs.length∧∀(j:Nat) u v,xs[j]?=some u→cs[j]?=some v→VR W (fun _=>False) u v
 |[],[],_=>⟨rfl,fun j u v h=>by cases h⟩
 |x::xs,c::cs,h=>by
  obtain⟨h1,h2⟩:=Qck h.2;refine⟨by simp[h1],fun j u v hu hv=>?_⟩
  match j,hu,hv with
  |0,hu,hv=>cases hu;cases hv;exact h.1
  |k+1,hu,hv=>exact h2 k u v hu hv
 |[],_::_,h=>h.elim
 |_::_,[],h=>h.elim
theorem U5 {f:FuncId} {xs:List AV} (hf:Aj Tryz.prog f xs Aa.emp fun v mm=>v=.bool true∧mm=Aa.emp) {cs:List Value} (hx:vrl W xs cs) :
  Calls Tryz.prog f cs.toArray W fun e W'=>e=.returned (.bool true)∧RowKit.Below W.heap.size W W':=by
 have hO:Cm (fun _=>False) Aa.emp=fun _=>False:=by funext b;simp[Cm,Aa.emp]
 obtain⟨h1,h2⟩:=Qck hx;refine(hf.2 W (fun _=>False) cs.toArray (fun b hb=>hb.elim) (fun b x hx=>by cases hx) ?_).mono ?_
 ·rw[hO];exact⟨by simpa using h1,fun j u v hu hv'=>h2 j u v hu (by simpa using hv')⟩
 ·rintro e W' ⟨v,cv,g',rfl,⟨rfl,_⟩,_,hvr,hg,_⟩;cases hvr;exact⟨rfl,⟨hg.os,hg.tape,hg.output,hg.size,fun k hk=>hg.block k hk (by simp[Aa.emp])⟩⟩
end Go.Av
end
