/- A part of the proof. -/
import Derived.Test.YthflocfaafoohaaGreatP4
import Derived.ProofKit
import Derived.OpenShut
import Derived.Deep.Slices
set_option linter.all false
set_option exponentiation.threshold 5000
set_option maxRecDepth 10000
section
namespace Go.Av
open Go.Proofs Go.Lam
def l4:List Nat:=[0,1,1,2,2,3,3,0]
def l6:List Nat:=[0,1,1,2,2,3,3,0,0,2,1,3]
def exP:List Rat:=[0,0,1,0,1,1,0,1]
def exM:List (List Rat):=((Wc 4 (Ae (Qc l4)) exP 4).bind fun M=>(Rz 4 exP).bind fun P=>some (M++P)).getD []
def exZ:List (List Rat) × List Nat:=(F4 exM).getD ([],[])
theorem V8:C8 4 (Qc l4)=true:=by decide +kernel
theorem Qjs:Et 4 (Qc l4)=[0,1,2,3]:=by decide +kernel
theorem Qjd:Sg 4 (Qc l4)=.int .i64 1:=by unfold Sg;rw[if_pos V8,Qjs];rfl
theorem Yc:Bz 4 (Qc l4)=.int .i64 0:=by unfold Bz;rw[if_pos V8]
theorem Qji:(Sf 4 (Qc l4)).length=4:=by decide +kernel
theorem Qka:∃l,Hc 4 (Qc l6) 5=.tup [.sl 1 (Al l),.int .i64 0]∧l.length=6:=by
 have h:Hr 4 (Qc l6) 5=0:=by decide +kernel
 refine⟨_,by unfold Hc;rw[h],?_⟩;decide +kernel
theorem Qwm:((Wc 4 (Ae (Qc l4)) exP 4).bind fun M=>(Rz 4 exP).bind fun P=>some (M++P))=some exM:=by decide +kernel
theorem Qfn:C6 7 8 exM:=⟨by unfold Dx B1;decide +kernel,by unfold Jl;decide +kernel,by decide +kernel⟩
theorem Qpv:F4 exM=some exZ:=by decide +kernel
theorem Qne:∃v V,K4 exZ.1 exZ.2 8 8=v::V∧v.length=8∧Dr v 4=1:=by
 have h:(match K4 exZ.1 exZ.2 8 8 with | v::_=>decide (v.length=8∧Dr v 4=1) | []=>false)=true:=by decide +kernel
 cases hk:K4 exZ.1 exZ.2 8 8 with
 |nil=>rw[hk]at h;cases h
 |cons v V=>rw[hk]at h;simp only[decide_eq_true_eq]at h;exact⟨v,V,rfl,h.1,h.2⟩
theorem Qof:(exP.map Bh).all RR.ok=true:=by decide +kernel
theorem Qpf:∃v:List Rat,Xs 4 (Qc l4) (exP.map Bh)=.tup [A6 (v.map Bh),.bool true,.int .i64 0]∧v.length=8∧Dr v 4=1:=by
 obtain⟨v,V,h1,h2,h3⟩:=Qne;refine⟨v,?_,h2,h3⟩;have hp:Ik 4 (Qc l4) (exP.map Bh)=true:=by unfold Ik;rw[V8,Qof];rfl
 have hq:(exP.map Bh).map RR.q=exP:=by
  rw[List.map_map]
  conv=>rhs;rw[←List.map_id exP]
  exact List.map_congr_left fun q _=>Gk q
 rw[Qcw hp,hq];have e4:(Qc l4).length=4:=by decide +kernel
 have hc:=Qgj Qfn (by decide +kernel) (by omega) (by omega);have hw:(Am (Cj exM) 0).length=8:=by rw[Cb,List.length_map];decide +kernel
 have hr:H2 (Cj exM)=(0,exZ.1,exZ.2):=by
  unfold H2;rw[if_neg (by simp[hc]),Qiv,Qpv]
 have hR:V1 (Cj exM)=(0,v::V):=by
  unfold V1;rw[hr,if_neg (by simp),hw,h1]
 rw[e4,show(4:Int).toNat=4 from rfl,Qwm];simp only;unfold L8;rw[hR];rfl
theorem Ac.eat {P:Program} {av:Nat→Prop} {f:FuncId} {args:List AV} {M:Aa} {k:AV→Aa→Prop} {v:AV} {args':List AV} (h:Aj P f args' Aa.emp fun v' m'=>v'=v∧m'=Aa.emp) (hv:Dq M Aa.emp args args') (hk:k v Aa.emp) (hav:∀b,¬av b:=by exact fun _ h=>h):Ac P av f args M k :=
 Ac.whole hav (Aj.view (Cu hv) h) (by rintro _ _ ⟨rfl,rfl⟩;exact hk)
theorem U5:Aj Tryz.prog 17 [] Aa.emp fun v m=>v=.bool true∧m=Aa.emp:=by
 have hlb:∀l,LbE (Qc l):=fun l x hx=>by
  unfold Qc eI at hx;obtain⟨j,_,rfl⟩:=List.mem_map.1 hx;exact Gg _
 have hln:True:=trivial;have he4:=R7 l4 (by decide);have he6:=R7 l6 (by decide);have hfr:=S6 4 (Qc l4) (hlb _);have hcl:=Qa0 4 (Qc l4) (hlb _) (fun _=>by omega);have hmo:=Vu 4 (Qc l4) (exP.map Bh) (hlb _) (fun x hx=>by obtain⟨q,_,rfl⟩:=List.mem_map.1 hx;exact Gg _) (by decide);have hci:=Rh 4 (Qc l6) 5 (hlb _);obtain⟨cl,c1,c2⟩:=Qka;obtain⟨v,m1,m2,m3⟩:=Qpf;have hcn:=Qji;have hv4:B1 (Dr v 4):=by rw[m3];exact Qhu
 have hs:=Qbl (a:=Dr v 4) (b:=1) hv4;rw[decide_eq_true m3]at hs;rw[Qjd,Yc]at hfr;rw[Yc]at hcl;rw[m1]at hmo;rw[c1]at hci;have hw0:=J6 0 (by omega) (by omega);have hw1:=J6 1 (by omega) (by omega);rw[Il]at hw0;rw[J4]at hw1;have hrow:A6 (exP.map Bh)=.sl 4 [(Bh 0).av,(Bh 0).av,(Bh 1).av,(Bh 0).av,(Bh 1).av,(Bh 1).av,(Bh 0).av,(Bh 1).av]:=rfl;rw[hrow]at hmo;have hi4:AV.sl 1 (Al l4)=.sl 1 [.int .i64 0,.int .i64 1,.int .i64 1,.int .i64 2,.int .i64 2,.int .i64 3,.int .i64 3,.int .i64 0]:=rfl
 have hi6:AV.sl 1 (Al l6)=.sl 1 [.int .i64 0,.int .i64 1,.int .i64 1,.int .i64 2,.int .i64 2,.int .i64 3,.int .i64 3,.int .i64 0,.int .i64 0,.int .i64 2,.int .i64 1,.int .i64 3]:=rfl;rw[hi4]at he4;rw[hi6]at he6;generalize Qc l4=E4 at *;generalize Qc l6=E6 at *;generalize Sf 4 E4=CS at *;generalize(Bh 0)=Q0 at *;generalize hQ1:(Bh 1)=Q1 at *;refine Ad Tryz.func17 rfl rfl 89 rfl (Nat.le_of_ble_eq_true rfl) ?_;(repeat refine AW.seq_k fun K hK=>?_);refine AW.rg ?_;simp[Ak];try (refine hK _ rfl ?_;clear hK K)
 (repeat refine AW.seq_k fun K hK=>?_);refine AW.rg ?_;simp;try (refine hK _ rfl ?_;clear hK K)
 refine Ah.intro fun b1 hb1=>?_;refine Ac.eat he4 ⟨Fl (Aa.set_same _ _ _) rfl rfl,trivial⟩ ?_;simp;try (refine hK _ rfl ?_;clear hK K)
 unfold A2 at *;(repeat refine AW.seq_k fun K hK=>?_);refine AW.rg ?_;simp;try (refine hK _ rfl ?_;clear hK K)
 refine Ac.val hfr ?_;simp;try (refine hK _ rfl ?_;clear hK K)
 (repeat refine AW.seq_k fun K hK=>?_);refine AW.rg ?_;simp;try (refine hK _ rfl ?_;clear hK K)
 refine Ac.val hcl ?_;simp;try (refine hK _ rfl ?_;clear hK K)
 (repeat refine AW.seq_k fun K hK=>?_);refine AW.rg ?_;simp;try (refine hK _ rfl ?_;clear hK K)
 refine Ac.val hw0 ?_;simp;refine Ac.val hw0 ?_;simp;refine Ac.val hw1 ?_;simp;refine Ac.val hw0 ?_;simp;refine Ac.val hw1 ?_;simp;refine Ac.val hw1 ?_;simp;refine Ac.val hw0 ?_;simp;refine Ac.val hw1 ?_;simp;refine Ah.intro fun b2 hb2=>?_;try (refine hK _ rfl ?_;clear hK K)
 (repeat refine AW.seq_k fun K hK=>?_);refine AW.rg ?_;simp;try (refine hK _ rfl ?_;clear hK K)
 refine Ac.eat hmo ⟨.same _,.same _,Fl (Aa.set_same _ _ _) rfl rfl,trivial⟩ ?_;simp;try (refine hK _ rfl ?_;clear hK K)
 (repeat refine AW.seq_k fun K hK=>?_);refine AW.rg ?_;simp;try (refine hK _ rfl ?_;clear hK K)
 refine Ah.intro fun b3 hb3=>?_;refine Ac.eat he6 ⟨Fl (Aa.set_same _ _ _) rfl rfl,trivial⟩ ?_;simp;refine Ac.val hci ?_;simp;try (refine hK _ rfl ?_;clear hK K)
 have hcl4:(Fn CS).length=4:=by unfold Fn;simpa using hcn
 have hr4:rr (v.map Bh) 4=Bh (Dr v 4):=by rw[Lc (by simp[m2])];unfold Dr;simp[m2]
 generalize Bh (Dr v 4)=q4 at *;unfold RR.av at hs hw1;unfold A6;(repeat refine AW.seq_k fun K hK=>?_);refine AW.rd [0,1,2,3,4,5,6,7,8,9,10,11,12,13,14,15,16,17,18,19,20,21,22,23,24,25,26,27,28,29,30,31,32,33,34,35,36,37,38,39,40,41,42,43] Dk ?_;simp[hcl4,m2,c2,hr4];try (refine hK _ rfl ?_;clear hK K)
 refine Ac.val hw1 ?_;simp[hcl4,m2,c2,hr4];refine Ac.val hs ?_;simp[hcl4,m2,c2,hr4];try (refine hK _ rfl ?_;clear hK K)
 exact AW.ret (Af rfl _ (.same _) ⟨rfl,rfl⟩)
end Go.Av
end
section
namespace Go.Av
open Go.Proofs Go.Lam
theorem Qai (n:Int) (es:List RE) (e:Int):∃l c,Hc n es e=.tup [.sl 1 (Al l),.int .i64 c]∧l.length<2^40:=by
 refine⟨_,_,rfl,?_⟩;split
 ·unfold Qgr;have h1:=Ie n.toNat es (Vs n es e.toNat) e.toNat (Vs n es e.toNat).length;have h2:(Vs n es e.toNat).length≤(Et n es).length:=List.length_filter_le _ _;have h3:(Et n es).length≤40:=by
   by_cases h:C8 n es=true
   ·exact Nb h
   ·unfold Et;rw[if_neg h];simp
  rw[List.length_append];simp;omega
 ·simp
def W8 (n:Int) (es:List RE):Int:=if 8<n∧C8 n es=true then 8 else n
theorem Pm (n:Int) (es:List RE) (e:Int) (hb:LbE es):Aj Tryz.prog 4 [.int .i64 n,A2 es,.int .i64 e] Aa.emp fun v m=>v=.bool true∧m=Aa.emp:=by
 have h1:=Rh (W8 n es) es e hb;have h2:=Zd (W8 n es) es e hb;obtain⟨l,c,hc,hl⟩:=Qai (W8 n es) es e;have h7:=Qbn l l hl hl;have hwk:=U5;rw[hc]at h1 h2;rw[decide_eq_true rfl]at h7;have hck:=Q3 n es hb;unfold Bz at hck;refine Ad Tryz.func4 rfl rfl 44 rfl (Nat.le_of_ble_eq_true rfl) ?_;unfold A2 at *;(repeat refine AW.seq_k fun K hK=>?_);refine AW.rg ?_;simp[Ak];try (refine hK _ rfl ?_;clear hK K)
 refine AW.seq_ex (ι:=Unit) (fun _=>[(0,.int .i64 (W8 n es)),(1,.sl 6 (D4 es)),(2,.int .i64 e)]) (fun _=>Aa.emp) (fun _=>True) ?_ ?_
 ·by_cases h8:8<n
  ·(repeat refine AW.seq_k fun K hK=>?_);refine AW.rg ?_;simp[h8];try (refine hK _ rfl ?_;clear hK K)
   refine Ac.val hck ?_;by_cases hk:C8 n es=true
   ·have e:W8 n es=8:=if_pos ⟨h8,hk⟩;simp[hk];try (refine hK _ rfl ?_;clear hK K)
    refine AW.yes ?_ rfl;(repeat refine AW.seq_k fun K hK=>?_);refine AW.rg ?_;simp[e];try (refine hK _ rfl ?_;clear hK K)
   ·have e:W8 n es=n:=if_neg fun h=>hk h.2;simp[hk];try (refine hK _ rfl ?_;clear hK K)
    refine AW.no ?_ rfl;refine AW.skip ?_;simp[e]
  ·have e:W8 n es=n:=if_neg fun h=>h8 h.1;(repeat refine AW.seq_k fun K hK=>?_);refine AW.rg ?_;simp[h8];try (refine hK _ rfl ?_;clear hK K)
   refine AW.no ?_ rfl;refine AW.skip ?_;simp[e]
 rintro _ _;generalize W8 n es=N at *;(repeat refine AW.seq_k fun K hK=>?_);refine AW.rg ?_;simp;try (refine hK _ rfl ?_;clear hK K)
 refine Ac.val h1 ?_;simp;try (refine hK _ rfl ?_;clear hK K)
 (repeat refine AW.seq_k fun K hK=>?_);refine AW.rg ?_;simp;try (refine hK _ rfl ?_;clear hK K)
 refine Ac.val h2 ?_;simp;try (refine hK _ rfl ?_;clear hK K)
 (repeat refine AW.seq_k fun K hK=>?_);refine AW.rg ?_;simp;try (refine hK _ rfl ?_;clear hK K)
 refine Ac.val hwk ?_;simp;refine Ac.val h7 ?_;simp;try (refine hK _ rfl ?_;clear hK K)
 exact AW.ret (Af rfl _ (.same _) ⟨rfl,rfl⟩)
end Go.Av
end
section
namespace Go.Av
open Go.Proofs
theorem Qv6:Tryz.prog.underlying 40=some (.slice 124):=by kernel_rfl
theorem Qt9:Tryz.prog.underlying 124=some (.int .u32):=by kernel_rfl
theorem ty4:Tryz.prog.underlying 4=some .bool:=by kernel_rfl
theorem Qwq:Tryz.prog.cellsOf 124=1:=by kernel_rfl
theorem Quq:Tryz.prog.cellsOf 44=4:=by kernel_rfl
theorem Qo1:Tryz.prog.cellsOf 42=2:=by kernel_rfl
theorem Qv7:Tryz.prog.cellsOf 40=1:=by kernel_rfl
theorem cl4:Tryz.prog.cellsOf 4=1:=by kernel_rfl
noncomputable def Qd1 (t:TypeId):Array Field:=match Tryz.prog.underlying t with
 |some (.struct fs)=>fs
 |_=>#[]
noncomputable def Vi (t:TypeId) (i:Nat):Option (TypeId × Nat):=((Qd1 t)[i]?).map fun f=>(f.type,f.offset)
theorem Qwo:Tryz.prog.underlying 44=some (.struct (Qd1 44)):=by kernel_rfl
theorem Qwj:Tryz.prog.underlying 42=some (.struct (Qd1 42)):=by kernel_rfl
theorem Qtu:Vi 44 0=some (42,0):=by kernel_rfl
theorem Qto:Vi 44 1=some (42,2):=by kernel_rfl
theorem Qu0:Vi 42 0=some (4,0):=by kernel_rfl
theorem Qt7:Vi 42 1=some (40,1):=by kernel_rfl
theorem I9 {t:TypeId} {i:Nat} {p:TypeId × Nat} (h:Vi t i=some p):∃f:Field,(Qd1 t)[i]?=some f∧f.type=p.1∧f.offset=p.2:=by
 unfold Vi at h;cases hf:(Qd1 t)[i]? with
 |none=>rw[hf]at h;cases h
 |some f=>rw[hf]at h;cases h;exact⟨f,rfl,rfl,rfl⟩
variable {H:Type} {enc:TypeId × Value→H} {W:World}
theorem Qcc {a:Addr} {v:Value} (h:W.cell? a=some v):a.block<W.heap.size:=by
 unfold World.cell? at h;rcases Nat.lt_or_ge a.block W.heap.size with hl | hl
 ·exact hl
 ·rw[Array.getElem?_eq_none hl]at h;simp at h
theorem Po {l:List Nat} {i j:Nat} {u:AV} (h:Ay (Bf l) i j=some u):j=0∧i<l.length∧u=.int .u32 (nth l i:Nat):=by
 unfold Ay Bf at h;rw[List.getElem?_map]at h;cases hi:l[i]? with
 |none=>rw[hi]at h;cases h
 |some y =>
  rw[hi]at h;have hl:=(List.getElem?_eq_some_iff.1 hi).1;cases j with
  |zero =>
   cases h;refine⟨rfl,hl,?_⟩;unfold nth;rw[List.getD_eq_getElem?_getD,hi];rfl
  |succ k=>cases h
theorem Qf4 {fuel:Nat} {c:Value} {x:DataW H × List MemPlace} (h:DataW.trod enc Tryz.prog W 0 (fun _=>true) true fuel 40 [c]=some x):∃l,Lb l∧VR W (fun _=>False) (An l) c:=by
 rcases Go.ChangeShapes.open_ints Qv6 Qt9 Qwq h with⟨hc,_⟩|⟨a,len,cap,zs,hc,_,hl,hm,hz,_,hcell,hwf⟩
 ·simp only[List.cons.injEq,and_true]at hc;subst hc;exact⟨[],fun y hy=>(by cases hy),.sl0 1 none 0⟩
 ·simp only[List.cons.injEq,and_true]at hc;subst hc;simp at hz;rcases Nat.eq_zero_or_pos len with h0 | h0
  ·subst h0;exact⟨[],fun y hy=>(by cases hy),.sl0 1 (some a) cap⟩
  ·have h00:=hcell 0 (by omega);have hsp:=World.cell?_spot h00;have hbl:=Qcc h00;obtain⟨b,o,sp⟩:=a;simp[Addr.add]at hsp hbl;subst hsp;have hzl:∀i,i<len→0≤zs.getD i 0∧zs.getD i 0≤4294967295:=fun i hi=>by
    have:zs.getD i 0=zs[i]'(by omega):=by rw[List.getD_eq_getElem?_getD,List.getElem?_eq_getElem (by omega)];rfl
    rw[this];exact Go.bounds_u32 (hwf _ (List.getElem_mem _))
   refine⟨(List.range len).map fun i=>(zs.getD i 0).toNat,fun y hy=>?_,?_⟩
   ·obtain⟨i,hi,rfl⟩:=List.mem_map.1 hy;have:=hzl i (List.mem_range.1 hi);omega
   ·have e:((List.range len).map fun i=>(zs.getD i 0).toNat).length=len:=by simp
    have:=VR.sl (w:=W) (F:=fun _=>False) 1 (Bf ((List.range len).map fun i=>(zs.getD i 0).toNat)) b o cap (fun i _=>.int .u32 (zs.getD i 0)) (by simp) hbl (by simp;exact hl) (by
     intro v hv;obtain⟨y,_,rfl⟩:=List.mem_map.1 hv;rfl) ?_ ?_
    ·rw[Jr,e]at this;exact this
    ·intro i j u hu;obtain⟨rfl,q1,rfl⟩:=Po hu;rw[e]at q1;have:=hzl i q1;have hn:nth ((List.range len).map fun i=>(zs.getD i 0).toNat) i=(zs.getD i 0).toNat:=by
      unfold nth;rw[List.getD_eq_getElem?_getD,List.getElem?_map,List.getElem?_range q1];rfl
     rw[hn,Int.toNat_of_nonneg this.1];exact .int _ _
    ·intro i j u hu;obtain⟨rfl,q1,rfl⟩:=Po hu;rw[e]at q1;have:=hcell i (by omega);rcases Nat.eq_zero_or_pos i with h' | h'
     ·subst h';simpa[Addr.add]using this
     ·have h'':i≠0:=by omega
      simpa[Addr.add,h'']using this
set_option maxRecDepth 100000
theorem Xt {fuel:Nat} {cs:List Value} {x:DataW H × List MemPlace} (h:DataW.trod enc Tryz.prog W 0 (fun _=>true) true fuel 42 cs=some x):∃n l c,cs=[.bool n,c]∧Lb l∧VR W (fun _=>False) (An l) c:=by
 obtain⟨xs,n,_,rfl,hl,hlen,hf⟩:=DataW.trod_struct Qwj h;rw[Qo1]at hl;obtain⟨c0,c1,rfl⟩:∃c0 c1,cs=[c0,c1]:=by
  match cs,hl with
  |[c0,c1],_=>exact⟨c0,c1,rfl⟩
 obtain⟨f0,g1,g2,g3⟩:=I9 Qu0;obtain⟨f1,k1,k2,k3⟩:=I9 Qt7;have h0:=hf 0 f0 g1;have h1:=hf 1 f1 k1;simp only at g2 g3 k2 k3;rw[g2,g3,cl4]at h0;rw[k2,k3,Qv7]at h1;have hs:xs.length=2:=by rw[hlen];kernel_rfl
 obtain⟨b,hb,_⟩:=DataW.trod_bool ty4 (h0.trans (List.getElem?_eq_getElem (by omega)));obtain⟨l,hl1,hl2⟩:=Qf4 (h1.trans (List.getElem?_eq_getElem (by omega)));simp at hb;exact⟨b,l,c1,by rw[hb],hl1,hl2⟩
theorem Qhk {fuel:Nat} {cs:List Value} {x:DataW H × List MemPlace} (h:DataW.trod enc Tryz.prog W 0 (fun _=>true) true fuel 44 cs=some x):∃r:RR,r.Lb∧cs.length=4∧∀(j:Nat) (u:AV),r.av.cells[j]?=some u→∃c,cs[j]?=some c∧VR W (fun _=>False) u c:=by
 obtain⟨xs,n,_,rfl,hl,hlen,hf⟩:=DataW.trod_struct Qwo h;rw[Quq]at hl;obtain⟨c0,c1,c2,c3,rfl⟩:∃c0 c1 c2 c3,cs=[c0,c1,c2,c3]:=by
  match cs,hl with
  |[c0,c1,c2,c3],_=>exact⟨c0,c1,c2,c3,rfl⟩
 obtain⟨f0,g1,g2,g3⟩:=I9 Qtu;obtain⟨f1,k1,k2,k3⟩:=I9 Qto;have h0:=hf 0 f0 g1;have h1:=hf 1 f1 k1;simp only at g2 g3 k2 k3;rw[g2,g3,Qo1]at h0;rw[k2,k3,Qo1]at h1;have hs:xs.length=2:=by rw[hlen];kernel_rfl
 obtain⟨n1,l1,d1,e1,b1,v1⟩:=Xt (h0.trans (List.getElem?_eq_getElem (by omega)));obtain⟨n2,l2,d2,e2,b2,v2⟩:=Xt (h1.trans (List.getElem?_eq_getElem (by omega)));simp at e1 e2;obtain⟨rfl,rfl⟩:=e1;obtain⟨rfl,rfl⟩:=e2;refine⟨⟨n1,l1,n2,l2⟩,⟨b1,b2⟩,rfl,fun j u hu=>?_⟩
 match j,hu with
 |0,hu=>cases hu;exact⟨_,rfl,.bool _⟩
 |1,hu=>cases hu;exact⟨_,rfl,v1⟩
 |2,hu=>cases hu;exact⟨_,rfl,.bool _⟩
 |3,hu=>cases hu;exact⟨_,rfl,v2⟩
 |k+4,hu=>cases hu
end Go.Av
end
section
namespace Go.Av
open Go.Proofs
variable {H:Type} {enc:TypeId × Value→H} {W:World}
theorem Sx {α:Type} [Inhabited α] {n:Nat} {p:Nat→α→Prop} (h:∀i,i<n→∃a,p i a):∃f:Nat→α,∀i,i<n→p i (f i):=by
 classical
 exact⟨fun i=>if hi:i<n then Classical.choose (h i hi) else default,fun i hi=>by
  simp only[dif_pos hi];exact Classical.choose_spec (h i hi)⟩
theorem Qc6 (b o i j:Nat):((⟨b,o,none⟩:Addr).add i).add j=⟨b,o+(i+j),none⟩:=by
 by_cases hi:i=0
 ·subst hi;by_cases hj:j=0
  ·subst hj;simp[Addr.add]
  ·simp[Addr.add,hj]
 ·by_cases hj:j=0
  ·subst hj;simp[Addr.add,hi]
  ·simp[Addr.add,hi,hj,Nat.add_assoc]
end Go.Av
end
section
namespace Go.Av
open Go.Proofs
theorem ty22:Tryz.prog.underlying 22=some (.slice 46):=by kernel_rfl
theorem ty3:Tryz.prog.underlying 3=some (.int .i64):=by kernel_rfl
theorem Qwl:Tryz.prog.underlying 46=some (.struct (Qd1 46)):=by kernel_rfl
theorem Que:Tryz.prog.cellsOf 46=6:=by kernel_rfl
theorem cl3:Tryz.prog.cellsOf 3=1:=by kernel_rfl
theorem Qti:Vi 46 0=some (3,0):=by kernel_rfl
theorem Qt1:Vi 46 1=some (3,1):=by kernel_rfl
theorem Qu1:Vi 46 2=some (44,2):=by kernel_rfl
variable {H:Type} {enc:TypeId × Value→H} {W:World}
set_option maxRecDepth 100000
theorem So {fuel:Nat} {c:Value} {x:DataW H × List MemPlace} (h:DataW.trod enc Tryz.prog W 0 (fun _=>true) true fuel 3 [c]=some x):∃n:Int,c=.int .i64 n∧-9223372036854775808≤n∧n<9223372036854775808:=by
 obtain⟨n,h1,_,h2⟩:=DataW.trod_int ty3 h;have:=bounds_i64 h2;simp at h1;exact⟨n,h1,this.1,by omega⟩
theorem Qe5 {fuel:Nat} {cs:List Value} {x:DataW H × List MemPlace} (h:DataW.trod enc Tryz.prog W 0 (fun _=>true) true fuel 46 cs=some x):∃e:RE,e.sq.Lb∧cs.length=6∧∀(j:Nat) (u:AV),e.av.cells[j]?=some u→∃c,cs[j]?=some c∧VR W (fun _=>False) u c:=by
 obtain⟨xs,n,_,rfl,hl,hlen,hf⟩:=DataW.trod_struct Qwl h;rw[Que]at hl;obtain⟨c0,c1,c2,c3,c4,c5,rfl⟩:∃c0 c1 c2 c3 c4 c5,cs=[c0,c1,c2,c3,c4,c5]:=by
  match cs,hl with
  |[c0,c1,c2,c3,c4,c5],_=>exact⟨c0,c1,c2,c3,c4,c5,rfl⟩
 obtain⟨f0,g1,g2,g3⟩:=I9 Qti;obtain⟨f1,k1,k2,k3⟩:=I9 Qt1;obtain⟨f2,l1,l2,l3⟩:=I9 Qu1;have h0:=hf 0 f0 g1;have h1:=hf 1 f1 k1;have h2:=hf 2 f2 l1;simp only at g2 g3 k2 k3 l2 l3;rw[g2,g3,cl3]at h0;rw[k2,k3,cl3]at h1;rw[l2,l3,Quq]at h2;have hs:xs.length=3:=by rw[hlen];kernel_rfl
 obtain⟨a,e0,_⟩:=So (h0.trans (List.getElem?_eq_getElem (by omega)));obtain⟨b,e1,_⟩:=So (h1.trans (List.getElem?_eq_getElem (by omega)));obtain⟨r,q1,_,q3⟩:=Qhk (h2.trans (List.getElem?_eq_getElem (by omega)));subst e0 e1;refine⟨⟨a,b,r⟩,q1,rfl,fun j u hu=>?_⟩
 match j,hu with
 |0,hu=>cases hu;exact⟨_,rfl,.int _ _⟩
 |1,hu=>cases hu;exact⟨_,rfl,.int _ _⟩
 |2,hu=>exact q3 0 u hu
 |3,hu=>exact q3 1 u hu
 |4,hu=>exact q3 2 u hu
 |5,hu=>exact q3 3 u hu
 |k+6,hu=>cases hu
theorem Sp {fuel:Nat} {c:Value} {x:DataW H × List MemPlace} (h:DataW.trod enc Tryz.prog W 0 (fun _=>true) true fuel 22 [c]=some x):∃es:List RE,LbE es∧VR W (fun _=>False) (A2 es) c:=by
 rcases Go.Deep.open_slice ty22 h with⟨hc,_⟩|⟨a,len,cap,m,n,D,Pl,hc,_,hl,hm,hmm,_,hx⟩
 ·simp only[List.cons.injEq,and_true]at hc;subst hc;exact⟨[],fun y hy=>(by cases hy),.sl0 6 none 0⟩
 ·simp only[List.cons.injEq,and_true]at hc;subst hc;simp at hmm;subst hmm;rcases Nat.eq_zero_or_pos len with h0 | h0
  ·subst h0;exact⟨[],fun y hy=>(by cases hy),.sl0 6 (some a) m⟩
  ·rw[Que]at hx;obtain⟨C,hC⟩:=Sx (α:=List Value) (p:=fun i cs=>W.cells? 0 (a.add (i*6)) 6=some cs∧DataW.trod enc Tryz.prog W 0 (fun _=>true) true n 46 cs=some (D i,Pl i)) (n:=len) (fun i hi=>hx i (by omega));obtain⟨R,hR⟩:=Sx (α:=RE) (n:=len) (fun i hi=>Qe5 (hC i hi).2);have hcell:∀i,i<len→∀j,j<6→W.cell? ((a.add (i*6)).add j)=(C i)[j]?:=fun i hi=>(World.cells?_some (hC i hi).1).2.2;obtain⟨c00,hc00,_⟩:=(hR 0 h0).2.2 0 (.int .i64 (R 0).a) rfl;have h00:=(hcell 0 h0 0 (by omega)).trans hc00;have hsp:=World.cell?_spot h00
   have hbl:=Qcc h00;obtain⟨b,o,sp⟩:=a;simp[Addr.add]at hsp hbl;subst hsp;have hcellAt:∀i j u,Ay (D4 ((List.range len).map R)) i j=some u→i<len∧(R i).av.cells[j]?=some u:=by
    intro i j u hu;unfold Ay D4 at hu;rw[List.map_map,List.getElem?_map]at hu;by_cases hi:i<len
    ·rw[List.getElem?_range hi]at hu;exact⟨hi,hu⟩
    ·rw[List.getElem?_eq_none (by simp;omega)]at hu;cases hu
   refine⟨(List.range len).map R,fun y hy=>?_,?_⟩
   ·obtain⟨i,hi,rfl⟩:=List.mem_map.1 hy;exact(hR i (List.mem_range.1 hi)).1
   ·have:=VR.sl (w:=W) (F:=fun _=>False) 6 (D4 ((List.range len).map R)) b o m (fun i j=>((C i)[j]?).getD (.bool false)) (by simp) hbl (by simp;exact hl) (by
     intro v hv;obtain⟨y,_,rfl⟩:=List.mem_map.1 hv;rfl) (fun i j u hu=>by
      obtain⟨hi,hu⟩:=hcellAt i j u hu;obtain⟨c,q1,q2⟩:=(hR i hi).2.2 j u hu;rw[q1];exact q2) (fun i j u hu=>by
      obtain⟨hi,hu⟩:=hcellAt i j u hu;obtain⟨c,q1,q2⟩:=(hR i hi).2.2 j u hu;have hj:j<6:=by
       have:=(List.getElem?_eq_some_iff.1 q1).1;rw[(hR i hi).2.1]at this;exact this
      have:=hcell i hi j hj;rw[Qc6,q1]at this;rw[this,q1];rfl)
    rw[Qa3,List.length_map,List.length_range]at this;exact this
def vrl (W:World):List AV→List Value→Prop
 |[],[]=>True
 |x::xs,c::cs=>VR W (fun _=>False) x c∧vrl W xs cs
 |_,_=>False
theorem Qcu:∀{xs:List AV} {cs:List Value},vrl W xs cs→cs.length=xs.length∧∀(j:Nat) u v,xs[j]?=some u→cs[j]?=some v→VR W (fun _=>False) u v
 |[],[],_=>⟨rfl,fun j u v h=>by cases h⟩
 |x::xs,c::cs,h=>by
  obtain⟨h1,h2⟩:=Qcu h.2;refine⟨by simp[h1],fun j u v hu hv=>?_⟩
  match j,hu,hv with
  |0,hu,hv=>cases hu;cases hv;exact h.1
  |k+1,hu,hv=>exact h2 k u v hu hv
 |[],_::_,h=>h.elim
 |_::_,[],h=>h.elim
theorem Ty {f:FuncId} {xs:List AV} (hf:Aj Tryz.prog f xs Aa.emp fun v mm=>v=.bool true∧mm=Aa.emp) {cs:List Value} (hx:vrl W xs cs) :
  Calls Tryz.prog f cs.toArray W fun e W'=>e=.returned (.bool true)∧RowKit.Below W.heap.size W W':=by
 have hO:Ci (fun _=>False) Aa.emp=fun _=>False:=by funext b;simp[Ci,Aa.emp]
 obtain⟨h1,h2⟩:=Qcu hx;refine(hf.2 W (fun _=>False) cs.toArray (fun b hb=>hb.elim) (fun b x hx=>by cases hx) ?_).mono ?_
 ·rw[hO];exact⟨by simpa using h1,fun j u v hu hv'=>h2 j u v hu (by simpa using hv')⟩
 ·rintro e W' ⟨v,cv,g',rfl,⟨rfl,_⟩,_,hvr,hg,_⟩;cases hvr;exact⟨rfl,⟨hg.os,hg.tape,hg.output,hg.size,fun k hk=>hg.block k hk (by simp[Aa.emp])⟩⟩
end Go.Av
end
