/- A part of the proof. -/
import Derived.Test.YthflocfaafoohaaGreatP4
import Derived.ProofKit
import Derived.OpenShut
import Derived.Deep.Slices
set_option linter.all false
set_option exponentiation.threshold 5000
set_option maxRecDepth 10000
section
namespace Go.Av
open Go.Proofs Go.Lam
theorem Qcg {y:List Nat} (hy:y.length≤100):∀x:List Nat,Ej x y≤x.length*100
 |[]=>by simp[Ej]
 |a::t=>by
  have h1:=Qcg hy t;have h2:y.count a≤y.length:=List.count_le_length;unfold Ej at *;rw[List.map_cons,List.sum_cons,List.length_cons];omega
theorem Qdf {x y:List Nat} {i:Nat} (hi:i<x.length):Ej (x.take (i+1)) y=Ej (x.take i) y+y.count x[i]:=by
 unfold Ej;rw[List.take_add_one,List.getElem?_eq_getElem hi,List.map_append,List.sum_append_nat];simp
theorem Zp {y:List Nat} {k:Nat} (hk:k<y.length) (v:Nat):(y.take (k+1)).count v=(y.take k).count v+if v=y[k] then 1 else 0:=by
 rw[List.take_add_one,List.getElem?_eq_getElem hk,List.count_append];by_cases h:v=y[k]
 ·subst h;simp
 ·have h':¬y[k]=v:=fun e=>h e.symm;simp[h,h',List.count_cons]
theorem O4 (x y:List Nat) (hx:x.length≤100) (hy:y.length≤100):Aj Tryz.prog 27 [.sl 1 (Ao x),.sl 1 (Ao y)] Aa.emp fun v m=>v=.int .i64 (Ej x y:Nat)∧m=Aa.emp:=by
 refine Ad Tryz.func27 rfl rfl 32 rfl (Nat.le_of_ble_eq_true rfl) ?_;(repeat refine AW.seq_k fun K hK=>?_);refine AW.rg ?_;simp[Ak];try (refine hK _ rfl ?_;clear hK K)
 (repeat refine AW.seq_k fun K hK=>?_);refine AW.rg ?_;simp;try (refine hK _ rfl ?_;clear hK K)
 refine AW.seq_ex (ι:=Unit) (fun _=>[(5,.int .i64 (Ej x y:Nat))]) (fun _=>Aa.emp) (fun _=>True) ?_ ?_
 ·(repeat refine AW.seq_k fun K hK=>?_);refine AW.rg ?_;simp;try (refine hK _ rfl ?_;clear hK K)
  refine AW.block (AW.loopS (ι:=Nat) (fun i=>[(0,.sl 1 (Ao x)),(1,.sl 1 (Ao y)),(5,.int .i64 (Ej (x.take i) y:Nat)),(6,.int .i64 (i:Nat))]) (fun _=>Aa.emp) (fun i=>i≤x.length) (fun i=>x.length-i) 0 (by simp) rfl (by simp[Ej]) ?_);intro i g1;have hcl:Ej (x.take i) y≤10000:=by
   have h1:=Qcg hy (x.take i);have h2:(x.take i).length≤100:=by simp;omega
   omega
  (repeat refine AW.seq_k fun K hK=>?_);refine AW.rg ?_;simp;try (refine hK _ rfl ?_;clear hK K)
  (repeat refine AW.seq ?_);refine AW.cs (fun hi=>?_) (fun hi=>?_) rfl<;>(try simp at hi)
  ·refine AW.skip ?_;try simp
   try (refine hK _ rfl ?_;clear hK K)
   have w1:=Aq (i+1) (by omega);have hst:=Qdf (y:=y) hi;generalize Ej (x.take i) y=c at *;(repeat refine AW.seq ?_);refine AW.block ?_;(repeat refine AW.seq_k fun K hK=>?_);refine AW.rg ?_;simp;try (refine hK _ rfl ?_;clear hK K)
   refine AW.block (AW.loopS (ι:=Nat) (fun k=>[(0,.sl 1 (Ao x)),(1,.sl 1 (Ao y)),(5,.int .i64 ((c+(y.take k).count x[i]:Nat):Int)),(6,.int .i64 (i:Nat)),(7,.int .i64 (k:Nat))]) (fun _=>Aa.emp) (fun k=>k≤y.length) (fun k=>y.length-k) 0 (by simp) rfl (by simp) ?_);intro k g2;have hct:(y.take k).count x[i]≤100:=Nat.le_trans List.count_le_length (by simp;omega);(repeat refine AW.seq_k fun K hK=>?_);refine AW.rg ?_;simp[-Int.natCast_add];try (refine hK _ rfl ?_;clear hK K)
   (repeat refine AW.seq ?_);refine AW.cs (fun hk=>?_) (fun hk=>?_) rfl<;>(try simp at hk)
   ·refine AW.skip ?_;try simp[-Int.natCast_add]
    try (refine hK _ rfl ?_;clear hK K)
    have w2:=Aq (k+1) (by omega);have hs2:=Zp hk x[i];generalize(y.take k).count x[i]=d at *;have w3:=Aq (c+d+1) (by omega);(repeat refine AW.seq ?_);refine AW.block ?_;(repeat refine AW.seq_k fun K hK=>?_);refine AW.rd [0,1,2,3,4,5,6,7,8] Dm ?_;simp[-Int.natCast_add,hi,hk];try (refine hK _ rfl ?_;clear hK K)
    by_cases he:x[i]=y[k]
    ·rw[if_pos he]at hs2;refine AW.yes ?_ (by simp[-Int.natCast_add,he]);(repeat refine AW.seq_k fun K hK=>?_);refine AW.rg ?_;simp[-Int.natCast_add,w3];try (refine hK _ rfl ?_;clear hK K)
     (repeat refine AW.seq_k fun K hK=>?_);refine AW.rg ?_;simp[-Int.natCast_add,w2];try (refine hK _ rfl ?_;clear hK K)
     exact⟨k+1,by omega,by omega,by rw[hs2];rfl,rfl⟩
    ·rw[if_neg he]at hs2;refine AW.no ?_ (by simp[-Int.natCast_add,he]);refine AW.skip ?_;try simp[-Int.natCast_add]
     try (refine hK _ rfl ?_;clear hK K)
     (repeat refine AW.seq_k fun K hK=>?_);refine AW.rg ?_;simp[-Int.natCast_add,w2];try (refine hK _ rfl ?_;clear hK K)
     exact⟨k+1,by omega,by omega,by rw[hs2];rfl,rfl⟩
   ·refine AW.exit ?_;try simp[-Int.natCast_add]
    have:k=y.length:=by omega
    subst this;rw[List.take_length];(repeat refine AW.seq_k fun K hK=>?_);refine AW.rg ?_;simp[-Int.natCast_add,w1];try (refine hK _ rfl ?_;clear hK K)
    exact⟨i+1,by omega,by omega,by rw[hst],rfl⟩
  ·refine AW.exit ?_;try simp
   rw[show i=x.length by omega,List.take_length]
 rintro _ _;(repeat refine AW.seq_k fun K hK=>?_);refine AW.rg ?_;simp;try (refine hK _ rfl ?_;clear hK K)
 exact AW.ret (Af rfl _ (.same _) ⟨rfl,rfl⟩)
def Ta (C:List (List Nat)) (i:Nat):Nat:=((C.take i).map Xe).sum
theorem Xd (j:Int) (l:List RE) (hl:S4 l∧l.length<2^63):Aj Tryz.prog 7 [.int .i64 j,A4 l] Aa.emp fun v m=>v=.bool true∧m=Aa.emp:=by
 obtain⟨rj,_,hj⟩:=Qat j;have hwk:=Vg;obtain⟨N,hN⟩:∃N,2+rj % 7=N:=⟨_,rfl⟩;have hN2:2≤N:=by omega
 have hN8:N≤8:=by omega
 have hap:=Qbc N l hN2 hN8 hl.2;have wN:IntKind.i64.wrap (2+(rj:Int).tmod 7)=(N:Nat):=by
  rw[show(rj:Int).tmod 7=((rj % 7:Nat):Int) from rfl,←hN];exact wi (a:=2+rj % 7) (by omega)
 refine Ad Tryz.func7 rfl rfl 135 rfl (Nat.le_of_ble_eq_true rfl) ?_;unfold A4 at *;(repeat refine AW.seq_k fun K hK=>?_);refine AW.rg ?_;simp[Ak];try (refine hK _ rfl ?_;clear hK K)
 (repeat refine AW.seq_k fun K hK=>?_);refine AW.rg ?_;simp[hj,wN];try (refine hK _ rfl ?_;clear hK K)
 (repeat refine AW.seq_k fun K hK=>?_);refine AW.rg ?_;simp;try (refine hK _ rfl ?_;clear hK K)
 refine Ac.pure hap ?_;rintro _ ⟨es,rfl,hck,hlb,h24⟩;unfold A4;simp;try (refine hK _ rfl ?_;clear hK K)
 have hi:=Kg (N:Nat) es hlb;have hc:=Sk (N:Nat) es hlb (fun _=>by omega);unfold Cd A4 at hi hc;rw[hck]at hi hc;obtain⟨hL,hS⟩:=Ue hck;have hok:=I2 hck;have hC:Jq (N:Nat) es=D7 N ((D6 (N:Nat) es).map (Ae es)):=by unfold Jq;rw[if_pos hck];rfl
 rw[hC]at hc;obtain⟨cs1,_⟩:=Xp (N:Nat) es;rw[hC]at cs1;have hil:=Ny hck;simp only[Int.toNat_natCast]at hL hS hok;have hsum:=Qft hL hS;have hmet:=fun e he=>Qh7 hL hS (e:=e) he;have hap:=fun x hx y hy=>Qa1 hS (x:=x) (y:=y) hx hy;have hnd:=Md (n:=N) (L:=(D6 (N:Nat) es).map (Ae es));have heach:=fun c hc=>(Kt (n:=N) (L:=(D6 (N:Nat) es).map (Ae es)) (c:=c) hc).2;have hIlt:=fun k=>Ql (n:=(N:Nat)) (es:=es) (k:=k);rw[List.length_map]at hsum;have hmet':∀k∈D6 (N:Nat) es,(D7 N ((D6 (N:Nat) es).map (Ae es))).countP (fun c=>decide (Ej c [(Ae es k).1,(Ae es k).2]=2))=1:=fun k hk=>hmet _ (List.mem_map.2 ⟨k,hk,rfl⟩)
 clear hmet hL hS hC;generalize D7 N ((D6 (N:Nat) es).map (Ae es))=C at *;generalize D6 (N:Nat) es=I at *;(repeat refine AW.seq_k fun K hK=>?_);refine AW.rg ?_;simp;try (refine hK _ rfl ?_;clear hK K)
 refine Ac.val hi ?_;simp;try (refine hK _ rfl ?_;clear hK K)
 (repeat refine AW.seq_k fun K hK=>?_);refine AW.rg ?_;simp;try (refine hK _ rfl ?_;clear hK K)
 refine Ac.val hc ?_;simp;try (refine hK _ rfl ?_;clear hK K)
 (repeat refine AW.seq_k fun K hK=>?_);refine AW.rg ?_;simp;try (refine hK _ rfl ?_;clear hK K)
 refine Ac.val hwk ?_;simp;try (refine hK _ rfl ?_;clear hK K)
 refine AW.no ?_ rfl;refine AW.skip ?_;try simp
 try (refine hK _ rfl ?_;clear hK K)
 (repeat refine AW.seq_k fun K hK=>?_);refine AW.rg ?_;simp;try (refine hK _ rfl ?_;clear hK K)
 have hclen:∀i (h:i<C.length),C[i].length≤8:=fun i h=>by have:=heach _ (List.getElem_mem h);omega
 have hsle:∀i,Ta C i≤40:=fun i=>by
  unfold Ta;have e:C=C.take i++C.drop i:=(List.take_append_drop i C).symm;have h2:((C.take i).map Xe).sum≤(C.map Xe).sum:=by
   conv=>rhs;rw[e,List.map_append,List.sum_append_nat]
   omega
  omega
 refine AW.seq_ex (ι:=Unit) (fun _=>[(6,.sl 6 (Dl es)),(7,.sl 1 (Ao I)),(9,.sl 1 (Ev C)),(11,.int .i64 (I.length:Nat))]) (fun _=>Aa.emp) (fun _=>True) ?_ ?_
 ·(repeat refine AW.seq_k fun K hK=>?_);refine AW.rg ?_;simp;try (refine hK _ rfl ?_;clear hK K)
  refine AW.block (AW.loopS (ι:=Nat) (fun i=>[(6,.sl 6 (Dl es)),(7,.sl 1 (Ao I)),(9,.sl 1 (Ev C)),(11,.int .i64 (Ta C i:Nat)),(12,.int .i64 (i:Nat))]) (fun _=>Aa.emp) (fun i=>i≤C.length) (fun i=>C.length-i) 0 (by simp) rfl (by simp[Ta]) ?_);intro i g1;have hsi:=hsle i;(repeat refine AW.seq_k fun K hK=>?_);refine AW.rg ?_;simp;try (refine hK _ rfl ?_;clear hK K)
  (repeat refine AW.seq ?_);refine AW.cs (fun hi=>?_) (fun hi=>?_) rfl<;>(try simp at hi)
  ·refine AW.skip ?_;try simp
   try (refine hK _ rfl ?_;clear hK K)
   have w1:=Aq (i+1) (by omega);have hci:=hclen i hi;have hst:Ta C (i+1)=Ta C i+Xe C[i]:=by
    unfold Ta;rw[List.take_add_one,List.getElem?_eq_getElem hi,List.map_append,List.sum_append_nat];simp
   generalize Ta C i=s at *;obtain⟨z,hz⟩:∃z,C[i].length=z:=⟨_,rfl⟩;rw[hz]at hci;refine AW.seq_ex (ι:=Unit) (fun _=>[(6,.sl 6 (Dl es)),(7,.sl 1 (Ao I)),(9,.sl 1 (Ev C)),(11,.int .i64 ((s+Xe C[i]:Nat):Int)),(12,.int .i64 (i:Nat))]) (fun _=>Aa.emp) (fun _=>True) ?_ ?_
   ·(repeat refine AW.seq ?_);refine AW.block ?_;refine AW.seq_ex (ι:=Unit) (fun _=>[(6,.sl 6 (Dl es)),(7,.sl 1 (Ao I)),(9,.sl 1 (Ev C)),(11,.int .i64 ((s+Xe C[i]:Nat):Int)),(12,.int .i64 (i:Nat))]) (fun _=>Aa.emp) (fun _=>True) ?_ ?_
    ·by_cases h2:2≤z
     ·have hw:Xe C[i]=2*z-3:=by unfold Xe;rw[hz,if_pos h2]
      have h2':(2:Int)≤(z:Int):=by omega
      have a1:=Aq (2*z) (by omega);have a2:=Aq (s+2*z) (by omega);have a3:IntKind.i64.wrap (((s+2*z:Nat):Int)-3)=((s+Xe C[i]:Nat):Int):=by rw[hw,show((s+2*z:Nat):Int)-3=((s+(2*z-3):Nat):Int) by omega];exact wi (by omega)
      (repeat refine AW.seq_k fun K hK=>?_);refine AW.rg ?_;simp[-Int.natCast_add,hi,hz];try (refine hK _ rfl ?_;clear hK K)
      refine AW.yes ?_ (by simp[h2]);(repeat refine AW.seq_k fun K hK=>?_);refine AW.rg ?_;simp[-Int.natCast_mul,-Int.natCast_add,hi,hz,a1,a2,a3];try (refine hK _ rfl ?_;clear hK K)
     ·have hw:Xe C[i]=0:=by unfold Xe;rw[hz,if_neg h2]
      (repeat refine AW.seq_k fun K hK=>?_);refine AW.rg ?_;simp[-Int.natCast_add,hi,hz];try (refine hK _ rfl ?_;clear hK K)
      refine AW.no ?_ (by simp;omega);refine AW.skip ?_;simp[hw]
    rintro _ _;(repeat refine AW.seq_k fun K hK=>?_);refine AW.rg ?_;simp[-Int.natCast_add];try (refine hK _ rfl ?_;clear hK K)
    refine AW.block (AW.loopS (ι:=Nat) (fun k=>[(6,.sl 6 (Dl es)),(7,.sl 1 (Ao I)),(9,.sl 1 (Ev C)),(11,.int .i64 ((s+Xe C[i]:Nat):Int)),(12,.int .i64 (i:Nat)),(13,.int .i64 (k:Nat))]) (fun _=>Aa.emp) (fun k=>k≤i) (fun k=>i-k) 0 (by simp) rfl (by simp[-Int.natCast_add]) ?_);intro k g2;(repeat refine AW.seq_k fun K hK=>?_);refine AW.rg ?_;simp[-Int.natCast_add];try (refine hK _ rfl ?_;clear hK K)
    (repeat refine AW.seq ?_);refine AW.cs (fun hk=>?_) (fun hk=>?_) rfl<;>(try simp at hk)
    ·refine AW.skip ?_;try simp[-Int.natCast_add]
     try (refine hK _ rfl ?_;clear hK K)
     have hkC:k<C.length:=by omega
     have w2:=Aq (k+1) (by omega);have hcm:=O4 C[i] C[k] (by have:=hclen i hi;omega) (by have:=hclen k hkC;omega);have hle:=hap C[i] (List.getElem_mem hi) C[k] (List.getElem_mem hkC) fun e=>List.pairwise_iff_getElem.1 hnd k i hkC hi hk e.symm;generalize Ej C[i] C[k]=c at *;(repeat refine AW.seq ?_);refine AW.block ?_;(repeat refine AW.seq_k fun K hK=>?_);refine AW.rd [0,1,2,3,4,5,6,7,8,9] Dm ?_;simp[-Int.natCast_add,hi,hkC];try (refine hK _ rfl ?_;clear hK K)
     refine Ac.val hcm ?_;simp[-Int.natCast_add];try (refine hK _ rfl ?_;clear hK K)
     refine AW.no ?_ (by simp[-Int.natCast_add];omega);refine AW.skip ?_;try simp[-Int.natCast_add]
     try (refine hK _ rfl ?_;clear hK K)
     (repeat refine AW.seq_k fun K hK=>?_);refine AW.rg ?_;simp[-Int.natCast_add,w2];try (refine hK _ rfl ?_;clear hK K)
     exact⟨by omega,by omega⟩
    ·refine AW.exit ?_;try simp[-Int.natCast_add]
   rintro _ _;(repeat refine AW.seq_k fun K hK=>?_);refine AW.rg ?_;simp[-Int.natCast_add,w1];try (refine hK _ rfl ?_;clear hK K)
   exact⟨i+1,by omega,by omega,by rw[hst],rfl⟩
  ·refine AW.exit ?_;try simp
   rw[show i=C.length by omega,show Ta C C.length=I.length by unfold Ta;rw[List.take_length,hsum]]
 rintro _ _;refine AW.seq_ex (ι:=Unit) (fun _=>[(7,.sl 1 (Ao I)),(11,.int .i64 (I.length:Nat))]) (fun _=>Aa.emp) (fun _=>True) ?_ ?_
 ·(repeat refine AW.seq_k fun K hK=>?_);refine AW.rg ?_;simp;try (refine hK _ rfl ?_;clear hK K)
  refine AW.block (AW.loopS (ι:=Nat) (fun i=>[(6,.sl 6 (Dl es)),(7,.sl 1 (Ao I)),(9,.sl 1 (Ev C)),(11,.int .i64 (I.length:Nat)),(14,.int .i64 (i:Nat))]) (fun _=>Aa.emp) (fun i=>i≤I.length) (fun i=>I.length-i) 0 (by simp) rfl (by simp) ?_);intro i g1;(repeat refine AW.seq_k fun K hK=>?_);refine AW.rg ?_;simp;try (refine hK _ rfl ?_;clear hK K)
  (repeat refine AW.seq ?_);refine AW.cs (fun hi=>?_) (fun hi=>?_) rfl<;>(try simp at hi)
  ·refine AW.skip ?_;try simp
   try (refine hK _ rfl ?_;clear hK K)
   have w1:=Aq (i+1) (by omega);obtain⟨e,he⟩:∃e,I[i]=e:=⟨_,rfl⟩;have hmem:e∈I:=by rw[←he];exact List.getElem_mem hi
   have hel:=hIlt e hmem;have hge:¬(es.length:Int)≤(e:Int):=by omega
   obtain⟨e1,e2,_⟩:=hok e hel;have hm1:=hmet' e hmem;obtain⟨a,ha⟩:∃a,(Ae es e).1=a:=⟨_,rfl⟩;obtain⟨b,hb⟩:∃b,(Ae es e).2=b:=⟨_,rfl⟩;rw[ha]at e1;rw[hb]at e2;rw[ha,hb]at hm1;(repeat refine AW.seq ?_);refine AW.block ?_;(repeat refine AW.seq_k fun K hK=>?_);refine AW.rg ?_;simp[hi,he,hge];try (refine hK _ rfl ?_;clear hK K)
   refine AW.no ?_ (by simp);refine AW.skip ?_;try simp
   try (refine hK _ rfl ?_;clear hK K)
   (repeat refine AW.seq_k fun K hK=>?_);refine AW.rg ?_;simp[hi,he,hel,Ca,e1,e2];try (refine hK _ rfl ?_;clear hK K)
   refine Ai.intro fun b15 hb15=>?_;refine hK _ rfl ?_;clear hK K;refine AW.toEmp [(6,.sl 6 (Dl es)),(7,.sl 1 (Ao I)),(9,.sl 1 (Ev C)),(11,.int .i64 (I.length:Nat)),(14,.int .i64 (i:Nat)),(15,.rptr [.int .i64 (a:Nat),.int .i64 (b:Nat),.bool (Fm es e).sq.n1,Al (Fm es e).sq.l1,.bool (Fm es e).sq.n2,Al (Fm es e).sq.l2])] (by simp;exact .ptr b15 6 0 0 _ (.agg _) (Aa.set_same _ _ _) rfl rfl rfl) ?_;(repeat refine AW.seq_k fun K hK=>?_);refine AW.rg ?_;simp;try (refine hK _ rfl ?_;clear hK K)
   refine AW.seq_ex (ι:=Unit) (fun _=>[(6,.sl 6 (Dl es)),(7,.sl 1 (Ao I)),(9,.sl 1 (Ev C)),(11,.int .i64 (I.length:Nat)),(14,.int .i64 (i:Nat)),(15,.rptr [.int .i64 (a:Nat),.int .i64 (b:Nat),.bool (Fm es e).sq.n1,Al (Fm es e).sq.l1,.bool (Fm es e).sq.n2,Al (Fm es e).sq.l2]),(16,.int .i64 1)]) (fun _=>Aa.emp) (fun _=>True) ?_ ?_
   ·(repeat refine AW.seq_k fun K hK=>?_);refine AW.rg ?_;simp;try (refine hK _ rfl ?_;clear hK K)
    refine AW.block (AW.loopS (ι:=Nat) (fun k=>[(6,.sl 6 (Dl es)),(7,.sl 1 (Ao I)),(9,.sl 1 (Ev C)),(11,.int .i64 (I.length:Nat)),(14,.int .i64 (i:Nat)),(15,.rptr [.int .i64 (a:Nat),.int .i64 (b:Nat),.bool (Fm es e).sq.n1,Al (Fm es e).sq.l1,.bool (Fm es e).sq.n2,Al (Fm es e).sq.l2]),(16,.int .i64 ((C.take k).countP (fun c=>decide (Ej c [a,b]=2)):Nat)),(17,.int .i64 (k:Nat))]) (fun _=>Aa.emp) (fun k=>k≤C.length) (fun k=>C.length-k) 0 (by simp) rfl (by simp) ?_);intro k g2;have hcp:(C.take k).countP (fun c=>decide (Ej c [a,b]=2))≤C.length:=Nat.le_trans List.countP_le_length (by simp;omega)
    (repeat refine AW.seq_k fun K hK=>?_);refine AW.rg ?_;simp;try (refine hK _ rfl ?_;clear hK K)
    (repeat refine AW.seq ?_);refine AW.cs (fun hk=>?_) (fun hk=>?_) rfl<;>(try simp at hk)
    ·refine AW.skip ?_;try simp
     try (refine hK _ rfl ?_;clear hK K)
     have w2:=Aq (k+1) (by omega);have hcm:=O4 C[k] [a,b] (by have:=hclen k hk;omega) (by simp);have hst:(C.take (k+1)).countP (fun c=>decide (Ej c [a,b]=2))=(C.take k).countP (fun c=>decide (Ej c [a,b]=2))+if Ej C[k] [a,b]=2 then 1 else 0:=by
      rw[List.take_add_one,List.getElem?_eq_getElem hk,List.countP_append];simp[List.countP_cons]
     generalize(C.take k).countP (fun c=>decide (Ej c [a,b]=2))=d at *;generalize Ej C[k] [a,b]=c at *;have w3:=Aq (d+1) (by omega);have hab:AV.sl 1 (Ao [a,b])=.sl 1 [.int .i64 (a:Nat),.int .i64 (b:Nat)]:=rfl;rw[hab]at hcm;(repeat refine AW.seq ?_);refine AW.block ?_;(repeat refine AW.seq_k fun K hK=>?_);refine AW.rdV [124] [4,5,6,7,8,0,1,2,3,9,10] Dm ?_;simp[hk];refine Ac.val hcm ?_;simp;try (refine hK _ rfl ?_;clear hK K)
     by_cases hc2:c=2
     ·rw[if_pos hc2]at hst;refine AW.yes ?_ (by simp[hc2]);(repeat refine AW.seq_k fun K hK=>?_);refine AW.rg ?_;simp[-Int.natCast_add,w3];try (refine hK _ rfl ?_;clear hK K)
      (repeat refine AW.seq_k fun K hK=>?_);refine AW.rg ?_;simp[-Int.natCast_add,w2];try (refine hK _ rfl ?_;clear hK K)
      exact⟨k+1,by omega,by omega,by rw[hst],rfl⟩
     ·rw[if_neg hc2]at hst;refine AW.no ?_ (by simp;omega);refine AW.skip ?_;try simp
      try (refine hK _ rfl ?_;clear hK K)
      (repeat refine AW.seq_k fun K hK=>?_);refine AW.rg ?_;simp[-Int.natCast_add,w2];try (refine hK _ rfl ?_;clear hK K)
      exact⟨k+1,by omega,by omega,by rw[hst];rfl,rfl⟩
    ·refine AW.exit ?_;try simp
     rw[show k=C.length by omega,List.take_length,hm1]
   rintro _ _;(repeat refine AW.seq_k fun K hK=>?_);refine AW.rg ?_;simp;try (refine hK _ rfl ?_;clear hK K)
   refine AW.no ?_ rfl;refine AW.skip ?_;try simp
   try (refine hK _ rfl ?_;clear hK K)
   (repeat refine AW.seq_k fun K hK=>?_);refine AW.rg ?_;simp[-Int.natCast_add,w1];try (refine hK _ rfl ?_;clear hK K)
   exact⟨by omega,by omega⟩
  ·refine AW.exit ?_;try simp
 rintro _ _;(repeat refine AW.seq_k fun K hK=>?_);refine AW.rg ?_;simp;try (refine hK _ rfl ?_;clear hK K)
 exact AW.ret (Af rfl _ (.same _) ⟨rfl,rfl⟩)
end Go.Av
end
section
namespace Go.Av
open Go.Proofs
theorem Qws:Tryz.prog.underlying 40=some (.slice 124):=by kernel_rfl
theorem Qt2:Tryz.prog.underlying 124=some (.int .u32):=by kernel_rfl
theorem ty4:Tryz.prog.underlying 4=some .bool:=by kernel_rfl
theorem Qwd:Tryz.prog.cellsOf 124=1:=by kernel_rfl
theorem Qt5:Tryz.prog.cellsOf 44=4:=by kernel_rfl
theorem Qnw:Tryz.prog.cellsOf 42=2:=by kernel_rfl
theorem Qwj:Tryz.prog.cellsOf 40=1:=by kernel_rfl
theorem cl4:Tryz.prog.cellsOf 4=1:=by kernel_rfl
noncomputable def Qeu (t:TypeId):Array Field:=match Tryz.prog.underlying t with
 |some (.struct fs)=>fs
 |_=>#[]
noncomputable def Vc (t:TypeId) (i:Nat):Option (TypeId × Nat):=((Qeu t)[i]?).map fun f=>(f.type,f.offset)
theorem Qwy:Tryz.prog.underlying 44=some (.struct (Qeu 44)):=by kernel_rfl
theorem Qwm:Tryz.prog.underlying 42=some (.struct (Qeu 42)):=by kernel_rfl
theorem Qvi:Vc 44 0=some (42,0):=by kernel_rfl
theorem Qu8:Vc 44 1=some (42,2):=by kernel_rfl
theorem Qtx:Vc 42 0=some (4,0):=by kernel_rfl
theorem Quv:Vc 42 1=some (40,1):=by kernel_rfl
theorem Ji {t:TypeId} {i:Nat} {p:TypeId × Nat} (h:Vc t i=some p):∃f:Field,(Qeu t)[i]?=some f∧f.type=p.1∧f.offset=p.2:=by
 unfold Vc at h;cases hf:(Qeu t)[i]? with
 |none=>rw[hf]at h;cases h
 |some f=>rw[hf]at h;cases h;exact⟨f,rfl,rfl,rfl⟩
variable {H:Type} {enc:TypeId × Value→H} {W:World}
theorem Qb0 {a:Addr} {v:Value} (h:W.cell? a=some v):a.block<W.heap.size:=by
 unfold World.cell? at h;rcases Nat.lt_or_ge a.block W.heap.size with hl | hl
 ·exact hl
 ·rw[Array.getElem?_eq_none hl]at h;simp at h
theorem Pe {l:List Nat} {i j:Nat} {u:AV} (h:Ay (Bg l) i j=some u):j=0∧i<l.length∧u=.int .u32 (nth l i:Nat):=by
 unfold Ay Bg at h;rw[List.getElem?_map]at h;cases hi:l[i]? with
 |none=>rw[hi]at h;cases h
 |some y =>
  rw[hi]at h;have hl:=(List.getElem?_eq_some_iff.1 hi).1;cases j with
  |zero =>
   cases h;refine⟨rfl,hl,?_⟩;unfold nth;rw[List.getD_eq_getElem?_getD,hi];rfl
  |succ k=>cases h
theorem Qgz {fuel:Nat} {c:Value} {x:DataW H × List MemPlace} (h:DataW.trod enc Tryz.prog W 0 (fun _=>true) true fuel 40 [c]=some x):∃l,Lb l∧VR W (fun _=>False) (Al l) c:=by
 rcases Go.ChangeShapes.open_ints Qws Qt2 Qwd h with⟨hc,_⟩|⟨a,len,cap,zs,hc,_,hl,hm,hz,_,hcell,hwf⟩
 ·simp only[List.cons.injEq,and_true]at hc;subst hc;exact⟨[],fun y hy=>(by cases hy),.sl0 1 none 0⟩
 ·simp only[List.cons.injEq,and_true]at hc;subst hc;simp at hz;rcases Nat.eq_zero_or_pos len with h0 | h0
  ·subst h0;exact⟨[],fun y hy=>(by cases hy),.sl0 1 (some a) cap⟩
  ·have h00:=hcell 0 (by omega);have hsp:=World.cell?_spot h00;have hbl:=Qb0 h00;obtain⟨b,o,sp⟩:=a;simp[Addr.add]at hsp hbl;subst hsp;have hzl:∀i,i<len→0≤zs.getD i 0∧zs.getD i 0≤4294967295:=fun i hi=>by
    have:zs.getD i 0=zs[i]'(by omega):=by rw[List.getD_eq_getElem?_getD,List.getElem?_eq_getElem (by omega)];rfl
    rw[this];exact Go.bounds_u32 (hwf _ (List.getElem_mem _))
   refine⟨(List.range len).map fun i=>(zs.getD i 0).toNat,fun y hy=>?_,?_⟩
   ·obtain⟨i,hi,rfl⟩:=List.mem_map.1 hy;have:=hzl i (List.mem_range.1 hi);omega
   ·have e:((List.range len).map fun i=>(zs.getD i 0).toNat).length=len:=by simp
    have:=VR.sl (w:=W) (F:=fun _=>False) 1 (Bg ((List.range len).map fun i=>(zs.getD i 0).toNat)) b o cap (fun i _=>.int .u32 (zs.getD i 0)) (by simp) hbl (by simp;exact hl) (by
     intro v hv;obtain⟨y,_,rfl⟩:=List.mem_map.1 hv;rfl) ?_ ?_
    ·rw[Ka,e]at this;exact this
    ·intro i j u hu;obtain⟨rfl,q1,rfl⟩:=Pe hu;rw[e]at q1;have:=hzl i q1;have hn:nth ((List.range len).map fun i=>(zs.getD i 0).toNat) i=(zs.getD i 0).toNat:=by
      unfold nth;rw[List.getD_eq_getElem?_getD,List.getElem?_map,List.getElem?_range q1];rfl
     rw[hn,Int.toNat_of_nonneg this.1];exact .int _ _
    ·intro i j u hu;obtain⟨rfl,q1,rfl⟩:=Pe hu;rw[e]at q1;have:=hcell i (by omega);rcases Nat.eq_zero_or_pos i with h' | h'
     ·subst h';simpa[Addr.add]using this
     ·have h'':i≠0:=by omega
      simpa[Addr.add,h'']using this
set_option maxRecDepth 100000
theorem Yu {fuel:Nat} {cs:List Value} {x:DataW H × List MemPlace} (h:DataW.trod enc Tryz.prog W 0 (fun _=>true) true fuel 42 cs=some x):∃n l c,cs=[.bool n,c]∧Lb l∧VR W (fun _=>False) (Al l) c:=by
 obtain⟨xs,n,_,rfl,hl,hlen,hf⟩:=DataW.trod_struct Qwm h;rw[Qnw]at hl;obtain⟨c0,c1,rfl⟩:∃c0 c1,cs=[c0,c1]:=by
  match cs,hl with
  |[c0,c1],_=>exact⟨c0,c1,rfl⟩
 obtain⟨f0,g1,g2,g3⟩:=Ji Qtx;obtain⟨f1,k1,k2,k3⟩:=Ji Quv;have h0:=hf 0 f0 g1;have h1:=hf 1 f1 k1;simp only at g2 g3 k2 k3;rw[g2,g3,cl4]at h0;rw[k2,k3,Qwj]at h1;have hs:xs.length=2:=by rw[hlen];kernel_rfl
 obtain⟨b,hb,_⟩:=DataW.trod_bool ty4 (h0.trans (List.getElem?_eq_getElem (by omega)));obtain⟨l,hl1,hl2⟩:=Qgz (h1.trans (List.getElem?_eq_getElem (by omega)));simp at hb;exact⟨b,l,c1,by rw[hb],hl1,hl2⟩
theorem Qg2 {fuel:Nat} {cs:List Value} {x:DataW H × List MemPlace} (h:DataW.trod enc Tryz.prog W 0 (fun _=>true) true fuel 44 cs=some x):∃r:RR,r.Lb∧cs.length=4∧∀(j:Nat) (u:AV),r.av.cells[j]?=some u→∃c,cs[j]?=some c∧VR W (fun _=>False) u c:=by
 obtain⟨xs,n,_,rfl,hl,hlen,hf⟩:=DataW.trod_struct Qwy h;rw[Qt5]at hl;obtain⟨c0,c1,c2,c3,rfl⟩:∃c0 c1 c2 c3,cs=[c0,c1,c2,c3]:=by
  match cs,hl with
  |[c0,c1,c2,c3],_=>exact⟨c0,c1,c2,c3,rfl⟩
 obtain⟨f0,g1,g2,g3⟩:=Ji Qvi;obtain⟨f1,k1,k2,k3⟩:=Ji Qu8;have h0:=hf 0 f0 g1;have h1:=hf 1 f1 k1;simp only at g2 g3 k2 k3;rw[g2,g3,Qnw]at h0;rw[k2,k3,Qnw]at h1;have hs:xs.length=2:=by rw[hlen];kernel_rfl
 obtain⟨n1,l1,d1,e1,b1,v1⟩:=Yu (h0.trans (List.getElem?_eq_getElem (by omega)));obtain⟨n2,l2,d2,e2,b2,v2⟩:=Yu (h1.trans (List.getElem?_eq_getElem (by omega)));simp at e1 e2;obtain⟨rfl,rfl⟩:=e1;obtain⟨rfl,rfl⟩:=e2;refine⟨⟨n1,l1,n2,l2⟩,⟨b1,b2⟩,rfl,fun j u hu=>?_⟩
 match j,hu with
 |0,hu=>cases hu;exact⟨_,rfl,.bool _⟩
 |1,hu=>cases hu;exact⟨_,rfl,v1⟩
 |2,hu=>cases hu;exact⟨_,rfl,.bool _⟩
 |3,hu=>cases hu;exact⟨_,rfl,v2⟩
 |k+4,hu=>cases hu
end Go.Av
end
section
namespace Go.Av
open Go.Proofs
variable {H:Type} {enc:TypeId × Value→H} {W:World}
theorem Sz {α:Type} [Inhabited α] {n:Nat} {p:Nat→α→Prop} (h:∀i,i<n→∃a,p i a):∃f:Nat→α,∀i,i<n→p i (f i):=by
 classical
 exact⟨fun i=>if hi:i<n then Classical.choose (h i hi) else default,fun i hi=>by
  simp only[dif_pos hi];exact Classical.choose_spec (h i hi)⟩
theorem Qd7 (b o i j:Nat):((⟨b,o,none⟩:Addr).add i).add j=⟨b,o+(i+j),none⟩:=by
 by_cases hi:i=0
 ·subst hi;by_cases hj:j=0
  ·subst hj;simp[Addr.add]
  ·simp[Addr.add,hj]
 ·by_cases hj:j=0
  ·subst hj;simp[Addr.add,hi]
  ·simp[Addr.add,hi,hj,Nat.add_assoc]
end Go.Av
end
section
namespace Go.Av
open Go.Proofs
theorem ty22:Tryz.prog.underlying 22=some (.slice 46):=by kernel_rfl
theorem ty3:Tryz.prog.underlying 3=some (.int .i64):=by kernel_rfl
theorem Qwc:Tryz.prog.underlying 46=some (.struct (Qeu 46)):=by kernel_rfl
theorem Qt6:Tryz.prog.cellsOf 46=6:=by kernel_rfl
theorem cl3:Tryz.prog.cellsOf 3=1:=by kernel_rfl
theorem Qt3:Vc 46 0=some (3,0):=by kernel_rfl
theorem Qu3:Vc 46 1=some (3,1):=by kernel_rfl
theorem Quy:Vc 46 2=some (44,2):=by kernel_rfl
variable {H:Type} {enc:TypeId × Value→H} {W:World}
set_option maxRecDepth 100000
theorem V3 {fuel:Nat} {c:Value} {x:DataW H × List MemPlace} (h:DataW.trod enc Tryz.prog W 0 (fun _=>true) true fuel 3 [c]=some x):∃n:Int,c=.int .i64 n∧-9223372036854775808≤n∧n<9223372036854775808:=by
 obtain⟨n,h1,_,h2⟩:=DataW.trod_int ty3 h;have:=bounds_i64 h2;simp at h1;exact⟨n,h1,this.1,by omega⟩
theorem Qeh {fuel:Nat} {cs:List Value} {x:DataW H × List MemPlace} (h:DataW.trod enc Tryz.prog W 0 (fun _=>true) true fuel 46 cs=some x):∃e:RE,e.sq.Lb∧cs.length=6∧∀(j:Nat) (u:AV),e.av.cells[j]?=some u→∃c,cs[j]?=some c∧VR W (fun _=>False) u c:=by
 obtain⟨xs,n,_,rfl,hl,hlen,hf⟩:=DataW.trod_struct Qwc h;rw[Qt6]at hl;obtain⟨c0,c1,c2,c3,c4,c5,rfl⟩:∃c0 c1 c2 c3 c4 c5,cs=[c0,c1,c2,c3,c4,c5]:=by
  match cs,hl with
  |[c0,c1,c2,c3,c4,c5],_=>exact⟨c0,c1,c2,c3,c4,c5,rfl⟩
 obtain⟨f0,g1,g2,g3⟩:=Ji Qt3;obtain⟨f1,k1,k2,k3⟩:=Ji Qu3;obtain⟨f2,l1,l2,l3⟩:=Ji Quy;have h0:=hf 0 f0 g1;have h1:=hf 1 f1 k1;have h2:=hf 2 f2 l1;simp only at g2 g3 k2 k3 l2 l3;rw[g2,g3,cl3]at h0;rw[k2,k3,cl3]at h1;rw[l2,l3,Qt5]at h2;have hs:xs.length=3:=by rw[hlen];kernel_rfl
 obtain⟨a,e0,_⟩:=V3 (h0.trans (List.getElem?_eq_getElem (by omega)));obtain⟨b,e1,_⟩:=V3 (h1.trans (List.getElem?_eq_getElem (by omega)));obtain⟨r,q1,_,q3⟩:=Qg2 (h2.trans (List.getElem?_eq_getElem (by omega)));subst e0 e1;refine⟨⟨a,b,r⟩,q1,rfl,fun j u hu=>?_⟩
 match j,hu with
 |0,hu=>cases hu;exact⟨_,rfl,.int _ _⟩
 |1,hu=>cases hu;exact⟨_,rfl,.int _ _⟩
 |2,hu=>exact q3 0 u hu
 |3,hu=>exact q3 1 u hu
 |4,hu=>exact q3 2 u hu
 |5,hu=>exact q3 3 u hu
 |k+6,hu=>cases hu
theorem R9 {fuel:Nat} {c:Value} {x:DataW H × List MemPlace} (h:DataW.trod enc Tryz.prog W 0 (fun _=>true) true fuel 22 [c]=some x):∃es:List RE,S4 es∧VR W (fun _=>False) (A4 es) c:=by
 rcases Go.Deep.open_slice ty22 h with⟨hc,_⟩|⟨a,len,cap,m,n,D,Pl,hc,_,hl,hm,hmm,_,hx⟩
 ·simp only[List.cons.injEq,and_true]at hc;subst hc;exact⟨[],fun y hy=>(by cases hy),.sl0 6 none 0⟩
 ·simp only[List.cons.injEq,and_true]at hc;subst hc;simp at hmm;subst hmm;rcases Nat.eq_zero_or_pos len with h0 | h0
  ·subst h0;exact⟨[],fun y hy=>(by cases hy),.sl0 6 (some a) m⟩
  ·rw[Qt6]at hx;obtain⟨C,hC⟩:=Sz (α:=List Value) (p:=fun i cs=>W.cells? 0 (a.add (i*6)) 6=some cs∧DataW.trod enc Tryz.prog W 0 (fun _=>true) true n 46 cs=some (D i,Pl i)) (n:=len) (fun i hi=>hx i (by omega));obtain⟨R,hR⟩:=Sz (α:=RE) (n:=len) (fun i hi=>Qeh (hC i hi).2);have hcell:∀i,i<len→∀j,j<6→W.cell? ((a.add (i*6)).add j)=(C i)[j]?:=fun i hi=>(World.cells?_some (hC i hi).1).2.2;obtain⟨c00,hc00,_⟩:=(hR 0 h0).2.2 0 (.int .i64 (R 0).a) rfl;have h00:=(hcell 0 h0 0 (by omega)).trans hc00;have hsp:=World.cell?_spot h00
   have hbl:=Qb0 h00;obtain⟨b,o,sp⟩:=a;simp[Addr.add]at hsp hbl;subst hsp;have hcellAt:∀i j u,Ay (Dl ((List.range len).map R)) i j=some u→i<len∧(R i).av.cells[j]?=some u:=by
    intro i j u hu;unfold Ay Dl at hu;rw[List.map_map,List.getElem?_map]at hu;by_cases hi:i<len
    ·rw[List.getElem?_range hi]at hu;exact⟨hi,hu⟩
    ·rw[List.getElem?_eq_none (by simp;omega)]at hu;cases hu
   refine⟨(List.range len).map R,fun y hy=>?_,?_⟩
   ·obtain⟨i,hi,rfl⟩:=List.mem_map.1 hy;exact(hR i (List.mem_range.1 hi)).1
   ·have:=VR.sl (w:=W) (F:=fun _=>False) 6 (Dl ((List.range len).map R)) b o m (fun i j=>((C i)[j]?).getD (.bool false)) (by simp) hbl (by simp;exact hl) (by
     intro v hv;obtain⟨y,_,rfl⟩:=List.mem_map.1 hv;rfl) (fun i j u hu=>by
      obtain⟨hi,hu⟩:=hcellAt i j u hu;obtain⟨c,q1,q2⟩:=(hR i hi).2.2 j u hu;rw[q1];exact q2) (fun i j u hu=>by
      obtain⟨hi,hu⟩:=hcellAt i j u hu;obtain⟨c,q1,q2⟩:=(hR i hi).2.2 j u hu;have hj:j<6:=by
       have:=(List.getElem?_eq_some_iff.1 q1).1;rw[(hR i hi).2.1]at this;exact this
      have:=hcell i hi j hj;rw[Qd7,q1]at this;rw[this,q1];rfl)
    rw[Sw,List.length_map,List.length_range]at this;exact this
theorem Px {fuel:Nat} {c:Value} {x:DataW H × List MemPlace} (h:DataW.trod enc Tryz.prog W 0 (fun _=>true) true fuel 22 [c]=some x):∃es:List RE,(S4 es∧es.length<2^63)∧VR W (fun _=>False) (A4 es) c:=by
 obtain⟨r,h1,h2⟩:=R9 h;refine⟨r,⟨h1,?_⟩,h2⟩;have hmax:maxLen<2^63:=by unfold maxLen;omega
 have hlen:∀(A:Option Addr) (len cap:Nat),c=.slice A len cap→len≤maxLen→r.length<2^63:=fun A len cap hc hl=>by
  subst hc;unfold A4 at h2;generalize hr:Dl r=R at h2;have hrl:r.length=R.length:=by rw[←hr,Sw]
  rw[hrl];cases h2 with
  |sl0=>simp
  |sl=>omega
 rcases Go.Deep.open_slice ty22 h with⟨hc,_⟩|⟨a,len,cap,m,n,D,Pl,hc,_,hl,hm,_⟩
 ·simp only[List.cons.injEq,and_true]at hc;exact hlen _ _ _ hc (by omega)
 ·simp only[List.cons.injEq,and_true]at hc;exact hlen _ _ _ hc (by omega)
def vrl (W:World):List AV→List Value→Prop
 |[],[]=>True
 |x::xs,c::cs=>VR W (fun _=>False) x c∧vrl W xs cs
 |_,_=>False
theorem Qci:∀{xs:List AV} {cs:List Value},vrl W xs cs→cs.length=xs.length∧∀(j:Nat) u v,xs[j]?=some u→cs[j]?=some v→VR W (fun _=>False) u v
 |[],[],_=>⟨rfl,fun j u v h=>by cases h⟩
 |x::xs,c::cs,h=>by
  obtain⟨h1,h2⟩:=Qci h.2;refine⟨by simp[h1],fun j u v hu hv=>?_⟩
  match j,hu,hv with
  |0,hu,hv=>cases hu;cases hv;exact h.1
  |k+1,hu,hv=>exact h2 k u v hu hv
 |[],_::_,h=>h.elim
 |_::_,[],h=>h.elim
theorem Uh {f:FuncId} {xs:List AV} (hf:Aj Tryz.prog f xs Aa.emp fun v mm=>v=.bool true∧mm=Aa.emp) {cs:List Value} (hx:vrl W xs cs) :
  Calls Tryz.prog f cs.toArray W fun e W'=>e=.returned (.bool true)∧RowKit.Below W.heap.size W W':=by
 have hO:Ck (fun _=>False) Aa.emp=fun _=>False:=by funext b;simp[Ck,Aa.emp]
 obtain⟨h1,h2⟩:=Qci hx;refine(hf.2 W (fun _=>False) cs.toArray (fun b hb=>hb.elim) (fun b x hx=>by cases hx) ?_).mono ?_
 ·rw[hO];exact⟨by simpa using h1,fun j u v hu hv'=>h2 j u v hu (by simpa using hv')⟩
 ·rintro e W' ⟨v,cv,g',rfl,⟨rfl,_⟩,_,hvr,hg,_⟩;cases hvr;exact⟨rfl,⟨hg.os,hg.tape,hg.output,hg.size,fun k hk=>hg.block k hk (by simp[Aa.emp])⟩⟩
end Go.Av
end
