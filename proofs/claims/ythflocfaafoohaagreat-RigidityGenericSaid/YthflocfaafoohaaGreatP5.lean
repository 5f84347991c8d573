/- A part of the proof. -/
import Derived.Test.YthflocfaafoohaaGreatP4
import Derived.ProofKit
import Derived.OpenShut
import Derived.Deep.Slices
set_option linter.all false
set_option exponentiation.threshold 5000
set_option maxRecDepth 10000
section
namespace Go.Av
open Go.Proofs Go.Lam
theorem Rc (n:Int) (h1:-9223372036854775808≤n) (h2:n<9223372036854775808):Aj Tryz.prog 104 [.int .i64 n] Ac.emp fun v m=>v=(A3 (Gw n)).av∧m=Ac.emp:=by
 have ho:=Qf3 n 1 h1 h2 (by omega) (by omega) (by omega);have e:Rat.divInt n 1=Gw n:=rfl;rw[e,Eb]at ho;generalize Gw n=q at *;rw[D2];unfold Ix at *;refine Ad Tryz.func104 rfl rfl 11 rfl (Nat.le_of_ble_eq_true rfl) ?_;(repeat refine AW.seq_k fun K hK=>?_);refine AW.rg ?_;simp[Ak];try (refine hK _ rfl ?_;clear hK K)
 refine Af.intro fun b2 hb2=>?_;refine hK _ rfl ?_;clear hK K;(repeat refine AW.seq_k fun K hK=>?_);refine AW.rg ?_;simp;try (refine hK _ rfl ?_;clear hK K)
 refine Aa.val ho ?_;simp;refine Af.intro fun b3 hb3=>?_;simp only[An,Ay,and_true]at hb3;try simp[hb3]
 refine hK _ rfl ?_;clear hK K;(repeat refine AW.seq_k fun K hK=>?_);refine AW.rg ?_;simp[hb3];try (refine hK _ rfl ?_;clear hK K)
 exact AW.ret (Ah (vs:=[.agg [.bool (decide (q.num<0)),Am (Ao q.num.natAbs),.bool false,Am (Ao q.den)]]) [.agg [.bool (decide (q.num<0)),Am (Ao q.num.natAbs),.bool false,Am (Ao q.den)]] (by simp[hb3]) (by simp) ⟨rfl,rfl⟩)
theorem Hh (n:Int) (h1:-9223372036854775808≤n) (h2:n<9223372036854775808):Aj Tryz.prog 28 [.int .i64 n] Ac.emp fun v m=>v=(A3 (Gw n)).av∧m=Ac.emp:=by
 have ho:=Qb5 n 1 h1 h2 (by omega) (by omega) (by omega);have e:Rat.divInt n 1=Gw n:=rfl;rw[e,Eb]at ho;generalize Gw n=q at *;rw[D2];unfold Ix at *;refine Ad Tryz.func28 rfl rfl 11 rfl (Nat.le_of_ble_eq_true rfl) ?_;(repeat refine AW.seq_k fun K hK=>?_);refine AW.rg ?_;simp[Ak];try (refine hK _ rfl ?_;clear hK K)
 refine Af.intro fun b2 hb2=>?_;refine hK _ rfl ?_;clear hK K;(repeat refine AW.seq_k fun K hK=>?_);refine AW.rg ?_;simp;try (refine hK _ rfl ?_;clear hK K)
 refine Aa.val ho ?_;simp;refine Af.intro fun b3 hb3=>?_;simp only[An,Ay,and_true]at hb3;try simp[hb3]
 refine hK _ rfl ?_;clear hK K;(repeat refine AW.seq_k fun K hK=>?_);refine AW.rg ?_;simp[hb3];try (refine hK _ rfl ?_;clear hK K)
 exact AW.ret (Ah (vs:=[.agg [.bool (decide (q.num<0)),Am (Ao q.num.natAbs),.bool false,Am (Ao q.den)]]) [.agg [.bool (decide (q.num<0)),Am (Ao q.num.natAbs),.bool false,Am (Ao q.den)]] (by simp[hb3]) (by simp) ⟨rfl,rfl⟩)
theorem X6 (a b:RR) (ha:a.Lb) (hb:b.Lb) (oa:a.ok=true) (ob:b.ok=true):Aj Tryz.prog 105 [a.av,b.av] Ac.emp fun v m=>v=.bool (decide (a.q≠b.q))∧m=Ac.emp:=by
 have hc:=Qir a b ha hb oa ob;refine Ad Tryz.func105 rfl rfl 15 rfl (Nat.le_of_ble_eq_true rfl) ?_;unfold RR.av at *;(repeat refine AW.seq_k fun K hK=>?_);refine AW.rgR [2,3] ?_;simp[Ak];try (refine hK _ rfl ?_;clear hK K)
 (repeat refine AW.seq_k fun K hK=>?_);refine AW.rg ?_;simp;try (refine hK _ rfl ?_;clear hK K)
 refine Aa.pure hc ?_;rintro _ ⟨c,rfl,hc0⟩;simp;try (refine hK _ rfl ?_;clear hK K)
 (repeat refine AW.seq_k fun K hK=>?_);refine AW.rg ?_;simp;try (refine hK _ rfl ?_;clear hK K)
 exact AW.ret (Ag rfl _ (.same _) ⟨by simp[oneOrTup,hc0],rfl⟩)
end Go.Av
end
section
namespace Go.Av
open Go.Proofs Go.Lam
def zR:AV:=.agg [.bool false,.nil,.bool false,.nil]
def zrI (n i:Nat):List AV:=B5 (List.replicate i (A3 0))++List.replicate (n-i) zR
@[simp] theorem Qex {n i:Nat} (h:i≤n):(zrI n i).length=n:=by simp[zrI,B5];omega
theorem Qns {n i:Nat} (h:i<n):(zrI n i).set i (A3 0).av=zrI n (i+1):=by
 unfold zrI;rw[List.set_append_right _ _ (by simp[B5])];have e:n-i=(n-(i+1))+1:=by omega
 rw[e,List.replicate_succ,show i-(B5 (List.replicate i (A3 0))).length=0 by simp[B5]];simp only[List.set_cons_zero];simp[B5,List.replicate_succ']
theorem Rb (n:Nat) (hn:n<2^30):Aj Tryz.prog 102 [.int .i64 (n:Nat)] Ac.emp fun v M=>∃b,v=.osl b 4 0 n∧M=Ac.emp.set b ⟨44,4,B5 (List.replicate n (A3 0))⟩:=by
 have hw:=Rc 0 (by omega) (by omega);rw[H4]at hw;refine Ad Tryz.func102 rfl rfl 17 rfl (Nat.le_of_ble_eq_true rfl) ?_;(repeat refine AW.seq_k fun K hK=>?_);refine AW.rg ?_;simp[Ak];try (refine hK _ rfl ?_;clear hK K)
 (repeat refine AW.seq_k fun K hK=>?_);refine AW.rg ?_;simp[-Int.natCast_mul];try (refine hK _ rfl ?_;clear hK K)
 refine⟨by omega,Af.intro fun b hb=>?_⟩;refine hK _ rfl ?_;clear hK K;have hz:List.replicate n (AV.agg [.bool false,.nil,.bool false,.nil])=zrI n 0:=by simp[zrI,B5,zR]
 rw[hz];have hzn:zrI n n=B5 (List.replicate n (A3 0)):=by simp[zrI]
 refine AW.seq_ex (ι:=Unit) (fun _=>[(3,.osl b 4 0 n)]) (fun _=>Ac.emp.set b ⟨44,4,zrI n n⟩) (fun _=>True) ?_ ?_
 ·(repeat refine AW.seq_k fun K hK=>?_);refine AW.rg ?_;simp;try (refine hK _ rfl ?_;clear hK K)
  refine AW.block (AW.loopS (ι:=Nat) (fun i=>[(3,.osl b 4 0 n),(7,.int .i64 (n:Nat)),(8,.int .i64 (i:Nat))]) (fun i=>Ac.emp.set b ⟨44,4,zrI n i⟩)
   (fun i=>i≤n) (fun i=>n-i) 0 (by simp) rfl (by simp) ?_)
  intro i g1;(repeat refine AW.seq_k fun K hK=>?_);refine AW.rg ?_;simp;try (refine hK _ rfl ?_;clear hK K)
  (repeat refine AW.seq ?_);refine AW.cs (fun hi=>?_) (fun hi=>?_) rfl<;>(try simp at hi)
  ·refine AW.skip ?_;try simp
   try (refine hK _ rfl ?_;clear hK K)
   have w1:=Ap (i+1) (by omega);have hzl:(zrI n i).length=n:=Qex g1;(repeat refine AW.seq ?_);refine AW.block ?_;(repeat refine AW.seq_k fun K hK=>?_);refine AW.rg ?_;simp;try (refine hK _ rfl ?_;clear hK K)
   (repeat refine AW.seq_k fun K hK=>?_);refine AW.rg ?_;simp;try (refine hK _ rfl ?_;clear hK K)
   refine Aa.val hw ?_;simp[hi,hzl];rw[Qns hi];(repeat refine AW.seq_k fun K hK=>?_);refine AW.rg ?_;simp[-Int.natCast_add,w1];try (refine hK _ rfl ?_;clear hK K)
   exact⟨i+1,by omega,by omega,rfl,rfl⟩
  ·refine AW.exit ?_;try simp
   rw[show i=n by omega]
 rintro _ _;rw[hzn];(repeat refine AW.seq_k fun K hK=>?_);refine AW.rg ?_;simp;try (refine hK _ rfl ?_;clear hK K)
 refine AW.ret (B9 rfl (fun c y hy v hv=>?_) ⟨b,rfl,rfl⟩);by_cases e:c=b
 ·rw[e]at hy;simp at hy;cases hy;exact Kd _ v hv
 ·simp[Ac.set,e,Ac.emp]at hy
end Go.Av
end
section
namespace Go.Av
open Go.Proofs Go.Lam
def Io (n:Int) (es:List RE) (p:List RR):Bool:=Dd n es&&decide ((p.length:Int)=2*n)&&p.all RR.ok
def Jl (n:Int) (es:List RE) (p:List RR):AV:=.int .i64 (if Io n es p=true then 0 else 1)
theorem Zl (n:Int) (es:List RE) (p:List RR) (hb:Vv es) (hp:∀x∈p,x.Lb):Aj Tryz.prog 67 [.int .i64 n,Bb es,A4 p] Ac.emp fun v m=>v=Jl n es p∧m=Ac.emp:=by
 have hc:=P4 n es hb;refine Ad Tryz.func67 rfl rfl 31 rfl (Nat.le_of_ble_eq_true rfl) ?_;unfold Bb A4 at *;(repeat refine AW.seq_k fun K hK=>?_);refine AW.rg ?_;simp[Ak];try (refine hK _ rfl ?_;clear hK K)
 (repeat refine AW.seq_k fun K hK=>?_);refine AW.rg ?_;simp;try (refine hK _ rfl ?_;clear hK K)
 refine Aa.val hc ?_;by_cases hk:Dd n es=true;rotate_left
 ·have e1:Cz n es=.int .i64 1:=by unfold Cz;rw[if_neg hk]
  have e2:Jl n es p=.int .i64 1:=by unfold Jl Io;rw[Bool.not_eq_true]at hk;rw[hk];rfl
  simp[e1];try (refine hK _ rfl ?_;clear hK K)
  (repeat refine AW.seq_k fun K hK=>?_);refine AW.rg ?_;simp;try (refine hK _ rfl ?_;clear hK K)
  refine AW.yes ?_ rfl;(repeat refine AW.seq_k fun K hK=>?_);refine AW.rg ?_;simp;try (refine hK _ rfl ?_;clear hK K)
  exact AW.ret (Ag rfl _ (.same _) ⟨by rw[e2];rfl,rfl⟩)
 have e1:Cz n es=.int .i64 0:=by unfold Cz;rw[if_pos hk]
 obtain⟨⟨h1,h2,h3⟩,_⟩:=E2 hk;simp[e1];try (refine hK _ rfl ?_;clear hK K)
 (repeat refine AW.seq_k fun K hK=>?_);refine AW.rg ?_;simp;try (refine hK _ rfl ?_;clear hK K)
 refine AW.no ?_ rfl;refine AW.skip ?_;try simp
 try (refine hK _ rfl ?_;clear hK K)
 have w2:IntKind.i64.wrap (2*n)=2*n:=Ok (by omega);by_cases hlen:(p.length:Int)=2*n;rotate_left
 ·have e2:Jl n es p=.int .i64 1:=by unfold Jl Io;rw[decide_eq_false hlen];simp
  (repeat refine AW.seq_k fun K hK=>?_);refine AW.rg ?_;simp[w2,hlen];try (refine hK _ rfl ?_;clear hK K)
  refine AW.yes ?_ rfl;(repeat refine AW.seq_k fun K hK=>?_);refine AW.rg ?_;simp;try (refine hK _ rfl ?_;clear hK K)
  exact AW.ret (Ag rfl _ (.same _) ⟨by rw[e2];rfl,rfl⟩)
 (repeat refine AW.seq_k fun K hK=>?_);refine AW.rg ?_;simp[w2,hlen];try (refine hK _ rfl ?_;clear hK K)
 refine AW.no ?_ (by simp[hlen]);refine AW.skip ?_;try simp
 try (refine hK _ rfl ?_;clear hK K)
 refine AW.seq_ex (ι:=Unit) (fun _=>[]) (fun _=>Ac.emp) (fun _=>p.all RR.ok=true) ?_ ?_
 ·(repeat refine AW.seq_k fun K hK=>?_);refine AW.rg ?_;simp;try (refine hK _ rfl ?_;clear hK K)
  refine AW.block (AW.loopS (ι:=Nat) (fun i=>[(21,.sl 4 (B5 p)),(22,.int .i64 (p.length:Nat)),(23,.int .i64 (i:Nat))]) (fun i=>Ac.emp)
   (fun i=>i≤p.length∧(p.take i).all RR.ok=true) (fun i=>p.length-i) 0 ⟨by simp,by simp⟩ rfl (by simp) ?_)
  rintro i ⟨g1,g2⟩;(repeat refine AW.seq_k fun K hK=>?_);refine AW.rg ?_;simp;try (refine hK _ rfl ?_;clear hK K)
  (repeat refine AW.seq ?_);refine AW.cs (fun hi=>?_) (fun hi=>?_) rfl<;>(try simp at hi)
  ·refine AW.skip ?_;try simp
   try (refine hK _ rfl ?_;clear hK K)
   have w1:=Ap (i+1) (by omega);have hxm:rr p i∈p:=by rw[K8 hi];exact List.getElem_mem hi
   have hv:=F3 (rr p i) (hp _ hxm);have hst:(p.take (i+1)).all RR.ok=(rr p i).ok:=by
    rw[List.take_add_one,List.getElem?_eq_getElem hi,List.all_append,g2,K8 hi];simp
   unfold RR.av at hv;(repeat refine AW.seq ?_);refine AW.block ?_;(repeat refine AW.seq_k fun K hK=>?_);refine AW.rg ?_;simp[hi];try (refine hK _ rfl ?_;clear hK K)
   refine Af.intro fun b6 hb6=>?_;refine hK _ rfl ?_;clear hK K;refine AW.toEmp [(9,.rptr [.bool (rr p i).n1,Am (rr p i).l1,.bool (rr p i).n2,Am (rr p i).l2]),(21,.sl 4 (B5 p)),(22,.int .i64 (p.length:Nat)),(23,.int .i64 (i:Nat))] (by simp;exact H5 rfl) ?_;(repeat refine AW.seq_k fun K hK=>?_);refine AW.rg ?_;simp;try (refine hK _ rfl ?_;clear hK K)
   refine Aa.val hv ?_;simp;try (refine hK _ rfl ?_;clear hK K)
   cases hok:(rr p i).ok with
   |false =>
    have e2:Jl n es p=.int .i64 1:=by
     have:p.all RR.ok=false:=List.all_eq_false.2 ⟨rr p i,hxm,by rw[hok];simp⟩;unfold Jl Io;rw[this];simp
    refine AW.yes ?_ rfl;(repeat refine AW.seq_k fun K hK=>?_);refine AW.rg ?_;simp;try (refine hK _ rfl ?_;clear hK K)
    exact AW.ret (Ag rfl _ (.same _) ⟨by rw[e2];rfl,rfl⟩)
   |true =>
    refine AW.no ?_ rfl;refine AW.skip ?_;try simp
    try (refine hK _ rfl ?_;clear hK K)
    (repeat refine AW.seq_k fun K hK=>?_);refine AW.rg ?_;simp[-Int.natCast_add,w1];try (refine hK _ rfl ?_;clear hK K)
    exact⟨⟨by omega,by rw[hok]at hst;simpa using hst⟩,by omega⟩
  ·refine AW.exit ?_;try simp
   have:i=p.length:=by omega
   subst this;rw[List.take_length]at g2;simpa using g2
 ·rintro _ h;have e2:Jl n es p=.int .i64 0:=by unfold Jl Io;rw[hk,decide_eq_true hlen,h];rfl
  (repeat refine AW.seq_k fun K hK=>?_);refine AW.rg ?_;simp;try (refine hK _ rfl ?_;clear hK K)
  exact AW.ret (Ag rfl _ (.same _) ⟨by rw[e2];rfl,rfl⟩)
end Go.Av
end
section
namespace Go.Av
open Go.Proofs Go.Lam
def uI (a b s:Nat):Nat:=2*(if s<2 then a else b)+s % 2
def vI (a b s:Nat):Nat:=2*(if s<2 then b else a)+s % 2
def N0 (n:Nat) (p:List Rat) (a b:Nat):Nat→Option (List Rat)
 |0=>some (List.replicate (2*n) 0)
 |s+1=>(N0 n p a b s).bind fun r=>(Db (A2 p (uI a b s)) (A2 p (vI a b s))).map fun d=>r.set (uI a b s) d
def Om (n:Nat) (E:Nat→Ed) (p:List Rat):Nat→Option (List (List Rat))
 |0=>some []
 |k+1=>(Om n E p k).bind fun M=>(N0 n p (E k).1 (E k).2 4).map fun r=>M++[r]
def Tj (n:Nat) (p:List Rat):Option Nat:=(List.range n).find? fun i=>decide (1≤i)&&(decide (A2 p (2*i)≠A2 p 0) || decide (A2 p (2*i+1)≠A2 p 1))
def Pg (n:Nat) (p:List Rat):Option (List (List Rat)) :=
 let z:=List.replicate (2*n) (0:Rat)
 match Tj n p with
 |none=>some [z.set 0 1,z.set 1 1]
 |some i=>(Db (A2 p 1) (A2 p (2*i+1))).bind fun d1=>(Db (A2 p (2*i)) (A2 p 0)).map fun d2=>[z.set 0 1,z.set 1 1,(z.set (2*i) d1).set (2*i+1) d2]
def C1 (n:Nat) (r:List Rat):Prop:=r.length=2*n∧∀q∈r,Cd q
theorem C1.set {n:Nat} {r:List Rat} (h:C1 n r) (i:Nat) {d:Rat} (hd:Cd d):C1 n (r.set i d):=⟨by rw[List.length_set];exact h.1,fun q hq=>by
 rcases List.mem_or_eq_of_mem_set hq with h1|h1
 ·exact h.2 q h1
 ·rw[h1];exact hd⟩
theorem C1.zero (n:Nat):C1 n (List.replicate (2*n) 0):=⟨by simp,fun q hq=>by rw[List.eq_of_mem_replicate hq];exact Xq⟩
theorem Ik {n:Nat} {p:List Rat} {a b:Nat}:∀{s:Nat} {r:List Rat},N0 n p a b s=some r→C1 n r
 |0,r,h=>by cases h;exact C1.zero n
 |s+1,r,h=>by
  rw[N0]at h;obtain⟨r',h1,h2⟩:=Option.bind_eq_some_iff.1 h;obtain⟨d,h3,rfl⟩:=Option.map_eq_some_iff.1 h2;exact(Ik h1).set _ (Ps h3)
theorem H8 {n:Nat} {E:Nat→Ed} {p:List Rat}:∀{k:Nat} {M:List (List Rat)},Om n E p k=some M→M.length=k∧∀r∈M,C1 n r
 |0,M,h=>by cases h;simp
 |k+1,M,h=>by
  rw[Om]at h;obtain⟨M',h1,h2⟩:=Option.bind_eq_some_iff.1 h;obtain⟨r,h3,rfl⟩:=Option.map_eq_some_iff.1 h2;obtain⟨h4,h5⟩:=H8 h1;refine⟨by simp[h4],fun x hx=>?_⟩;rcases List.mem_append.1 hx with hx | hx
  ·exact h5 x hx
  ·simp at hx;subst hx;exact Ik h3
theorem Vl {n:Nat} {p:List Rat} {a b s t:Nat} (h:N0 n p a b s=none) (hst:s≤t):N0 n p a b t=none:=by
 induction t with
 |zero=>rw[show s=0 by omega]at h;exact h
 |succ t ih =>
  rcases Nat.lt_or_ge t s with h1|h1
  ·rw[show t+1=s by omega];exact h
  ·rw[N0,ih h1];rfl
theorem Vq {n:Nat} {E:Nat→Ed} {p:List Rat} {k t:Nat} (h:Om n E p k=none) (hst:k≤t):Om n E p t=none:=by
 induction t with
 |zero=>rw[show k=0 by omega]at h;exact h
 |succ t ih =>
  rcases Nat.lt_or_ge t k with h1|h1
  ·rw[show t+1=k by omega];exact h
  ·rw[Om,ih h1];rfl
end Go.Av
end
section
namespace Go.Av
open Go.Proofs Go.Lam
theorem Qma {K:Nat} {q:Rat} (h:G5 K q) (h1:1≤K):Sz K q:=by
 obtain⟨z,rfl,hz⟩:=h;exact⟨hz,h1⟩
theorem Qw {a b:Rat} (ha:G5 100 a) (hb:G5 100 b):Db a b=some (a-b):=Wl (Qma ha (by omega)) (Qma hb (by omega)) (by unfold Bh;decide +kernel)
def Jp (p:List Rat) (a b i:Nat):Rat:=if i / 2=a then A2 p i-A2 p (2*b+i % 2) else if i / 2=b then A2 p i-A2 p (2*a+i % 2) else 0
theorem Qh3 {N a b:Nat} {p:List Rat} (hp:∀i,i<2*N→G5 100 (A2 p i)) (ha:a<N) (hb:b<N) (hab:a≠b):∃r,N0 N p a b 4=some r∧∀i,i<2*N→A2 r i=Jp p a b i:=by
 have h0:∀u v,u<2*N→v<2*N→Db (A2 p u) (A2 p v)=some (A2 p u-A2 p v):=fun u v hu hv=>Qw (hp u hu) (hp v hv);have e:N0 N p a b 4=some (((((List.replicate (2*N) (0:Rat)).set (2*a) (A2 p (2*a)-A2 p (2*b))).set (2*a+1) (A2 p (2*a+1)-A2 p (2*b+1))).set (2*b) (A2 p (2*b)-A2 p (2*a))).set (2*b+1) (A2 p (2*b+1)-A2 p (2*a+1))):=by
  simp only[N0,uI,vI,Option.bind_some,Nat.lt_irrefl,if_false,Nat.reduceMod,Nat.reduceLT,if_true,Nat.zero_lt_succ,Nat.add_zero];rw[h0 (2*a) (2*b) (by omega) (by omega),Option.map_some,Option.bind_some,h0 (2*a+1) (2*b+1) (by omega) (by omega),Option.map_some,Option.bind_some,h0 (2*b) (2*a) (by omega) (by omega),Option.map_some,Option.bind_some,h0 (2*b+1) (2*a+1) (by omega) (by omega),Option.map_some]
 refine⟨_,e,fun i hi=>?_⟩;rw[E7 (by simp;omega),E7 (by simp;omega),E7 (by simp;omega),E7 (by simp;omega)];have hz:A2 (List.replicate (2*N) (0:Rat)) i=0:=by
  unfold A2;rw[List.getD_eq_getElem?_getD,List.getElem?_replicate];split<;>rfl
 rw[hz];unfold Jp;by_cases e1:i=2*b+1
 ·subst e1;rw[if_pos rfl,if_neg (by omega),if_pos (by omega),show(2*b+1) % 2=1 by omega]
 ·rw[if_neg e1];by_cases e2:i=2*b
  ·subst e2;rw[if_pos rfl,if_neg (by omega),if_pos (by omega),show(2*b) % 2=0 by omega,Nat.add_zero]
  ·rw[if_neg e2];by_cases e3:i=2*a+1
   ·subst e3;rw[if_pos rfl,if_pos (by omega),show(2*a+1) % 2=1 by omega]
   ·rw[if_neg e3];by_cases e4:i=2*a
    ·subst e4;rw[if_pos rfl,if_pos (by omega),show(2*a) % 2=0 by omega,Nat.add_zero]
    ·rw[if_neg e4,if_neg (by omega),if_neg (by omega)]
theorem Xu {N:Nat} {E:Nat→Ed} {p:List Rat} (hp:∀i,i<2*N→G5 100 (A2 p i)):∀k,(∀e,e<k→C0 N (E e))→∃M,Om N E p k=some M∧∀e i,e<k→i<2*N→A5 M e i=Jp p (E e).1 (E e).2 i
 |0,_=>⟨[],rfl,fun e i he=>by omega⟩
 |k+1,h=>by
  obtain⟨M,h1,h2⟩:=Xu hp k fun e he=>h e (by omega);obtain⟨a,b,c⟩:=h k (by omega);obtain⟨r,h3,h4⟩:=Qh3 hp a b c;have hl:=(H8 h1).1;refine⟨M++[r],by rw[Om,h1,Option.bind_some,h3];rfl,fun e i he hi=>?_⟩;unfold A5 Al;by_cases hek:e<k
  ·rw[List.getD_eq_getElem?_getD,List.getElem?_append_left (by omega),←List.getD_eq_getElem?_getD];exact h2 e i hek hi
  ·have:e=k:=by omega
   subst this;rw[List.getD_eq_getElem?_getD,List.getElem?_append_right (by omega),hl,Nat.sub_self];exact h4 i hi
theorem Qle {N a b i:Nat} {p:List Rat} (hp:∀i,i<2*N→G5 100 (A2 p i)) (ha:a<N) (hb:b<N) (hi:i<2*N):G5 256 (Jp p a b i):=by
 unfold Jp;split
 ·exact Ei (by omega) (Pr (hp i hi) (hp _ (by omega)))
 ·split
  ·exact Ei (by omega) (Pr (hp i hi) (hp _ (by omega)))
  ·exact Pj _
theorem U6 (f:Nat→Rat):∀N,A7 (2*N) f=A7 N fun v=>f (2*v)+f (2*v+1)
 |0=>rfl
 |N+1=>by
  rw[show 2*(N+1)=2*N+1+1 by omega,Bo,Bo,Bo,U6 f N];grind
theorem Qal {N a b:Nat} (p:List Rat) (ha:a<N) (hb:b<N) (hab:a≠b) (u:Nat→Rat):Cl (2*N) (Jp p a b) u=(A2 p (2*a)-A2 p (2*b))*(u (2*a)-u (2*b))+(A2 p (2*a+1)-A2 p (2*b+1))*(u (2*a+1)-u (2*b+1)):=by
 unfold Cl;rw[U6,Un ha hb hab fun v hv h1 h2=>by
  unfold Jp;rw[if_neg (by omega),if_neg (by omega),if_neg (by omega),if_neg (by omega)];grind]
 unfold Jp;rw[if_pos (by omega),if_pos (by omega),if_neg (by omega),if_pos (by omega),if_neg (by omega),if_pos (by omega),show 2*a % 2=0 by omega,show(2*a+1) % 2=1 by omega,show 2*b % 2=0 by omega,show(2*b+1) % 2=1 by omega,Nat.add_zero,Nat.add_zero];grind
def Vu (k i:Nat):Rat:=if i % 2=k then 1 else 0
def rot (p:List Rat) (v i:Nat):Rat:=if i % 2=0 then -(A2 p (i+1)-A2 p (2*v+1)) else A2 p (i-1)-A2 p (2*v)
theorem Uk {N a b:Nat} (p:List Rat) (ha:a<N) (hb:b<N) (hab:a≠b) (k:Nat):Cl (2*N) (Jp p a b) (Vu k)=0:=by
 rw[Qal p ha hb hab];unfold Vu;rw[show 2*a % 2=0 by omega,show 2*b % 2=0 by omega,show(2*a+1) % 2=1 by omega,show(2*b+1) % 2=1 by omega];grind
theorem Qbw {N a b:Nat} (p:List Rat) (ha:a<N) (hb:b<N) (hab:a≠b) (v:Nat):Cl (2*N) (Jp p a b) (rot p v)=0:=by
 rw[Qal p ha hb hab];unfold rot;rw[if_pos (by omega),if_pos (by omega),if_neg (by omega),if_neg (by omega),Nat.add_sub_cancel,Nat.add_sub_cancel];grind
theorem Qlw {w r:Nat} (c:Nat→Rat) (R:Nat→Nat→Rat) (u:Nat→Rat) (h:∀l,l<r→Cl w (R l) u=0):Cl w (fun b=>A7 r fun l=>c l*R l b) u=0:=by
 unfold Cl;have e1:A7 w (fun b=>(A7 r fun l=>c l*R l b)*u b)=A7 w fun b=>A7 r fun l=>c l*(R l b*u b):=Az fun b _=>by
  have:(A7 r fun l=>c l*R l b)*u b=u b*A7 r fun l=>c l*R l b:=by grind
  rw[this,←Df];exact Az fun l _=>by grind
 rw[e1,Qa];refine Fc fun l hl=>?_;rw[Df];have:=h l hl;unfold Cl at this;rw[this];grind
end Go.Av
end
section
namespace Go.Av
section
variable {P:Program}
def isB (o:Oper):Bool:=match o.op with
 |.build _ _=>true
 |_=>false
def Qnl (P:Program) (o:Oper) (s:St) (k:AV→Ac→Prop):Prop:=match o.op with
 |.build t parts=>∃ti n e te zs,Ai P t=some ti∧ti.cls=.array n e∧Ai P e=some te∧te.size=1∧ti.zero=.agg zs∧zs.length=n∧parts.toList.map (·.1)=List.range n ∧
   (∀p∈parts.toList,∃kd m,s.ev p.2=.int kd m)∧k (.agg (parts.toList.map fun p=>s.ev p.2)) s.m
 |_=>False
theorem Zr (n:Nat):∀(parts:List (Nat × Value)) (vs:Array Value),(∀p∈parts,p.1<n∧p.2.cells=#[p.2])→vs.size=n →
  ∃vs',Instr.fill (fun i=>some (i*1,1)) vs parts=some vs'∧vs'.size=n∧∀i:Nat,vs'[i]?=match parts.reverse.find? (fun p=>p.1==i)with | some p=>some p.2 | none=>vs[i]?
 |[],vs,_,hs=>⟨vs,rfl,hs,fun i=>rfl⟩
 |(i,v)::rest,vs,h,hs=>by
  obtain⟨h1,h2⟩:=h (i,v) (by simp);simp only at h1 h2;obtain⟨vs',e1,e2,e3⟩:=Zr n rest (vs.setIfInBounds i v) (fun p hp=>h p (by simp[hp])) (by simpa using hs);refine⟨vs',?_,e2,fun j=>?_⟩
  ·unfold Instr.fill;simp only[Nat.mul_one,h2];rw[if_neg (by simp;omega)];simpa using e1
  ·rw[e3 j,List.reverse_cons,List.find?_append];cases hf:rest.reverse.find? (fun p=>p.1==j)with
   |some p=>simp
   |none =>
    simp only[Option.none_or,List.find?_cons,List.find?_nil];by_cases hij:i=j
    ·subst hij;have hi:i<vs.size:=by rw[hs];exact h1
     simp[hi]
    ·have:(i==j)=false:=by simpa using hij
     rw[this];simp[Array.getElem?_setIfInBounds,hij]
theorem Qdh {F G:Nat→Prop} {w0 w:World} {s:St} {a:Act} (hrel:Ec F G w0 s a w) {o:Oper} (hok:Gp s.n o=true) {K:St→Prop} (h:Qnl P o s fun v m'=>K ({s with m:=m'}.put o.dst v)) (Q:Exit→Act→World→Prop):o.wp P a w (Fq F G w0 s.n K) Q:=by
 have hd:Nf s.n o.dst=true:=by unfold Gp at hok;rw[Bool.and_eq_true]at hok;exact hok.1
 have hall:∀x∈o.op.operands.toList,Gs s.n x=true:=by unfold Gp at hok;rw[Bool.and_eq_true]at hok;exact List.all_eq_true.1 hok.2
 unfold Qnl at h;split at h
 ·rename_i t parts ho
  rw[ho]at hall;obtain⟨ti,n,e,te,zs,ht,hc,hte,hz1,hzz,hzl,hidx,hone,hk⟩:=h;obtain⟨inf,d,z,hi,hdd,hz,g1,g2,g3,g4,g5⟩:=(Ev ht).get;obtain⟨ie,de,ze,hie,hde,hze,k1,k2,k3,k4,k5⟩:=(Ev hte).get;rw[←g3]at hc;cases d<;>simp only[Dq,reduceCtorEq,Ll.array.injEq]at hc
  obtain⟨rfl,rfl⟩:=hc;have hzs:z.cells.size=zs.length:=by
   have hzc:VR w F (.agg zs) z:=by rw[←hzz,←g4];exact I1 w F z
   exact(hzc.cells (by simp)).1
  have hpl:∀p∈parts.toList,∃kd m,s.ev p.2=.int kd m∧a.eval p.2=.int kd m:=fun p hp=>by
   have h1:=hrel.ev (hall p.2 (by
    have e0:(Op.build t parts).operands.toList=parts.toList.map (·.2):=by simp[Op.operands]
    rw[e0];exact List.mem_map.2 ⟨p,hp,rfl⟩))
   obtain⟨kd,m,h2⟩:=hone p hp;rw[h2]at h1;cases hv:a.eval p.2<;>rw[hv]at h1<;>cases h1
   exact⟨_,_,h2,rfl⟩
  have hlt:∀p∈parts.toList,p.1<zs.length:=fun p hp=>by
   have:p.1∈parts.toList.map (·.1):=List.mem_map.2 ⟨p,hp,rfl⟩;rw[hidx,List.mem_range]at this;omega
  have hsz:parts.toList.length=zs.length:=by
   have:=congrArg List.length hidx;rw[List.length_map,List.length_range]at this;omega
  obtain⟨vs',f1,f2,f3⟩:=Zr zs.length (parts.toList.map fun p=>(p.1,a.eval p.2)) z.cells (fun q hq=>by
   obtain⟨p,hp,rfl⟩:=List.mem_map.1 hq;obtain⟨kd,m,_,h3⟩:=hpl p hp;exact⟨hlt p hp,by simp only[h3];rfl⟩) hzs
  have hval:∀j (hj:j<parts.toList.length),vs'[j]?=some (a.eval (parts.toList[j]).2):=fun j hj=>by
   rw[f3 j];have hj1:(parts.toList[j]).1=j:=by
    have:(parts.toList.map (·.1))[j]?=some j:=by rw[hidx];rw[List.getElem?_range (by omega)]
    rw[List.getElem?_map,List.getElem?_eq_getElem hj,Option.map_some]at this;exact Option.some.inj this
   have huniq:∀i (hi:i<parts.toList.length),(parts.toList[i]).1=j→i=j:=fun i hi e=>by
    have:(parts.toList.map (·.1))[i]?=some i:=by rw[hidx];rw[List.getElem?_range (by omega)]
    rw[List.getElem?_map,List.getElem?_eq_getElem hi,Option.map_some]at this;have:=Option.some.inj this;omega
   cases hf:(parts.toList.map fun p=>(p.1,a.eval p.2)).reverse.find? (fun p=>p.1==j)with
   |none =>
    have:=List.find?_eq_none.1 hf (j,a.eval (parts.toList[j]).2) (by
     rw[List.mem_reverse,List.mem_map];exact⟨parts.toList[j],List.getElem_mem hj,by rw[hj1]⟩)
    simp at this
   |some q =>
    have h1:=List.mem_of_find?_eq_some hf;have h2:=List.find?_some hf;rw[List.mem_reverse,List.mem_map]at h1;obtain⟨p,hp,rfl⟩:=h1;obtain⟨i,hi',rfl⟩:=List.mem_iff_getElem.1 hp;have:=huniq i hi' (by simpa using h2);subst this;rfl
  refine Du (cv:=.agg vs') ?_ ⟨_,hk,I6 _ _ _,hrel.put hd (.agg _ _ (by rw[f2,List.length_map,hsz]) fun j u v hu hv=>?_)⟩
  ·have hzv:(zeroValue t).run P w=.ok z w:=by simp[zeroValue,typeInfo,hi,hz]
   unfold execOp;rw[ho];simp[Instr.build,hzv,run_underlying hdd,Fs hie,k1,hz1];simp only[Nat.mul_one]at f1;rw[f1];simp
  ·rw[List.getElem?_map]at hu;obtain⟨p,hp,rfl⟩:=Option.map_eq_some_iff.1 hu;obtain⟨hj,rfl⟩:=List.getElem?_eq_some_iff.1 hp;rw[hval j hj]at hv;cases hv;obtain⟨kd,m,h2,h3⟩:=hpl _ (List.getElem_mem hj);rw[h2,h3];exact .int kd m
 ·exact h.elim
def Ol (P:Program) (cf:D7) (o:Oper) (K:St→Prop) (s:St):Prop:=if isB o=true then Qnl P o s fun v m'=>K ({s with m:=m'}.put o.dst v) else E5 P cf o K s
def Nd (P:Program) (cf:D7):List Oper→(St→Prop)→St→Prop
 |[],K,s=>K s
 |o::rest,K,s=>o.guard=none∧Ol P cf o (Nd P cf rest K) s
theorem Qdy {F G:Nat→Prop} {w0 w:World} {s:St} {a:Act} (hrel:Ec F G w0 s a w) {cf:D7} (hav:∀b,cf.av b→b<w.heap.size) {o:Oper} (hok:Gp s.n o=true) {K:St→Prop} (h:Ol P cf o K s) (Q:Exit→Act→World→Prop):o.wp P a w (Fq F G w0 s.n K) Q:=by
 unfold Ol at h;split at h
 ·exact Qdh hrel hok h Q
 ·exact Mg hrel hav hok h Q
theorem Rw {F G:Nat→Prop} {w0:World} {cf:D7} (hcf:∀b,¬cf.av b) {ops:Array Oper} {K:St→Prop} {QQ:Exit→Act→World→Prop} (n:Nat) (hQ:∀a w,Fq F G w0 n K a w→QQ .normal a w) :
  ∀(l:List Oper) (s:St) (a:Act) (w:World),s.n=n→(∀o∈l,(Gp n o&&I5 ops n o)=true)→Ec F G w0 s a w→Nd P cf l K s→wpList P ops QQ l a w
 |[],s,a,w,hn,_,hr,hk=>hQ a w ⟨s,hk,hn,hr⟩
 |o::rest,s,a,w,hn,hok,hr,hk=>by
  have ho:=hok o (by simp);rw[Bool.and_eq_true]at ho;have hrest:∀o∈rest,(Gp n o&&I5 ops n o)=true:=fun x hx=>hok x (by simp[hx]);have hmono:∀{s:St} {a:Act} {w:World},s.n=n→Fq F G w0 s.n (Nd P cf rest K) a w→wpList P ops QQ rest a w:=by
   rintro s a w hn ⟨s',h1,h2,h3⟩;exact Rw hcf n hQ rest s' a w (h2.trans hn) hrest h3 h1
  have hop:Ec F G w0 s a w→Ol P cf o (Nd P cf rest K) s→o.wp P a w (wpList P ops QQ rest) QQ:=by
   intro hr hk;have:=Qdy hr (fun b hb=>(hcf b hb).elim) (by rw[hn];exact ho.1) hk QQ;unfold Oper.wp at this ⊢
   revert this
   generalize(execOp a.eval o).run P w=res;intro this;have hm:∀a w,Fq F G w0 s.n (Nd P cf rest K) a w→wpList P ops QQ rest a w:=fun a w h=>hmono hn h;unfold Oper.upon at this ⊢;split at this<;>first
    |exact hm _ _ this
    |(refine Calls.mono this ?_;intro e w' h;cases e<;>first | exact hm _ _ h | exact h)
    |(refine Rows.mono this ?_;intro e w' h;exact hm _ _ h)
    |exact this
    |exact this.elim
  unfold wpList;unfold Nd at hk;rw[if_pos (by simp[Region.wanted,hk.1])];exact .inl (hop hr hk.2)
theorem AW.rgB {Q:Exit→St→Prop} {s:St} {id:Nat} {ops:Array Oper} (ro:List Nat) (h:Nd P (D7.txt (roL ro)) ops.toList (Q .normal) s) (hok:B3 s.n ops=true:=by kernel_rfl):AW P (.region id ops false) Q s:=by
 intro F G w0 a w hr;refine wp_region_list (Rw (F:=F) (G:=G) (w0:=w0) (cf:=D7.txt (roL ro)) (fun _ h=>h) s.n (K:=Q .normal) (fun a w h=>h) ops.toList s a w rfl (fun o ho=>?_) hr h);unfold B3 at hok;exact List.all_eq_true.1 hok o ho
@[simp] theorem Qvi (cf:D7) (K:St→Prop) (s:St):Nd P cf [] K s=K s:=(rfl)
@[simp] theorem Qur (cf:D7) (d:Option Tmp) (op:Op) (t:TypeId) (p:String) (a:Array Edge) (l:List Oper) (K:St→Prop) (s:St) :
  Nd P cf ({dst:=d,op:=op,type:=t,pos:=p,after:=a,guard:=none}::l) K s↔Ol P cf {dst:=d,op:=op,type:=t,pos:=p,after:=a,guard:=none} (Nd P cf l K) s:=by
 show(_∧_)↔_
 simp
@[simp] theorem Qxo (cf:D7) (K:St→Prop) (s:St) (d:Option Tmp) (x:Operand) (ty:TypeId) (p:String) (a:Array Edge) (g:Option (Nat × Bool)):Ol P cf ⟨d,.move x,ty,p,a,g⟩ K s=E5 P cf ⟨d,.move x,ty,p,a,g⟩ K s:=(rfl)
@[simp] theorem Qq5 (cf:D7) (K:St→Prop) (s:St) (d:Option Tmp) (x:Operand) (ty:TypeId) (p:String) (a:Array Edge) (g:Option (Nat × Bool)):Ol P cf ⟨d,.assign x,ty,p,a,g⟩ K s=E5 P cf ⟨d,.assign x,ty,p,a,g⟩ K s:=(rfl)
@[simp] theorem Qs3 (cf:D7) (K:St→Prop) (s:St) (d:Option Tmp) (o:BinOp) (t t':TypeId) (x y:Operand) (ty:TypeId) (p:String) (a:Array Edge) (g:Option (Nat × Bool)):Ol P cf ⟨d,.binOp o t x y t',ty,p,a,g⟩ K s=E5 P cf ⟨d,.binOp o t x y t',ty,p,a,g⟩ K s:=(rfl)
@[simp] theorem Qvj (cf:D7) (K:St→Prop) (s:St) (d:Option Tmp) (t:TypeId) (x:Operand) (ty:TypeId) (p:String) (a:Array Edge) (g:Option (Nat × Bool)):Ol P cf ⟨d,.load t x,ty,p,a,g⟩ K s=E5 P cf ⟨d,.load t x,ty,p,a,g⟩ K s:=(rfl)
@[simp] theorem Qj0 (cf:D7) (K:St→Prop) (s:St) (d:Option Tmp) (t:TypeId) (x:Operand) (i:Nat) (ty:TypeId) (p:String) (a:Array Edge) (g:Option (Nat × Bool)):Ol P cf ⟨d,.fieldAddr t x i,ty,p,a,g⟩ K s=E5 P cf ⟨d,.fieldAddr t x i,ty,p,a,g⟩ K s:=(rfl)
@[simp] theorem Qi7 (cf:D7) (K:St→Prop) (s:St) (d:Option Tmp) (t:TypeId) (n:Nat) (ps:Array (Nat × Operand)) (ty:TypeId) (p:String) (a:Array Edge) (g:Option (Nat × Bool)):Ol P cf ⟨d,.buildSlice t n ps,ty,p,a,g⟩ K s=E5 P cf ⟨d,.buildSlice t n ps,ty,p,a,g⟩ K s:=(rfl)
@[simp] theorem Qw4 (cf:D7) (K:St→Prop) (s:St) (d:Option Tmp) (c:Call) (ty:TypeId) (p:String) (a:Array Edge) (g:Option (Nat × Bool)):Ol P cf ⟨d,.call c,ty,p,a,g⟩ K s=E5 P cf ⟨d,.call c,ty,p,a,g⟩ K s:=(rfl)
@[simp] theorem Qs8 (cf:D7) (K:St→Prop) (s:St) (d:Option Tmp) (t ty:TypeId) (parts:Array (Nat × Operand)) (p:String) (a:Array Edge) (g:Option (Nat × Bool)):Ol P cf ⟨d,.build t parts,ty,p,a,g⟩ K s↔∃ti n e te zs,Ai P t=some ti∧ti.cls=.array n e∧Ai P e=some te∧te.size=1∧ti.zero=.agg zs∧zs.length=n∧parts.toList.map (·.1)=List.range n ∧
   (∀p∈parts.toList,∃kd m,s.ev p.2=.int kd m)∧Jq K s d (.agg (parts.toList.map fun p=>s.ev p.2)) s.m:=by
 unfold Ol Qnl;simp only[isB,if_true];exact Iff.rfl
end
end Go.Av
end
section
namespace Go.Av
open Go.Proofs Go.Lam
def eqB (w:Nat) (M:List (List Rat)):List AV:=(Cj M).map A4++List.replicate (w-M.length) .nil
def eqR (n:Nat) (es:List RE) (p:List Rat) (v:AV) (m:Ac):Prop:=match Om n (Ae es) p es.length with
 |some M=>∃B,v=.tup [.osl B 1 0 es.length,.int .i64 0]∧m=Ac.emp.set B ⟨51,1,(Cj M).map A4⟩
 |none=>v=.tup [Bc [],.int .i64 2]∧m=Ac.emp
theorem U3 (N:Nat) (es:List RE) (p:List Rat) (hN:1≤N) (hN12:N≤12) (hok:Li N es) (h3:es.length≤40) (hp:C1 N p):Aj Tryz.prog 68 [.int .i64 (N:Nat),Bb es,A4 (p.map A3)] Ac.emp (eqR N es p):=by
 have hzr:=Rb (2*N) (by omega);have w0:=Ap (2*N) (by omega);refine Ad Tryz.func68 rfl rfl 89 rfl (Nat.le_of_ble_eq_true rfl) ?_;unfold Bb A4 at *;(repeat refine AW.seq_k fun K hK=>?_);refine AW.rg ?_;simp[Ak];try (refine hK _ rfl ?_;clear hK K)
 (repeat refine AW.seq_k fun K hK=>?_);refine AW.rg ?_;simp;try (refine hK _ rfl ?_;clear hK K)
 refine⟨by omega,Af.intro fun B hB=>?_⟩;refine hK _ rfl ?_;clear hK K;have hB0:List.replicate es.length AV.nil=eqB es.length []:=by simp[eqB,Cj]
 rw[hB0];refine AW.seq_ex (ι:=List (List Rat)) (fun M=>[(8,.osl B 1 0 es.length)]) (fun M=>Ac.emp.set B ⟨51,1,eqB es.length M⟩) (fun M=>Om N (Ae es) p es.length=some M) ?_ ?_
 ·(repeat refine AW.seq_k fun K hK=>?_);refine AW.rg ?_;simp;try (refine hK _ rfl ?_;clear hK K)
  refine AW.block (AW.loopS (ι:=List (List Rat) × Nat) (fun z=>[(0,.int .i64 (N:Nat)),(1,.sl 6 (D3 es)),(2,.sl 4 (B5 (p.map A3))),(8,.osl B 1 0 es.length),(20,.sl 6 (D3 es)),(21,.int .i64 (es.length:Nat)),(22,.int .i64 (z.2:Nat))]) (fun z=>Ac.emp.set B ⟨51,1,eqB es.length z.1⟩)
   (fun z=>z.2≤es.length∧Om N (Ae es) p z.2=some z.1) (fun z=>es.length-z.2) ([],0) ⟨by simp,rfl⟩ rfl (by simp) ?_)
  rintro⟨M,i⟩ ⟨g1,g2⟩;simp only at g1 g2;obtain⟨gl,gg⟩:=H8 g2;(repeat refine AW.seq_k fun K hK=>?_);refine AW.rg ?_;simp;try (refine hK _ rfl ?_;clear hK K)
  (repeat refine AW.seq ?_);refine AW.cs (fun hi=>?_) (fun hi=>?_) rfl<;>(try simp at hi)
  ·refine AW.skip ?_;try simp
   try (refine hK _ rfl ?_;clear hK K)
   have w1:=Ap (i+1) (by omega);obtain⟨e1,e2,e3⟩:=hok i hi;obtain⟨a,ha⟩:∃a,(Ae es i).1=a:=⟨_,rfl⟩;obtain⟨b,hb⟩:∃b,(Ae es i).2=b:=⟨_,rfl⟩;have hsc:Om N (Ae es) p (i+1)=(N0 N p a b 4).map fun r=>M++[r]:=by rw[Om,g2,ha,hb];rfl
   rw[ha]at e1;rw[hb]at e2;have han:a<N:=ha ▸ e3.1;have hbn:b<N:=hb ▸ e3.2.1;(repeat refine AW.seq ?_);refine AW.block ?_;(repeat refine AW.seq_k fun K hK=>?_);refine AW.rg ?_;simp[hi,Ck,e1,e2];try (refine hK _ rfl ?_;clear hK K)
   refine Af.intro fun b10 hb10=>?_;refine hK _ rfl ?_;clear hK K;have ones0:∀c y,Ac.emp.set B ⟨51,1,eqB es.length M⟩ c=some y→∀v∈y.l,v.cells.all AV.one=true:=by
    intro c y hy v hv;by_cases e:c=B
    ·rw[e,Ac.set_same]at hy;cases hy;unfold eqB at hv;rcases List.mem_append.1 hv with hv | hv
     ·obtain⟨x,_,rfl⟩:=List.mem_map.1 hv;rfl
     ·rw[List.eq_of_mem_replicate hv];rfl
    ·rw[Ac.set_other _ _ e]at hy;cases hy
   generalize hM0:Ac.emp.set B ⟨51,1,eqB es.length M⟩=M0 at *;refine AW.turn [(0,.int .i64 (N:Nat)),(1,.sl 6 (D3 es)),(2,.sl 4 (B5 (p.map A3))),(8,.osl B 1 0 es.length),(9,.int .i64 (i:Nat)),(10,.rptr [.int .i64 (a:Nat),.int .i64 (b:Nat),.bool (H1 es i).sq.n1,Am (H1 es i).sq.l1,.bool (H1 es i).sq.n2,Am (H1 es i).sq.l2]),(20,.sl 6 (D3 es)),(21,.int .i64 (es.length:Nat)),(22,.int .i64 (i:Nat))] M0 (Bn.drop hb10 ones0)
    (by simp;exact .ptr b10 6 0 0 ⟨46,6,[.agg [.int .i64 (a:Nat),.int .i64 (b:Nat),.bool (H1 es i).sq.n1,Am (H1 es i).sq.l1,.bool (H1 es i).sq.n2,Am (H1 es i).sq.l2]]⟩ (.agg [.int .i64 (a:Nat),.int .i64 (b:Nat),.bool (H1 es i).sq.n1,Am (H1 es i).sq.l1,.bool (H1 es i).sq.n2,Am (H1 es i).sq.l2]) (Ac.set_same _ _ _) hb10 rfl rfl) ?_
   (repeat refine AW.seq_k fun K hK=>?_);refine AW.rg ?_;simp[-Int.natCast_mul,w0];try (refine hK _ rfl ?_;clear hK K)
   refine Aa.make (R:=fun b v x=>v=.osl b 4 0 (2*N)∧x=⟨44,4,B5 (List.replicate (2*N) (A3 0))⟩) (hzr.mono fun v m ⟨b,h1,h2⟩=>⟨b,_,⟨h1,rfl⟩,h2⟩) ?_;rintro br _ _ ⟨rfl,rfl⟩ hbr _;simp[-Int.natCast_mul];try (refine hK _ rfl ?_;clear hK K)
   have hz0:B5 (List.replicate (2*N) (A3 0))=B5 ((List.replicate (2*N) (0:Rat)).map A3):=by simp
   rw[hz0];have wa:=Ap (2*a) (by omega);have wb:=Ap (2*b) (by omega);refine AW.seq_ex (ι:=List Rat) (fun _=>[(0,.int .i64 (N:Nat)),(1,.sl 6 (D3 es)),(2,.sl 4 (B5 (p.map A3))),(8,.osl B 1 0 es.length),(9,.int .i64 (i:Nat)),(11,.osl br 4 0 (2*N)),(20,.sl 6 (D3 es)),(21,.int .i64 (es.length:Nat)),(22,.int .i64 (i:Nat))]) (fun r=>M0.set br ⟨44,4,B5 (r.map A3)⟩) (fun r=>N0 N p a b 4=some r) ?_ ?_
   ·(repeat refine AW.seq_k fun K hK=>?_);refine AW.rgB [44] ?_;simp[-Int.natCast_mul,wa,wb];refine⟨2,3,⟨rfl,rfl⟩,_,ti3,rfl,rfl,rfl,2,3,⟨rfl,rfl⟩,_,ti3,rfl,rfl,rfl,?_⟩;try (refine hK _ rfl ?_;clear hK K)
    refine AW.block (AW.loopS (ι:=List Rat × Nat) (fun z=>[(0,.int .i64 (N:Nat)),(1,.sl 6 (D3 es)),(2,.sl 4 (B5 (p.map A3))),(8,.osl B 1 0 es.length),(9,.int .i64 (i:Nat)),(11,.osl br 4 0 (2*N)),(20,.sl 6 (D3 es)),(21,.int .i64 (es.length:Nat)),(22,.int .i64 (i:Nat)),(44,.sl 2 [.agg [.int .i64 ((2*a:Nat):Int),.int .i64 ((2*b:Nat):Int)],.agg [.int .i64 ((2*b:Nat):Int),.int .i64 ((2*a:Nat):Int)]]),(45,.int .i64 2),(46,.int .i64 (z.2:Nat))]) (fun z=>M0.set br ⟨44,4,B5 (z.1.map A3)⟩) (fun z=>z.2≤2∧N0 N p a b (2*z.2)=some z.1) (fun z=>2-z.2)
     (List.replicate (2*N) 0,0) ⟨by simp,rfl⟩ (by simp) (by simp[-Int.natCast_mul]) ?_)
    rintro⟨r,t⟩ ⟨k1,k2⟩;simp only at k1 k2;(repeat refine AW.seq_k fun K hK=>?_);refine AW.rg ?_;simp[-Int.natCast_mul];try (refine hK _ rfl ?_;clear hK K)
    (repeat refine AW.seq ?_);refine AW.cs (fun ht=>?_) (fun ht=>?_) rfl<;>(try simp at ht)
    ·refine AW.skip ?_;try simp[-Int.natCast_mul]
     try (refine hK _ rfl ?_;clear hK K)
     have wt:=Ap (t+1) (by omega);obtain⟨u,hu⟩:∃u,(if t<1 then 2*a else 2*b)=u:=⟨_,rfl⟩;obtain⟨v,hv⟩:∃v,(if t<1 then 2*b else 2*a)=v:=⟨_,rfl⟩;have hpr:∀h:t<[AV.agg [.int .i64 ((2*a:Nat):Int),.int .i64 ((2*b:Nat):Int)],AV.agg [.int .i64 ((2*b:Nat):Int),.int .i64 ((2*a:Nat):Int)]].length,[AV.agg [.int .i64 ((2*a:Nat):Int),.int .i64 ((2*b:Nat):Int)],AV.agg [.int .i64 ((2*b:Nat):Int),.int .i64 ((2*a:Nat):Int)]][t]=.agg [.int .i64 (u:Nat),.int .i64 (v:Nat)]:=fun h=>by
      rcases(by omega:t=0∨t=1)with rfl|rfl
      ·rw[←hu,←hv];rfl
      ·rw[←hu,←hv];rfl
     generalize hprs:[AV.agg [.int .i64 ((2*a:Nat):Int),.int .i64 ((2*b:Nat):Int)],AV.agg [.int .i64 ((2*b:Nat):Int),.int .i64 ((2*a:Nat):Int)]]=PRS at hpr ⊢;have hprl:PRS.length=2:=by rw[←hprs];rfl
     (repeat refine AW.seq ?_);refine AW.block ?_;(repeat refine AW.seq_k fun K hK=>?_);refine AW.rg ?_;simp[ht,hprl,hpr,Ll.agg];try (refine hK _ rfl ?_;clear hK K)
     refine Af.intro fun b13 hb13=>?_;refine hK _ rfl ?_;clear hK K;have ones1:∀c y,M0.set br ⟨44,4,B5 (r.map A3)⟩ c=some y→∀v∈y.l,v.cells.all AV.one=true:=by
      intro c y hy v hv;by_cases e:c=br
      ·rw[e,Ac.set_same]at hy;cases hy;exact Kd _ v hv
      ·rw[Ac.set_other _ _ e]at hy;exact ones0 c y hy v hv
     refine AW.turn [(0,.int .i64 (N:Nat)),(1,.sl 6 (D3 es)),(2,.sl 4 (B5 (p.map A3))),(8,.osl B 1 0 es.length),(9,.int .i64 (i:Nat)),(11,.osl br 4 0 (2*N)),(20,.sl 6 (D3 es)),(21,.int .i64 (es.length:Nat)),(22,.int .i64 (i:Nat)),(13,.rptr [.int .i64 (u:Nat),.int .i64 (v:Nat)]),(44,.sl 2 PRS),(45,.int .i64 2),(46,.int .i64 (t:Nat))] (M0.set br ⟨44,4,B5 (r.map A3)⟩) (Bn.drop hb13 ones1)
      (by simp;exact .ptr b13 2 0 0 ⟨121,2,[.agg [.int .i64 (u:Nat),.int .i64 (v:Nat)]]⟩ (.agg [.int .i64 (u:Nat),.int .i64 (v:Nat)]) (Ac.set_same _ _ _) hb13 rfl rfl) ?_
     (repeat refine AW.seq_k fun K hK=>?_);refine AW.rg ?_;simp;try (refine hK _ rfl ?_;clear hK K)
     refine AW.block (AW.loopS (ι:=List Rat × Nat) (fun z=>[(0,.int .i64 (N:Nat)),(1,.sl 6 (D3 es)),(2,.sl 4 (B5 (p.map A3))),(8,.osl B 1 0 es.length),(9,.int .i64 (i:Nat)),(11,.osl br 4 0 (2*N)),(20,.sl 6 (D3 es)),(21,.int .i64 (es.length:Nat)),(22,.int .i64 (i:Nat)),(13,.rptr [.int .i64 (u:Nat),.int .i64 (v:Nat)]),(44,.sl 2 PRS),(45,.int .i64 2),(46,.int .i64 (t:Nat)),(50,.int .i64 (z.2:Nat))]) (fun z=>M0.set br ⟨44,4,B5 (z.1.map A3)⟩) (fun z=>z.2≤2∧N0 N p a b (2*t+z.2)=some z.1) (fun z=>2-z.2)
      (r,0) ⟨by simp,k2⟩ rfl (by simp) ?_)
     rintro⟨r,k⟩ ⟨j1,j2⟩;simp only at j1 j2;(repeat refine AW.seq_k fun K hK=>?_);refine AW.rg ?_;simp;try (refine hK _ rfl ?_;clear hK K)
     (repeat refine AW.seq ?_);refine AW.cs (fun hk=>?_) (fun hk=>?_) rfl<;>(try simp at hk)
     ·refine AW.skip ?_;try simp
      try (refine hK _ rfl ?_;clear hK K)
      have wk:=Ap (k+1) (by omega);have hul:u+k<2*N:=by rw[←hu];split<;>omega
      have hvl:v+k<2*N:=by rw[←hv];split<;>omega
      have wu:=Ap (u+k) (by omega);have wv:=Ap (v+k) (by omega);have hpl:p.length=2*N:=hp.1;have hg:∀i,i<2*N→Cd (A2 p i):=fun i hi=>by
       unfold A2;rw[List.getD_eq_getElem?_getD,List.getElem?_eq_getElem (by omega)];exact hp.2 _ (List.getElem_mem _)
      have hsu:=Ml (A2 p (u+k)) (A2 p (v+k)) (hg _ hul) (hg _ hvl);have hrr:∀i,i<2*N→rr (p.map A3) i=A3 (A2 p i):=fun i hi=>by
       rw[K8 (by simp;omega)];unfold A2;simp[hpl,hi]
      (repeat refine AW.seq ?_);refine AW.block ?_;(repeat refine AW.seq_k fun K hK=>?_);refine AW.rg ?_;simp;try (refine hK _ rfl ?_;clear hK K)
      (repeat refine AW.seq_k fun K hK=>?_);refine AW.rd [0,1,2,3,4,5,6,7,8,9,10,11,12,13,14,15,16,17,18,19,20] Ds ?_;simp[-Int.natCast_mul,-Int.natCast_add,wu,wv,hul,hvl,hpl,hrr];cases hd:Db (A2 p (u+k)) (A2 p (v+k))with
      |none =>
       rw[hd,←D2,←D2,Eb]at hsu;unfold RR.av Cn at hsu;refine Aa.val hsu ?_;simp[-Int.natCast_add];refine Af.intro fun b15 hb15=>?_;refine hK _ rfl ?_;clear hK K;(repeat refine AW.seq_k fun K hK=>?_);refine AW.rg ?_;simp[-Int.natCast_add];try (refine hK _ rfl ?_;clear hK K)
       refine AW.yes ?_ rfl;(repeat refine AW.seq_k fun K hK=>?_);refine AW.rg ?_;simp[-Int.natCast_add];try (refine hK _ rfl ?_;clear hK K)
       have hno:eqR N es p (.tup [Bc [],.int .i64 2]) Ac.emp:=by
        have hui:uI a b (2*t+k)=u+k:=by unfold uI;rw[←hu];split<;>split<;>omega
        have hvi:vI a b (2*t+k)=v+k:=by unfold vI;rw[←hv];split<;>split<;>omega
        have hs1:N0 N p a b (2*t+k+1)=none:=by rw[N0,j2,hui,hvi,Option.bind_some,hd];rfl
        have hs4:=Vl (t:=4) hs1 (by omega);have hm:=Vq (t:=es.length) (show Om N (Ae es) p (i+1)=none by rw[hsc,hs4];rfl) (by omega);unfold eqR;rw[hm];exact⟨rfl,rfl⟩
       exact AW.ret (Ah [Bc [],.int .i64 2] rfl ⟨.nilsl 1,.same _,trivial⟩ hno)
      |some d =>
       rw[hd,←D2,←D2,Eb,←D2]at hsu;unfold RR.av at hsu;refine Aa.val hsu ?_;simp[-Int.natCast_add];refine Af.intro fun b15 hb15=>?_;refine hK _ rfl ?_;clear hK K;have hui:uI a b (2*t+k)=u+k:=by unfold uI;rw[←hu];split<;>split<;>omega
       have hvi:vI a b (2*t+k)=v+k:=by unfold vI;rw[←hv];split<;>split<;>omega
       have hst:N0 N p a b (2*t+(k+1))=some (r.set (u+k) d):=by
        rw[show 2*t+(k+1)=(2*t+k)+1 by omega,N0,j2,hui,hvi,Option.bind_some,hd];rfl
       have ones2:∀c y,M0.set br ⟨44,4,B5 (r.map A3)⟩ c=some y→∀v∈y.l,v.cells.all AV.one=true:=by
        intro c y hy v hv;by_cases e:c=br
        ·rw[e,Ac.set_same]at hy;cases hy;exact Kd _ v hv
        ·rw[Ac.set_other _ _ e]at hy;exact ones0 c y hy v hv
       have hrl:(B5 (r.map A3)).length=2*N:=by simp[B5];exact(Ik j2).1
       refine AW.turn [(0,.int .i64 (N:Nat)),(1,.sl 6 (D3 es)),(2,.sl 4 (B5 (p.map A3))),(8,.osl B 1 0 es.length),(9,.int .i64 (i:Nat)),(11,.osl br 4 0 (2*N)),(20,.sl 6 (D3 es)),(21,.int .i64 (es.length:Nat)),(22,.int .i64 (i:Nat)),(13,.rptr [.int .i64 (u:Nat),.int .i64 (v:Nat)]),(14,.int .i64 (k:Nat)),(15,.rptr [.bool (A3 d).n1,Am (A3 d).l1,.bool (A3 d).n2,Am (A3 d).l2]),(16,.int .i64 0),(44,.sl 2 PRS),(45,.int .i64 2),(46,.int .i64 (t:Nat)),(50,.int .i64 (k:Nat))] (M0.set br ⟨44,4,B5 (r.map A3)⟩) (Bn.drop hb15 ones2)
        (by simp[-Int.natCast_add];exact H5 hb15) ?_
       (repeat refine AW.seq_k fun K hK=>?_);refine AW.rg ?_;simp;try (refine hK _ rfl ?_;clear hK K)
       refine AW.no ?_ rfl;refine AW.skip ?_;try simp
       try (refine hK _ rfl ?_;clear hK K)
       (repeat refine AW.seq_k fun K hK=>?_);refine AW.rg ?_;simp[-Int.natCast_mul,-Int.natCast_add,wu,hul,hrl];try (refine hK _ rfl ?_;clear hK K)
       have hset:(B5 (r.map A3)).set (u+k) (.agg [.bool (A3 d).n1,Am (A3 d).l1,.bool (A3 d).n2,Am (A3 d).l2])=B5 ((r.set (u+k) d).map A3):=by
        unfold B5;rw[List.map_set,List.map_set];rfl
       rw[hset];(repeat refine AW.seq_k fun K hK=>?_);refine AW.rg ?_;simp[-Int.natCast_add,wk];try (refine hK _ rfl ?_;clear hK K)
       exact⟨r.set (u+k) d,k+1,⟨by omega,hst⟩,by omega,by rw[List.map_set],rfl⟩
     ·refine AW.exit ?_;try simp
      have:k=2:=by omega
      subst this;(repeat refine AW.seq_k fun K hK=>?_);refine AW.rg ?_;simp[-Int.natCast_add,wt];try (refine hK _ rfl ?_;clear hK K)
      exact⟨r,t+1,⟨by omega,by rw[show 2*(t+1)=2*t+2 by omega];exact j2⟩,by omega,rfl,rfl⟩
    ·refine AW.exit ?_;try simp[-Int.natCast_mul]
     have:t=2:=by omega
     subst this;exact⟨r,k2,rfl⟩
   rintro r hr;have hrl:(B5 (r.map A3)).length=2*N:=by simp[B5];exact(Ik hr).1
   have hsr:Om N (Ae es) p (i+1)=some (M++[r]):=by rw[hsc,hr];rfl
   have hbl:(eqB es.length M).length=es.length:=by simp[eqB,Cj,gl];omega
   have hpush:(eqB es.length M).set i (.sl 4 (B5 (r.map A3)))=eqB es.length (M++[r]):=by
    unfold eqB;rw[List.set_append_right _ _ (by simp[Cj,gl]),show i-((Cj M).map A4).length=0 by simp[Cj,gl],show es.length-M.length=(es.length-(M.length+1))+1 by omega,List.replicate_succ,List.set_cons_zero];simp[Cj,A4]
   refine AW.turn [(0,.int .i64 (N:Nat)),(1,.sl 6 (D3 es)),(2,.sl 4 (B5 (p.map A3))),(8,.osl B 1 0 es.length),(9,.int .i64 (i:Nat)),(11,.sl 4 (B5 (r.map A3))),(20,.sl 6 (D3 es)),(21,.int .i64 (es.length:Nat)),(22,.int .i64 (i:Nat))] M0 (Bn.drop hbr ones0) ?_ ?_
   ·simp;refine .osl br 4 0 (2*N) _ (B5 (r.map A3)) (Ac.set_same _ _ _) hbr rfl hrl (by simp[hrl]) (fun k v v' h1 h2=>?_);rw[Nat.zero_add]at h1;rw[h1]at h2;cases h2;exact .same _
   subst hM0;(repeat refine AW.seq_k fun K hK=>?_);refine AW.rg ?_;simp[hi,hbl];try (refine hK _ rfl ?_;clear hK K)
   rw[hpush];(repeat refine AW.seq_k fun K hK=>?_);refine AW.rg ?_;simp[-Int.natCast_add,w1];try (refine hK _ rfl ?_;clear hK K)
   exact⟨_,i+1,⟨by omega,hsr⟩,by omega,rfl,rfl⟩
  ·refine AW.exit ?_;try simp
   have:i=es.length:=by omega
   subst this;exact⟨M,g2,rfl⟩
 rintro M hM;obtain⟨gl,gg⟩:=H8 hM;(repeat refine AW.seq_k fun K hK=>?_);refine AW.rg ?_;simp;try (refine hK _ rfl ?_;clear hK K)
 have e0:eqB es.length M=(Cj M).map A4:=by unfold eqB;rw[gl];simp
 rw[e0];refine AW.ret (B9 rfl (Gt.set (M:=Ac.emp) (fun c y hy=>by cases hy) B (Nr M)) ?_);unfold eqR;rw[hM];exact⟨B,rfl,rfl⟩
end Go.Av
end
section
namespace Go.Av
open Go.Proofs Go.Lam
noncomputable def Kr (m:List (List RR)):AV:=match (Up m).1,(Up m).2 with
 |0,v::_=>.tup [A4 (v.map A3),.bool true,.int .i64 0]
 |e,_=>.tup [A4 [],.bool false,.int .i64 e]
theorem Qen (m:List (List RR)) (hm:LbM m):Aj Tryz.prog 70 [Bc m] Ac.emp fun v mm=>v=Kr m∧mm=Ac.emp:=by
 have hk:=Yh m hm;unfold Kr;generalize Up m=K0 at *;obtain⟨e,V⟩:=K0;simp only at *;refine Ad Tryz.func70 rfl rfl 23 rfl (Nat.le_of_ble_eq_true rfl) ?_;unfold Bc at hk ⊢;(repeat refine AW.seq_k fun K hK=>?_);refine AW.rg ?_;simp[Ak];try (refine hK _ rfl ?_;clear hK K)
 (repeat refine AW.seq_k fun K hK=>?_);refine AW.rg ?_;simp;try (refine hK _ rfl ?_;clear hK K)
 refine Aa.val hk ?_;simp;try (refine hK _ rfl ?_;clear hK K)
 by_cases he:e=0
 ·subst he;cases V with
  |nil =>
   (repeat refine AW.seq_k fun K hK=>?_);refine AW.rg ?_;simp[Cj];try (refine hK _ rfl ?_;clear hK K)
   refine AW.yes ?_ (by simp[Cj]);(repeat refine AW.seq_k fun K hK=>?_);refine AW.rg ?_;simp;try (refine hK _ rfl ?_;clear hK K)
   exact AW.ret (Ah [A4 [],.bool false,.int .i64 0] rfl ⟨.nilsl 4,.same _,.same _,trivial⟩ ⟨rfl,rfl⟩)
  |cons v t =>
   (repeat refine AW.seq_k fun K hK=>?_);refine AW.rg ?_;simp[-Int.natCast_add,Cj];try (refine hK _ rfl ?_;clear hK K)
   refine AW.no ?_ (by simp[-Int.natCast_add,Cj]);refine AW.skip ?_;try simp[-Int.natCast_add]
   try (refine hK _ rfl ?_;clear hK K)
   (repeat refine AW.seq_k fun K hK=>?_);refine AW.rg ?_;simp[-Int.natCast_add,Cj];try (refine hK _ rfl ?_;clear hK K)
   exact AW.ret (Ah [A4 (v.map A3),.bool true,.int .i64 0] rfl ⟨.same _,.same _,.same _,trivial⟩ ⟨rfl,rfl⟩)
 ·(repeat refine AW.seq_k fun K hK=>?_);refine AW.rg ?_;simp[he];try (refine hK _ rfl ?_;clear hK K)
  refine AW.yes ?_ (by simp[he]);(repeat refine AW.seq_k fun K hK=>?_);refine AW.rg ?_;simp;try (refine hK _ rfl ?_;clear hK K)
  exact AW.ret (Ah [A4 [],.bool false,.int .i64 e] rfl ⟨.nilsl 4,.same _,.same _,trivial⟩ ⟨by cases V<;>(split<;>first | rfl | contradiction | simp_all),rfl⟩)
end Go.Av
end
section
namespace Go.Av
open Go.Proofs Go.Lam
def Vy (n:Nat) (p:List Rat):AV:=match Pg n p with
 |some M=>.tup [Bc (Cj M),.int .i64 0]
 |none=>.tup [Bc [],.int .i64 2]
def My (p:List Rat) (k:Nat):Prop:=A2 p (2*k)=A2 p 0∧A2 p (2*k+1)=A2 p 1
theorem Qhd {n:Nat} {p:List Rat} (h:∀k,1≤k→k<n→My p k):Tj n p=none:=by
 unfold Tj;rw[List.find?_range_eq_none];intro k hk;by_cases h1:1≤k
 ·obtain⟨a,b⟩:=h k h1 hk;simp[a,b]
 ·simp[h1]
theorem Qf {n i:Nat} {p:List Rat} (h1:1≤i) (hi:i<n) (hd:¬My p i) (h:∀k,1≤k→k<i→My p k):Tj n p=some i:=by
 unfold Tj;rw[List.find?_range_eq_some];refine⟨?_,List.mem_range.2 hi,fun k hk=>?_⟩
 ·unfold My at hd;by_cases a:A2 p (2*i)=A2 p 0
  ·have b:¬A2 p (2*i+1)=A2 p 1:=fun b=>hd ⟨a,b⟩;simp[h1,b]
  ·simp[h1,a]
 ·by_cases g:1≤k
  ·obtain⟨a,b⟩:=h k g hk;simp[a,b]
  ·simp[g]
def X8 (o:Option Rat):RR:=match o with | some d=>A3 d | none=>⟨false,[],false,[]⟩
def Qhm (o:Option Rat):Int:=match o with | some _=>0 | none=>2
theorem Qj8 (o:Option Rat):Eb o=.tup [(X8 o).av,.int .i64 (Qhm o)]:=by cases o<;>rfl
theorem Mn {n i:Nat} {p:List Rat} (h:Tj n p=some i):Pg n p=(Db (A2 p 1) (A2 p (2*i+1))).bind fun d1=>(Db (A2 p (2*i)) (A2 p 0)).map fun d2=>[(List.replicate (2*n) (0:Rat)).set 0 1,(List.replicate (2*n) (0:Rat)).set 1 1,((List.replicate (2*n) (0:Rat)).set (2*i) d1).set (2*i+1) d2]:=by
 unfold Pg;rw[h]
theorem Ex {M M':Ac} {b n z:Nat} {l:List AV} {e:TypeId} (h:M b=some ⟨e,z,l⟩) (h':M' b=none) (hl:l.length=n):B2 M M' (.osl b z 0 n) (.sl z l) :=
 .osl b z 0 n _ l h h' rfl hl (by simp[hl]) (fun k v v' h1 h2=>by rw[Nat.zero_add]at h1;rw[h1]at h2;cases h2;exact .same _)
theorem Qig (N:Nat) (p:List Rat) (hN:1≤N) (hN12:N≤12) (hp:C1 N p):Aj Tryz.prog 69 [.int .i64 (N:Nat),A4 (p.map A3)] Ac.emp fun v m=>v=Vy N p∧m=Ac.emp:=by
 have hzr:=Rb (2*N) (by omega);have hw1:=Rc 1 (by omega) (by omega);rw[J0]at hw1;have w0:=Ap (2*N) (by omega);have hpl:p.length=2*N:=hp.1;have hg:∀i,i<2*N→Cd (A2 p i):=fun i hi=>by
  unfold A2;rw[List.getD_eq_getElem?_getD,List.getElem?_eq_getElem (by omega)];exact hp.2 _ (List.getElem_mem _)
 have hrr:∀i,i<2*N→rr (p.map A3) i=A3 (A2 p i):=fun i hi=>by
  rw[K8 (by simp;omega)];unfold A2;simp[hpl,hi]
 have hdf:∀i j,i<2*N→j<2*N→Aj Tryz.prog 105 [(A3 (A2 p i)).av,(A3 (A2 p j)).av] Ac.emp fun v m=>v=.bool (decide (A2 p i≠A2 p j))∧m=Ac.emp:=fun i j hi hj=>by
  have:=X6 (A3 (A2 p i)) (A3 (A2 p j)) (Fj _) (Fj _) (Ef (hg i hi)) (Ef (hg j hj));rw[Hg,Hg]at this;exact this
 refine Ad Tryz.func69 rfl rfl 99 rfl (Nat.le_of_ble_eq_true rfl) ?_;unfold A4 at *;(repeat refine AW.seq_k fun K hK=>?_);refine AW.rg ?_;simp[Ak];try (refine hK _ rfl ?_;clear hK K)
 (repeat refine AW.seq_k fun K hK=>?_);refine AW.rg ?_;simp[-Int.natCast_mul,w0];try (refine hK _ rfl ?_;clear hK K)
 refine Aa.make (R:=fun b v x=>v=.osl b 4 0 (2*N)∧x=⟨44,4,B5 (List.replicate (2*N) (A3 0))⟩) (hzr.mono fun v m ⟨b,h1,h2⟩=>⟨b,_,⟨h1,rfl⟩,h2⟩) ?_;rintro b0 _ _ ⟨rfl,rfl⟩ hb0 _;simp[-Int.natCast_mul,w0];refine Aa.make (R:=fun b v x=>v=.osl b 4 0 (2*N)∧x=⟨44,4,B5 (List.replicate (2*N) (A3 0))⟩) (hzr.mono fun v m ⟨b,h1,h2⟩=>⟨b,_,⟨h1,rfl⟩,h2⟩) ?_;rintro b1 _ _ ⟨rfl,rfl⟩ hb1 _;simp[-Int.natCast_mul];refine Af.intro fun B hB=>?_;try (refine hK _ rfl ?_;clear hK K)
 have hz0:B5 (List.replicate (2*N) (A3 0))=B5 ((List.replicate (2*N) (0:Rat)).map A3):=by simp
 have hzl:(B5 (List.replicate (2*N) (A3 0))).length=2*N:=by simp[B5]
 generalize hz:B5 (List.replicate (2*N) (A3 0))=Z at *;have n10:b1≠b0:=fun h=>by simp[h]at hb1
 have nB0:B≠b0:=fun h=>by simp[h]at hB
 have nB1:B≠b1:=fun h=>by simp[h]at hB
 have hN2:0<2*N:=by omega
 have hN3:1<2*N:=by omega
 (repeat refine AW.seq_k fun K hK=>?_);refine AW.rdA B [0,1,2,3,4,5,6,7,8,9,10,11] Ds (by simp[-Int.natCast_mul,hzl,hN2,hN3,n10,nB0,nB1]) ?_;simp[-Int.natCast_mul,hzl,hN2,hN3,n10,nB0,nB1];try (refine hK _ rfl ?_;clear hK K)
 refine Aa.val hw1 ?_;simp[-Int.natCast_mul];refine Aa.val hw1 ?_;simp[-Int.natCast_mul,hzl,hN2,hN3,n10,nB0,nB1,Ne.symm nB0,Ne.symm nB1];try (refine hK _ rfl ?_;clear hK K)
 have hr0:Z.set 0 (A3 1).av=B5 (((List.replicate (2*N) (0:Rat)).set 0 1).map A3):=by rw[hz0,List.map_set];exact Ko _ _ _
 have hr1:Z.set 1 (A3 1).av=B5 (((List.replicate (2*N) (0:Rat)).set 1 1).map A3):=by rw[hz0,List.map_set];exact Ko _ _ _
 rw[hr0,hr1];have hl0:(B5 (((List.replicate (2*N) (0:Rat)).set 0 1).map A3)).length=2*N:=by simp[B5]
 have hl1:(B5 (((List.replicate (2*N) (0:Rat)).set 1 1).map A3)).length=2*N:=by simp[B5]
 have hem:∀l,(Cj [(List.replicate (2*N) (0:Rat)).set 0 1,(List.replicate (2*N) (0:Rat)).set 1 1,l]).map A4=[.sl 4 (B5 (((List.replicate (2*N) (0:Rat)).set 0 1).map A3)),.sl 4 (B5 (((List.replicate (2*N) (0:Rat)).set 1 1).map A3)),.sl 4 (B5 (l.map A3))]:=fun _=>rfl;have hem2:(Cj [(List.replicate (2*N) (0:Rat)).set 0 1,(List.replicate (2*N) (0:Rat)).set 1 1]).map A4=[.sl 4 (B5 (((List.replicate (2*N) (0:Rat)).set 0 1).map A3)),.sl 4 (B5 (((List.replicate (2*N) (0:Rat)).set 1 1).map A3))]:=rfl;have hpN:Tj N p=none→Vy N p=.tup [.sl 1 [.sl 4 (B5 (((List.replicate (2*N) (0:Rat)).set 0 1).map A3)),.sl 4 (B5 (((List.replicate (2*N) (0:Rat)).set 1 1).map A3))],.int .i64 0]:=fun h=>by
  unfold Vy Pg Bc;rw[h];rfl
 generalize B5 (((List.replicate (2*N) (0:Rat)).set 0 1).map A3)=R0 at *;generalize B5 (((List.replicate (2*N) (0:Rat)).set 1 1).map A3)=R1 at *;generalize hM0:Ac.emp.set B ⟨51,1,[.sl 4 R0,.sl 4 R1]⟩=M0;have hM0B:M0 B=some ⟨51,1,[.sl 4 R0,.sl 4 R1]⟩:=by rw[←hM0];exact Ac.set_same _ _ _
 have hM0n:∀c,c≠B→M0 c=none:=fun c h=>by rw[←hM0];exact Ac.set_other _ _ h
 have ones0:Gt M0:=by
  rw[←hM0];exact Gt.set (M:=Ac.emp) (fun c y hy=>by cases hy) B (by simp[AV.cells,AV.one])
 refine AW.turn [(0,.int .i64 (N:Nat)),(1,.sl 4 (B5 (p.map A3))),(6,.osl B 1 0 2)] M0 ⟨fun c x' hx'=>?_⟩ (by simp[-Int.natCast_mul]) ?_
 ·by_cases hc:c=B
  ·subst hc;rw[hM0B]at hx';cases hx';refine⟨⟨51,1,[.osl b0 4 0 (2*N),.osl b1 4 0 (2*N)]⟩,by simp[nB0,nB1],rfl,rfl,rfl,fun k v v' h1 h2=>?_⟩
   match k with
   |0 =>
    cases h1;cases h2;exact⟨Ex (by simp[Ne.symm n10];rfl) (hM0n _ (Ne.symm nB0)) hl0,rfl⟩
   |1 =>
    cases h1;cases h2;exact⟨Ex (by simp;rfl) (hM0n _ (Ne.symm nB1)) hl1,rfl⟩
   |k+2=>cases h1
  ·rw[hM0n c hc]at hx';cases hx'
 refine AW.seq_ex (ι:=Unit) (fun _=>[(6,.osl B 1 0 2)]) (fun _=>M0) (fun _=>Tj N p=none) ?_ ?_
 ·(repeat refine AW.seq_k fun K hK=>?_);refine AW.rg ?_;simp;try (refine hK _ rfl ?_;clear hK K)
  refine AW.block (AW.loopS (ι:=Nat) (fun i=>[(0,.int .i64 (N:Nat)),(1,.sl 4 (B5 (p.map A3))),(6,.osl B 1 0 2),(7,.int .i64 ((2*i:Nat):Int))]) (fun _=>M0) (fun i=>1≤i∧i≤N∧∀k,1≤k→k<i→My p k) (fun i=>N-i) 1 ⟨by omega,by omega,fun k h1 h2=>by omega⟩ rfl (by simp) ?_);rintro i ⟨g1,g2,g3⟩;(repeat refine AW.seq_k fun K hK=>?_);refine AW.rg ?_;simp[-Int.natCast_mul,w0];try (refine hK _ rfl ?_;clear hK K)
  (repeat refine AW.seq ?_);refine AW.cs (fun hi=>?_) (fun hi=>?_) rfl<;>(try simp at hi)
  ·refine AW.skip ?_;try simp[-Int.natCast_mul]
   try (refine hK _ rfl ?_;clear hK K)
   have hi':i<N:=by omega
   have a0:2*i<2*N:=by omega
   have a1:2*i+1<2*N:=by omega
   have w2:=Ap (2*i+1) (by omega);have w3:=Ap (2*i+2) (by omega);have d0:=hdf (2*i) 0 a0 hN2;have d1:=hdf (2*i+1) 1 a1 hN3;unfold RR.av at d0 d1;have hr0:=hrr _ a0;have hr1:=hrr _ a1;have hr2:=hrr 0 hN2;have hr3:=hrr 1 hN3;obtain⟨T,hT⟩:∃T:Bool,(T=true↔My p i):=⟨(decide (A2 p (2*i)=A2 p 0)&&decide (A2 p (2*i+1)=A2 p 1)),by simp[My]⟩;(repeat refine AW.seq ?_);refine AW.block ?_;refine AW.seq_k fun K hK=>?_;refine AW.seq_ex (ι:=Unit) (fun _=>[(0,.int .i64 (N:Nat)),(1,.sl 4 (B5 (p.map A3))),(6,.osl B 1 0 2),(7,.int .i64 ((2*i:Nat):Int)),(54,.bool T)]) (fun _=>M0) (fun _=>True) ?_ ?_
   ·refine AW.rd [0,1,2,3,4,5,6,7,8,9,10,11,12,13,14,15,16,17,18,19,20] Ds ?_;simp[-Int.natCast_mul,hpl,a0,hN2,hr0,hr2];refine Aa.val d0 ?_;by_cases e0:A2 p (2*i)=A2 p 0
    ·simp[-Int.natCast_add,-Int.natCast_mul,e0,w2,hpl,a1,hN3,hr1,hr3];refine Aa.val d1 ?_;simp[-Int.natCast_add,-Int.natCast_mul];rw[Bool.eq_iff_iff,hT];simp[My,e0]
    ·simp[-Int.natCast_mul,e0];rw[←Bool.not_eq_true,hT];simp[My,e0]
   rintro _ _;cases T with
   |true =>
    have hs:=hT.1 rfl;refine AW.yes ?_ rfl;refine AW.exit ?_;try simp[-Int.natCast_mul]
    (repeat refine AW.seq_k fun K hK=>?_);refine AW.rg ?_;simp[-Int.natCast_add,-Int.natCast_mul,w3];try (refine hK _ rfl ?_;clear hK K)
    exact⟨i+1,⟨by omega,by omega,fun k h1 h2=>by
     rcases Nat.lt_or_ge k i with h|h
     ·exact g3 k h1 h
     ·rw[show k=i by omega];exact hs⟩,by omega,rfl⟩
   |false =>
    have hns:¬My p i:=fun h=>by have:=hT.2 h;cases this
    have hpj:=Qf g1 hi' hns g3;have s1:=Ml (A2 p 1) (A2 p (2*i+1)) (hg _ hN3) (hg _ a1);have s2:=Ml (A2 p (2*i)) (A2 p 0) (hg _ a0) (hg _ hN2);rw[Qj8,←D2,←D2]at s1 s2;unfold RR.av at s1 s2;refine AW.no ?_ rfl;refine AW.skip ?_;try simp[-Int.natCast_mul]
    try (refine hK _ rfl ?_;clear hK K)
    (repeat refine AW.seq_k fun K hK=>?_);refine AW.rg ?_;simp[-Int.natCast_mul,w0];try (refine hK _ rfl ?_;clear hK K)
    refine Aa.make (R:=fun b v x=>v=.osl b 4 0 (2*N)∧x=⟨44,4,Z⟩) (hzr.mono fun v m ⟨b,h1,h2⟩=>⟨b,_,⟨h1,rfl⟩,h2⟩) ?_;rintro br _ _ ⟨rfl,rfl⟩ hbr _;simp[-Int.natCast_mul];try (refine hK _ rfl ?_;clear hK K)
    (repeat refine AW.seq_k fun K hK=>?_);refine AW.rg ?_;simp[-Int.natCast_mul];try (refine hK _ rfl ?_;clear hK K)
    (repeat refine AW.seq_k fun K hK=>?_);refine AW.rd [0,1,2,3,4,5,6,7,8,9,10,11,12,13,14,15,16] Ds ?_;simp[-Int.natCast_add,-Int.natCast_mul,hpl,w2,a1,hN3,hr1,hr3];try (refine hK _ rfl ?_;clear hK K)
    refine Aa.val s1 ?_;simp[-Int.natCast_add,-Int.natCast_mul,hzl,a0];try (refine hK _ rfl ?_;clear hK K)
    (repeat refine AW.seq_k fun K hK=>?_);refine AW.rd [0,1,2,3,4,5,6,7,8,9,10,11,12,13,14,15,16] Ds ?_;simp[-Int.natCast_add,-Int.natCast_mul,hpl,w2,a0,hN2,hr0,hr2];try (refine hK _ rfl ?_;clear hK K)
    refine Aa.val s2 ?_;simp[-Int.natCast_add,-Int.natCast_mul,hzl,a1];try (refine hK _ rfl ?_;clear hK K)
    cases h1:Db (A2 p 1) (A2 p (2*i+1))with
    |none =>
     have hno:Vy N p=.tup [Bc [],.int .i64 2]:=by unfold Vy;rw[Mn hpj,h1];rfl
     (repeat refine AW.seq_k fun K hK=>?_);refine AW.rg ?_;simp[-Int.natCast_add,-Int.natCast_mul,Qhm];try (refine hK _ rfl ?_;clear hK K)
     refine AW.yes ?_ rfl;(repeat refine AW.seq_k fun K hK=>?_);refine AW.rg ?_;simp[-Int.natCast_add,-Int.natCast_mul];try (refine hK _ rfl ?_;clear hK K)
     exact AW.ret (Ah [Bc [],.int .i64 2] rfl ⟨.nilsl 1,.same _,trivial⟩ ⟨by rw[hno];rfl,rfl⟩)
    |some x1 =>
     cases h2:Db (A2 p (2*i)) (A2 p 0)with
     |none =>
      have hno:Vy N p=.tup [Bc [],.int .i64 2]:=by unfold Vy;rw[Mn hpj,h1,h2];rfl
      (repeat refine AW.seq_k fun K hK=>?_);refine AW.rg ?_;simp[-Int.natCast_add,-Int.natCast_mul,Qhm];try (refine hK _ rfl ?_;clear hK K)
      refine AW.no ?_ rfl;refine AW.skip ?_;try simp[-Int.natCast_add,-Int.natCast_mul]
      try (refine hK _ rfl ?_;clear hK K)
      (repeat refine AW.seq_k fun K hK=>?_);refine AW.rg ?_;simp[-Int.natCast_add,-Int.natCast_mul,Qhm];try (refine hK _ rfl ?_;clear hK K)
      refine AW.yes ?_ rfl;(repeat refine AW.seq_k fun K hK=>?_);refine AW.rg ?_;simp[-Int.natCast_add,-Int.natCast_mul];try (refine hK _ rfl ?_;clear hK K)
      exact AW.ret (Ah [Bc [],.int .i64 2] rfl ⟨.nilsl 1,.same _,trivial⟩ ⟨by rw[hno];rfl,rfl⟩)
     |some x2 =>
      (repeat refine AW.seq_k fun K hK=>?_);refine AW.rg ?_;simp[-Int.natCast_add,-Int.natCast_mul,Qhm];try (refine hK _ rfl ?_;clear hK K)
      refine AW.no ?_ rfl;refine AW.skip ?_;try simp[-Int.natCast_add,-Int.natCast_mul]
      try (refine hK _ rfl ?_;clear hK K)
      (repeat refine AW.seq_k fun K hK=>?_);refine AW.rg ?_;simp[-Int.natCast_add,-Int.natCast_mul,Qhm];try (refine hK _ rfl ?_;clear hK K)
      refine AW.no ?_ rfl;refine AW.skip ?_;try simp[-Int.natCast_add,-Int.natCast_mul]
      try (refine hK _ rfl ?_;clear hK K)
      have hrow:(Z.set (2*i) (.agg [.bool (X8 (some x1)).n1,Am (X8 (some x1)).l1,.bool (X8 (some x1)).n2,Am (X8 (some x1)).l2])).set (2*i+1) (.agg [.bool (X8 (some x2)).n1,Am (X8 (some x2)).l1,.bool (X8 (some x2)).n2,Am (X8 (some x2)).l2])=B5 ((((List.replicate (2*N) (0:Rat)).set (2*i) x1).set (2*i+1) x2).map A3):=by
       rw[hz0,List.map_set,List.map_set];exact(congrArg (fun l=>List.set l (2*i+1) (A3 x2).av) (Ko _ _ (A3 x1))).trans (Ko _ _ (A3 x2))
      have hyes:Vy N p=.tup [.sl 1 [.sl 4 R0,.sl 4 R1,.sl 4 (B5 ((((List.replicate (2*N) (0:Rat)).set (2*i) x1).set (2*i+1) x2).map A3))],.int .i64 0]:=by
       unfold Vy;rw[Mn hpj,h1,h2];unfold Bc;simp only[Option.bind_some,Option.map_some];rw[hem]
      rw[hrow];have hrl:(B5 ((((List.replicate (2*N) (0:Rat)).set (2*i) x1).set (2*i+1) x2).map A3)).length=2*N:=by simp[B5]
      generalize B5 ((((List.replicate (2*N) (0:Rat)).set (2*i) x1).set (2*i+1) x2).map A3)=RW at *;refine AW.turn [(6,.osl B 1 0 2),(8,.sl 4 RW)] M0 (Bn.drop hbr ones0) (by simp[-Int.natCast_add,-Int.natCast_mul];exact Ex (Ac.set_same _ _ _) hbr hrl) ?_;(repeat refine AW.seq_k fun K hK=>?_);refine AW.rgR [96] ?_;simp[-Int.natCast_mul,hM0B];try (refine hK _ rfl ?_;clear hK K)
      refine⟨by unfold maxLen;omega,Af.intro fun b' hb'=>?_⟩;refine hK _ rfl ?_;clear hK K;exact AW.ret (Ah [.sl 1 [.sl 4 R0,.sl 4 R1,.sl 4 RW],.int .i64 0] rfl ⟨Ex (Ac.set_same _ _ _) rfl rfl,.same _,trivial⟩ ⟨by rw[hyes];rfl,rfl⟩)
  ·refine AW.exit ?_;try simp[-Int.natCast_mul]
   have:i=N:=by omega
   subst this;exact Qhd g3
 ·rintro _ hj;(repeat refine AW.seq_k fun K hK=>?_);refine AW.rg ?_;simp;try (refine hK _ rfl ?_;clear hK K)
  have hV:B2 M0 Ac.emp (.osl B 1 0 2) (.sl 1 [.sl 4 R0,.sl 4 R1]):=Ex hM0B rfl rfl;exact AW.ret (Ah [.sl 1 [.sl 4 R0,.sl 4 R1],.int .i64 0] rfl ⟨hV,.same _,trivial⟩ ⟨by rw[hpN hj];rfl,rfl⟩)
end Go.Av
end
section
namespace Go.Av
open Go.Proofs Go.Lam
theorem Qae (n:Int) (h1:-9223372036854775808≤n) (h2:n<9223372036854775808):Aj Tryz.prog 75 [.int .i64 n] Ac.emp fun v m=>v=(A3 (Gw n)).av∧m=Ac.emp:=by
 have ho:=Qb5 n 1 h1 h2 (by omega) (by omega) (by omega);have e:Rat.divInt n 1=Gw n:=rfl;rw[e,Eb]at ho;generalize Gw n=q at *;rw[D2];unfold Ix at *;refine Ad Tryz.func75 rfl rfl 11 rfl (Nat.le_of_ble_eq_true rfl) ?_;(repeat refine AW.seq_k fun K hK=>?_);refine AW.rg ?_;simp[Ak];try (refine hK _ rfl ?_;clear hK K)
 refine Af.intro fun b2 hb2=>?_;refine hK _ rfl ?_;clear hK K;(repeat refine AW.seq_k fun K hK=>?_);refine AW.rg ?_;simp;try (refine hK _ rfl ?_;clear hK K)
 refine Aa.val ho ?_;simp;refine Af.intro fun b3 hb3=>?_;simp only[An,Ay,and_true]at hb3;try simp[hb3]
 refine hK _ rfl ?_;clear hK K;(repeat refine AW.seq_k fun K hK=>?_);refine AW.rg ?_;simp[hb3];try (refine hK _ rfl ?_;clear hK K)
 exact AW.ret (Ah (vs:=[.agg [.bool (decide (q.num<0)),Am (Ao q.num.natAbs),.bool false,Am (Ao q.den)]]) [.agg [.bool (decide (q.num<0)),Am (Ao q.num.natAbs),.bool false,Am (Ao q.den)]] (by simp[hb3]) (by simp) ⟨rfl,rfl⟩)
theorem Qih (n:Nat) (hn:n<2^30):Aj Tryz.prog 64 [.int .i64 n] Ac.emp (Qm9 n):=by
 have hw:=Qae 0 (by omega) (by omega);rw[H4]at hw;refine Ad Tryz.func64 rfl rfl 15 rfl (Nat.le_of_ble_eq_true rfl) ?_;(repeat refine AW.seq_k fun K hK=>?_);refine AW.rg ?_;simp[Ak];try (refine hK _ rfl ?_;clear hK K)
 (repeat refine AW.seq_k fun K hK=>?_);refine AW.rg ?_;simp;try (refine hK _ rfl ?_;clear hK K)
 refine AW.seq_ex (ι:=AV × Ac) (fun z=>[(3,z.1)]) (fun z=>z.2) (fun z=>Qm9 n z.1 z.2) ?_ ?_
 ·(repeat refine AW.seq_k fun K hK=>?_);refine AW.rg ?_;simp;try (refine hK _ rfl ?_;clear hK K)
  refine AW.block (AW.loopS (ι:=Nat × AV × Ac) (fun z=>[(0,.int .i64 n),(3,z.2.1),(4,.int .i64 (z.1:Nat))]) (fun z=>z.2.2) (fun z=>z.1≤n∧Qm9 z.1 z.2.1 z.2.2) (fun z=>n-z.1) (0,.nil,Ac.emp) ⟨by simp,.inl ⟨rfl,rfl,rfl⟩⟩ rfl (by simp) ?_);rintro⟨i,v,M⟩ ⟨g1,g2⟩;simp only at g1 g2;(repeat refine AW.seq_k fun K hK=>?_);refine AW.rg ?_;simp;try (refine hK _ rfl ?_;clear hK K)
  (repeat refine AW.seq ?_);refine AW.cs (fun hi=>?_) (fun hi=>?_) rfl<;>(try simp at hi)
  ·refine AW.skip ?_;try simp
   refine hK _ rfl ?_;clear hK K;have w1:=Ap (i+1) (by omega);refine AW.seq_ex (ι:=AV × Ac) (fun z=>[(0,.int .i64 n),(3,z.1),(4,.int .i64 (i:Nat))]) (fun z=>z.2) (fun z=>Qm9 (i+1) z.1 z.2) ?_ ?_
   ·(repeat refine AW.seq ?_);refine AW.block ?_;rcases g2 with⟨z1,z2,z3⟩ | ⟨b0,z2,z3⟩
    ·subst z1 z2 z3;(repeat refine AW.seq_k fun K hK=>?_);refine AW.rgR [12] ?_;simp;try (refine hK _ rfl ?_;clear hK K)
     refine Aa.val hw ?_;simp;exact⟨by unfold maxLen;omega,Af.intro fun b hb=>⟨_,_,.inr ⟨b,rfl,rfl⟩,rfl,rfl⟩⟩
    ·subst z2 z3;(repeat refine AW.seq_k fun K hK=>?_);refine AW.rgR [12] ?_;simp;try (refine hK _ rfl ?_;clear hK K)
     refine Aa.val hw ?_;simp;exact⟨by omega,by unfold maxLen;omega,Af.intro fun b hb=>⟨_,_,.inr ⟨b,rfl,rfl⟩,by rw[List.replicate_succ'];simp[B5],rfl⟩⟩
   rintro⟨v,M⟩ hs;(repeat refine AW.seq_k fun K hK=>?_);refine AW.rg ?_;simp[-Int.natCast_add,w1];try (refine hK _ rfl ?_;clear hK K)
   exact⟨i+1,v,M,⟨hi,hs⟩,by omega,by simp⟩
  ·refine AW.exit ?_;try simp
   have:i=n:=by omega
   subst this;exact⟨v,M,g2,rfl,rfl⟩
 rintro⟨v,M⟩ hs;simp only at hs;(repeat refine AW.seq_k fun K hK=>?_);refine AW.rg ?_;simp;try (refine hK _ rfl ?_;clear hK K)
 refine AW.ret (B9 rfl ?_ hs);rcases hs with⟨_,_,z3⟩ | ⟨b,_,z3⟩
 ·intro b y hy;rw[z3]at hy;cases hy
 ·rw[z3];exact Gt.set (fun c y hy=>by cases hy) b (Kd _)
theorem Qlc (n:Nat) (h0:0<n) (hn:n<2^30):Aj Tryz.prog 64 [.int .i64 n] Ac.emp fun v m=>∃b x,(v=.osl b 4 0 n∧x=⟨44,4,B5 (List.replicate n (A3 0))⟩)∧m=Ac.emp.set b x:=by
 refine(Qih n hn).mono ?_;rintro v m (⟨h,_⟩ | ⟨b,h1,h2⟩)
 ·omega
 ·exact⟨b,_,⟨h1,rfl⟩,h2⟩
theorem Nv {a b:Rat} (ha:Cd a):Aj Tryz.prog 33 [(A3 a).av,(A3 b).av] Ac.emp fun v m=>v=.bool (decide (a=b))∧m=Ac.emp:=by
 refine(Qho (A3 a) (A3 b) (Qeh ha)).mono ?_;rintro v m ⟨⟨t,rfl,ht⟩,h2⟩;refine⟨?_,h2⟩;have e:A3 a=A3 b↔a=b:=⟨fun h=>by rw[←Hg a,h,Hg],fun h=>by rw[h]⟩;rw[e]at ht;cases t<;>simp_all
theorem Qb3 (r:List Rat) (i:Nat) (d:Rat):(B5 (r.map A3)).set i (.agg [.bool (A3 d).n1,Am (A3 d).l1,.bool (A3 d).n2,Am (A3 d).l2])=B5 ((r.set i d).map A3):=by
 rw[List.map_set];exact Ko _ _ (A3 d)
end Go.Av
end
section
namespace Go.Av
open Go.Proofs Go.Lam
def Qcx (n:Nat) (es:List RE) (p:List Rat) (v:AV) (m:Ac):Prop:=match Om n (Ae es) p es.length with
 |some M=>∃ov ob,v=.tup [ov,.int .i64 0]∧Gn m 51 1 ov ob ((Cj M).map A4)
 |none=>v=.tup [Bc [],.int .i64 2]∧m=Ac.emp
structure EqS where
 M:Ac
 ov:AV
 ob:List Nat
 E:List (List Rat)
theorem Qas (N:Nat) (es:List RE) (p:List Rat) (hN:1≤N) (hN12:N≤12) (hok:Li N es) (h3:es.length≤40) (hp:C1 N p):Aj Tryz.prog 30 [.int .i64 (N:Nat),Bb es,A4 (p.map A3)] Ac.emp (Qcx N es p):=by
 have hzr:=Qlc (2*N) (by omega) (by omega);have w0:=Ap (2*N) (by omega);have hpl:p.length=2*N:=hp.1;have hg:∀i,i<2*N→Cd (A2 p i):=fun i hi=>by
  unfold A2;rw[List.getD_eq_getElem?_getD,List.getElem?_eq_getElem (by omega)];exact hp.2 _ (List.getElem_mem _)
 have hrr:∀i,i<2*N→rr (p.map A3) i=A3 (A2 p i):=fun i hi=>by
  rw[K8 (by simp;omega)];unfold A2;simp[hpl,hi]
 refine Ad Tryz.func30 rfl rfl 103 rfl (Nat.le_of_ble_eq_true rfl) ?_;unfold Bb A4 at *;(repeat refine AW.seq_k fun K hK=>?_);refine AW.rg ?_;simp[Ak];try (refine hK _ rfl ?_;clear hK K)
 (repeat refine AW.seq_k fun K hK=>?_);refine AW.rg ?_;simp;try (refine hK _ rfl ?_;clear hK K)
 refine AW.seq_ex (ι:=EqS) (fun z=>[(8,z.ov)]) (fun z=>z.M) (fun z=>Om N (Ae es) p es.length=some z.E∧Gn z.M 51 1 z.ov z.ob ((Cj z.E).map A4)) ?_ ?_
 ·(repeat refine AW.seq_k fun K hK=>?_);refine AW.rg ?_;simp;try (refine hK _ rfl ?_;clear hK K)
  refine AW.block (AW.loopS (ι:=EqS × Nat) (fun z=>[(0,.int .i64 (N:Nat)),(1,.sl 6 (D3 es)),(2,.sl 4 (B5 (p.map A3))),(8,z.1.ov),(9,.int .i64 (z.2:Nat))]) (fun z=>z.1.M) (fun z=>z.2≤es.length∧Om N (Ae es) p z.2=some z.1.E∧Gn z.1.M 51 1 z.1.ov z.1.ob ((Cj z.1.E).map A4)) (fun z=>es.length-z.2) (⟨Ac.emp,.nil,[],[]⟩,0) ⟨by simp,rfl,Gn.start _ _⟩ rfl (by simp) ?_);rintro⟨⟨M,ov,ob,E⟩,i⟩ ⟨g1,g2,g3⟩;simp only at g1 g2 g3;obtain⟨gl,gg⟩:=H8 g2;(repeat refine AW.seq_k fun K hK=>?_);refine AW.rg ?_;simp;try (refine hK _ rfl ?_;clear hK K)
  (repeat refine AW.seq ?_);refine AW.cs (fun hi=>?_) (fun hi=>?_) rfl<;>(try simp at hi)
  ·refine AW.skip ?_;try simp
   try (refine hK _ rfl ?_;clear hK K)
   have w1:=Ap (i+1) (by omega);obtain⟨e1,e2,e3⟩:=hok i hi;obtain⟨a,ha⟩:∃a,(Ae es i).1=a:=⟨_,rfl⟩;obtain⟨b,hb⟩:∃b,(Ae es i).2=b:=⟨_,rfl⟩;have hsc:Om N (Ae es) p (i+1)=(N0 N p a b 4).map fun r=>E++[r]:=by rw[Om,g2,ha,hb];rfl
   rw[ha]at e1;rw[hb]at e2;have han:a<N:=ha ▸ e3.1;have hbn:b<N:=hb ▸ e3.2.1;have wa:=Ap (2*a) (by omega);have wb:=Ap (2*b) (by omega);have ones0:Gt M:=g3.ones (Nr _);(repeat refine AW.seq ?_);refine AW.block ?_;(repeat refine AW.seq_k fun K hK=>?_);refine AW.rg ?_;simp[-Int.natCast_mul,hi,Ck,e1,e2,wa];try (refine hK _ rfl ?_;clear hK K)
   (repeat refine AW.seq_k fun K hK=>?_);refine AW.rg ?_;simp[-Int.natCast_mul,hi,Ck,e1,e2,wb];try (refine hK _ rfl ?_;clear hK K)
   (repeat refine AW.seq_k fun K hK=>?_);refine AW.rg ?_;simp[-Int.natCast_mul,w0];try (refine hK _ rfl ?_;clear hK K)
   refine Aa.make hzr ?_;rintro br _ _ ⟨rfl,rfl⟩ hbr _;simp[-Int.natCast_mul];try (refine hK _ rfl ?_;clear hK K)
   have hz0:B5 (List.replicate (2*N) (A3 0))=B5 ((List.replicate (2*N) (0:Rat)).map A3):=by simp
   rw[hz0];refine AW.seq_ex (ι:=List Rat) (fun _=>[(0,.int .i64 (N:Nat)),(1,.sl 6 (D3 es)),(2,.sl 4 (B5 (p.map A3))),(8,ov),(9,.int .i64 (i:Nat)),(10,.int .i64 ((2*a:Nat):Int)),(11,.int .i64 ((2*b:Nat):Int)),(12,.osl br 4 0 (2*N))]) (fun r=>M.set br ⟨44,4,B5 (r.map A3)⟩) (fun r=>N0 N p a b 2=some r) ?_ ?_
   ·(repeat refine AW.seq_k fun K hK=>?_);refine AW.rg ?_;simp[-Int.natCast_mul];try (refine hK _ rfl ?_;clear hK K)
    refine AW.block (AW.loopS (ι:=List Rat × Nat) (fun z=>[(0,.int .i64 (N:Nat)),(1,.sl 6 (D3 es)),(2,.sl 4 (B5 (p.map A3))),(8,ov),(9,.int .i64 (i:Nat)),(10,.int .i64 ((2*a:Nat):Int)),(11,.int .i64 ((2*b:Nat):Int)),(12,.osl br 4 0 (2*N)),(13,.int .i64 (z.2:Nat))]) (fun z=>M.set br ⟨44,4,B5 (z.1.map A3)⟩) (fun z=>z.2≤2∧N0 N p a b (0+z.2)=some z.1) (fun z=>2-z.2)
     (List.replicate (2*N) 0,0) ⟨by simp,rfl⟩ (by simp) (by simp[-Int.natCast_mul]) ?_)
    rintro⟨r,k⟩ ⟨j1,j2⟩;simp only at j1 j2;(repeat refine AW.seq_k fun K hK=>?_);refine AW.rg ?_;simp[-Int.natCast_mul];try (refine hK _ rfl ?_;clear hK K)
    (repeat refine AW.seq ?_);refine AW.cs (fun hk=>?_) (fun hk=>?_) rfl<;>(try simp at hk)
    ·refine AW.skip ?_;try simp[-Int.natCast_mul]
     try (refine hK _ rfl ?_;clear hK K)
     have wk:=Ap (k+1) (by omega);have hul:2*a+k<2*N:=by omega
     have hvl:2*b+k<2*N:=by omega
     have wu:=Ap (2*a+k) (by omega);have wv:=Ap (2*b+k) (by omega);have hsu:=Wv (A2 p (2*a+k)) (A2 p (2*b+k)) (hg _ hul) (hg _ hvl);have hui:uI a b (0+k)=2*a+k:=by unfold uI;split<;>omega
     have hvi:vI a b (0+k)=2*b+k:=by unfold vI;split<;>omega
     have ones2:Gt (M.set br ⟨44,4,B5 (r.map A3)⟩):=ones0.set br (Kd _);have hrl:(B5 (r.map A3)).length=2*N:=by simp[B5];exact(Ik j2).1
     (repeat refine AW.seq ?_);refine AW.block ?_;(repeat refine AW.seq_k fun K hK=>?_);refine AW.rd [0,1,2,3,4,5,6,7,8,9,10,11,12,13,14,15,16,17,18] Ds ?_;simp[-Int.natCast_add,-Int.natCast_mul,wu,wv,hul,hvl,hpl,hrr];try (refine hK _ rfl ?_;clear hK K)
     cases hd:Db (A2 p (2*a+k)) (A2 p (2*b+k))with
     |none =>
      rw[hd,←D2,←D2,Eb]at hsu;unfold RR.av Cn at hsu;refine Aa.val hsu ?_;simp[-Int.natCast_add,-Int.natCast_mul];refine Af.intro fun b15 hb15=>?_;refine hK _ rfl ?_;clear hK K;(repeat refine AW.seq_k fun K hK=>?_);refine AW.rg ?_;simp[-Int.natCast_add,-Int.natCast_mul];try (refine hK _ rfl ?_;clear hK K)
      refine AW.yes ?_ rfl;(repeat refine AW.seq_k fun K hK=>?_);refine AW.rg ?_;simp[-Int.natCast_add,-Int.natCast_mul];try (refine hK _ rfl ?_;clear hK K)
      have hno:Qcx N es p (.tup [Bc [],.int .i64 2]) Ac.emp:=by
       have hs1:N0 N p a b (0+k+1)=none:=by rw[N0,j2,hui,hvi,Option.bind_some,hd];rfl
       have hs4:=Vl (t:=4) hs1 (by omega);have hm:=Vq (t:=es.length) (show Om N (Ae es) p (i+1)=none by rw[hsc,hs4];rfl) (by omega);unfold Qcx;rw[hm];exact⟨rfl,rfl⟩
      exact AW.ret (Ah [Bc [],.int .i64 2] rfl ⟨.nilsl 1,.same _,trivial⟩ hno)
     |some d =>
      rw[hd,←D2,←D2,Eb,←D2]at hsu;unfold RR.av at hsu;refine Aa.val hsu ?_;simp[-Int.natCast_add,-Int.natCast_mul];refine Af.intro fun b15 hb15=>?_;refine hK _ rfl ?_;clear hK K;have hst:N0 N p a b (0+(k+1))=some (r.set (2*a+k) d):=by
       rw[show 0+(k+1)=(0+k)+1 by omega,N0,j2,hui,hvi,Option.bind_some,hd];rfl
      refine AW.turn [(0,.int .i64 (N:Nat)),(1,.sl 6 (D3 es)),(2,.sl 4 (B5 (p.map A3))),(8,ov),(9,.int .i64 (i:Nat)),(10,.int .i64 ((2*a:Nat):Int)),(11,.int .i64 ((2*b:Nat):Int)),(12,.osl br 4 0 (2*N)),(13,.int .i64 (k:Nat)),(14,.rptr [.bool (A3 d).n1,Am (A3 d).l1,.bool (A3 d).n2,Am (A3 d).l2]),(15,.int .i64 0)] (M.set br ⟨44,4,B5 (r.map A3)⟩) (Bn.drop hb15 ones2)
       (by simp[-Int.natCast_add,-Int.natCast_mul];exact H5 hb15) ?_
      (repeat refine AW.seq_k fun K hK=>?_);refine AW.rg ?_;simp[-Int.natCast_mul];try (refine hK _ rfl ?_;clear hK K)
      refine AW.no ?_ rfl;refine AW.skip ?_;try simp[-Int.natCast_mul]
      try (refine hK _ rfl ?_;clear hK K)
      (repeat refine AW.seq_k fun K hK=>?_);refine AW.rg ?_;simp[-Int.natCast_add,-Int.natCast_mul,wu,hul,hrl];try (refine hK _ rfl ?_;clear hK K)
      rw[Qb3];(repeat refine AW.seq_k fun K hK=>?_);refine AW.rg ?_;simp[-Int.natCast_add,-Int.natCast_mul,wk];try (refine hK _ rfl ?_;clear hK K)
      exact⟨r.set (2*a+k) d,k+1,⟨by omega,by simpa using hst⟩,by omega,by rw[List.map_set],rfl⟩
    ·refine AW.exit ?_;try simp[-Int.natCast_mul]
     have:k=2:=by omega
     subst this;exact⟨r,j2,rfl⟩
   rintro r2 hr2;refine AW.seq_ex (ι:=List Rat) (fun _=>[(0,.int .i64 (N:Nat)),(1,.sl 6 (D3 es)),(2,.sl 4 (B5 (p.map A3))),(8,ov),(9,.int .i64 (i:Nat)),(10,.int .i64 ((2*a:Nat):Int)),(11,.int .i64 ((2*b:Nat):Int)),(12,.osl br 4 0 (2*N))]) (fun r=>M.set br ⟨44,4,B5 (r.map A3)⟩) (fun r=>N0 N p a b 4=some r) ?_ ?_
   ·(repeat refine AW.seq_k fun K hK=>?_);refine AW.rg ?_;simp[-Int.natCast_mul];try (refine hK _ rfl ?_;clear hK K)
    refine AW.block (AW.loopS (ι:=List Rat × Nat) (fun z=>[(0,.int .i64 (N:Nat)),(1,.sl 6 (D3 es)),(2,.sl 4 (B5 (p.map A3))),(8,ov),(9,.int .i64 (i:Nat)),(10,.int .i64 ((2*a:Nat):Int)),(11,.int .i64 ((2*b:Nat):Int)),(12,.osl br 4 0 (2*N)),(16,.int .i64 (z.2:Nat))]) (fun z=>M.set br ⟨44,4,B5 (z.1.map A3)⟩) (fun z=>z.2≤2∧N0 N p a b (2+z.2)=some z.1) (fun z=>2-z.2)
     (r2,0) ⟨by simp,hr2⟩ (by simp) (by simp[-Int.natCast_mul]) ?_)
    rintro⟨r,k⟩ ⟨j1,j2⟩;simp only at j1 j2;(repeat refine AW.seq_k fun K hK=>?_);refine AW.rg ?_;simp[-Int.natCast_mul];try (refine hK _ rfl ?_;clear hK K)
    (repeat refine AW.seq ?_);refine AW.cs (fun hk=>?_) (fun hk=>?_) rfl<;>(try simp at hk)
    ·refine AW.skip ?_;try simp[-Int.natCast_mul]
     try (refine hK _ rfl ?_;clear hK K)
     have wk:=Ap (k+1) (by omega);have hul:2*b+k<2*N:=by omega
     have hvl:2*a+k<2*N:=by omega
     have wu:=Ap (2*b+k) (by omega);have wv:=Ap (2*a+k) (by omega);have hsu:=Wv (A2 p (2*b+k)) (A2 p (2*a+k)) (hg _ hul) (hg _ hvl);have hui:uI a b (2+k)=2*b+k:=by unfold uI;split<;>omega
     have hvi:vI a b (2+k)=2*a+k:=by unfold vI;split<;>omega
     have ones2:Gt (M.set br ⟨44,4,B5 (r.map A3)⟩):=ones0.set br (Kd _);have hrl:(B5 (r.map A3)).length=2*N:=by simp[B5];exact(Ik j2).1
     (repeat refine AW.seq ?_);refine AW.block ?_;(repeat refine AW.seq_k fun K hK=>?_);refine AW.rd [0,1,2,3,4,5,6,7,8,9,10,11,12,13,14,15,16,17,18] Ds ?_;simp[-Int.natCast_add,-Int.natCast_mul,wu,wv,hul,hvl,hpl,hrr];try (refine hK _ rfl ?_;clear hK K)
     cases hd:Db (A2 p (2*b+k)) (A2 p (2*a+k))with
     |none =>
      rw[hd,←D2,←D2,Eb]at hsu;unfold RR.av Cn at hsu;refine Aa.val hsu ?_;simp[-Int.natCast_add,-Int.natCast_mul];refine Af.intro fun b15 hb15=>?_;refine hK _ rfl ?_;clear hK K;(repeat refine AW.seq_k fun K hK=>?_);refine AW.rg ?_;simp[-Int.natCast_add,-Int.natCast_mul];try (refine hK _ rfl ?_;clear hK K)
      refine AW.yes ?_ rfl;(repeat refine AW.seq_k fun K hK=>?_);refine AW.rg ?_;simp[-Int.natCast_add,-Int.natCast_mul];try (refine hK _ rfl ?_;clear hK K)
      have hno:Qcx N es p (.tup [Bc [],.int .i64 2]) Ac.emp:=by
       have hs1:N0 N p a b (2+k+1)=none:=by rw[N0,j2,hui,hvi,Option.bind_some,hd];rfl
       have hs4:=Vl (t:=4) hs1 (by omega);have hm:=Vq (t:=es.length) (show Om N (Ae es) p (i+1)=none by rw[hsc,hs4];rfl) (by omega);unfold Qcx;rw[hm];exact⟨rfl,rfl⟩
      exact AW.ret (Ah [Bc [],.int .i64 2] rfl ⟨.nilsl 1,.same _,trivial⟩ hno)
     |some d =>
      rw[hd,←D2,←D2,Eb,←D2]at hsu;unfold RR.av at hsu;refine Aa.val hsu ?_;simp[-Int.natCast_add,-Int.natCast_mul];refine Af.intro fun b15 hb15=>?_;refine hK _ rfl ?_;clear hK K;have hst:N0 N p a b (2+(k+1))=some (r.set (2*b+k) d):=by
       rw[show 2+(k+1)=(2+k)+1 by omega,N0,j2,hui,hvi,Option.bind_some,hd];rfl
      refine AW.turn [(0,.int .i64 (N:Nat)),(1,.sl 6 (D3 es)),(2,.sl 4 (B5 (p.map A3))),(8,ov),(9,.int .i64 (i:Nat)),(10,.int .i64 ((2*a:Nat):Int)),(11,.int .i64 ((2*b:Nat):Int)),(12,.osl br 4 0 (2*N)),(16,.int .i64 (k:Nat)),(17,.rptr [.bool (A3 d).n1,Am (A3 d).l1,.bool (A3 d).n2,Am (A3 d).l2]),(18,.int .i64 0)] (M.set br ⟨44,4,B5 (r.map A3)⟩) (Bn.drop hb15 ones2)
       (by simp[-Int.natCast_add,-Int.natCast_mul];exact H5 hb15) ?_
      (repeat refine AW.seq_k fun K hK=>?_);refine AW.rg ?_;simp[-Int.natCast_mul];try (refine hK _ rfl ?_;clear hK K)
      refine AW.no ?_ rfl;refine AW.skip ?_;try simp[-Int.natCast_mul]
      try (refine hK _ rfl ?_;clear hK K)
      (repeat refine AW.seq_k fun K hK=>?_);refine AW.rg ?_;simp[-Int.natCast_add,-Int.natCast_mul,wu,hul,hrl];try (refine hK _ rfl ?_;clear hK K)
      rw[Qb3];(repeat refine AW.seq_k fun K hK=>?_);refine AW.rg ?_;simp[-Int.natCast_add,-Int.natCast_mul,wk];try (refine hK _ rfl ?_;clear hK K)
      exact⟨r.set (2*b+k) d,k+1,⟨by omega,by simpa using hst⟩,by omega,by rw[List.map_set],rfl⟩
    ·refine AW.exit ?_;try simp[-Int.natCast_mul]
     have:k=2:=by omega
     subst this;exact⟨r,j2,rfl⟩
   rintro r hr;have hrl:(B5 (r.map A3)).length=2*N:=by simp[B5];exact(Ik hr).1
   have hsr:Om N (Ae es) p (i+1)=some (E++[r]):=by rw[hsc,hr];rfl
   refine AW.turn [(0,.int .i64 (N:Nat)),(1,.sl 6 (D3 es)),(2,.sl 4 (B5 (p.map A3))),(8,ov),(9,.int .i64 (i:Nat)),(12,.sl 4 (B5 (r.map A3)))] M (Bn.drop hbr ones0) ?_ ?_
   ·simp[-Int.natCast_mul];exact Ex (Ac.set_same _ _ _) hbr hrl
   have hll:((Cj E).map A4).length≤40:=by simp[Cj];omega
   have hem:(Cj (E++[r])).map A4=(Cj E).map A4++[.sl 4 (B5 (r.map A3))]:=by simp[Cj,A4]
   have hfin:∀ov' ob' M',Gn M' 51 1 ov' ob' ((Cj E).map A4++[.sl 4 (B5 (r.map A3))])→Gn M' 51 1 ov' ob' ((Cj (E++[r])).map A4):=fun _ _ _ h=>by rw[hem];exact h
   generalize(Cj E).map A4=l at *;rcases g3.lst with⟨z1,z2,z3⟩ | ⟨b0,z2,z3,z4⟩
   ·subst z1 z2 z3;(repeat refine AW.seq_k fun K hK=>?_);refine AW.rgR [100] ?_;simp;try (refine hK _ rfl ?_;clear hK K)
    refine⟨by unfold maxLen;omega,Af.intro fun b' hb'=>?_⟩;(repeat refine AW.seq_k fun K hK=>?_);refine AW.rg ?_;simp[-Int.natCast_add,w1];try (refine hK _ rfl ?_;clear hK K)
    exact⟨⟨_,_,[b'],E++[r]⟩,i+1,⟨by omega,hsr,hfin _ _ _ (g3.push0 b' _)⟩,by omega,rfl,rfl,rfl⟩
   ·subst z2 z3;(repeat refine AW.seq_k fun K hK=>?_);refine AW.rgR [100] ?_;simp[z4];try (refine hK _ rfl ?_;clear hK K)
    refine⟨by omega,by unfold maxLen;omega,Af.intro fun b' hb'=>?_⟩;(repeat refine AW.seq_k fun K hK=>?_);refine AW.rg ?_;simp[-Int.natCast_add,w1];try (refine hK _ rfl ?_;clear hK K)
    exact⟨⟨_,_,[b'],E++[r]⟩,i+1,⟨by omega,hsr,hfin _ _ _ (g3.push1 b' _)⟩,by omega,rfl,rfl,rfl⟩
  ·refine AW.exit ?_;try simp
   have:i=es.length:=by omega
   subst this;exact⟨⟨M,ov,ob,E⟩,⟨g2,g3⟩,by simp⟩
 rintro⟨M,ov,ob,E⟩ ⟨g2,g3⟩;simp only at g2 g3;(repeat refine AW.seq_k fun K hK=>?_);refine AW.rg ?_;simp;try (refine hK _ rfl ?_;clear hK K)
 refine AW.ret (B9 rfl (g3.ones (Nr _)) ?_);unfold Qcx;rw[g2];exact⟨ov,ob,rfl,g3⟩
end Go.Av
end
section
namespace Go.Av
open Go.Proofs Go.Lam
noncomputable def Y7 (n:Int) (es:List RE) (p:List RR):AV :=
 if Io n es p=true then
  match (Om n.toNat (Ae es) (p.map RR.q) es.length).bind fun M=>(Pg n.toNat (p.map RR.q)).bind fun P=>some (M++P)with
  |some M=>Kr (Cj M)
  |none=>.tup [A4 [],.bool false,.int .i64 2]
 else .tup [A4 [],.bool false,.int .i64 1]
theorem Qlm {n:Int} {es:List RE} {p:List RR} (h:¬Io n es p=true):Y7 n es p=.tup [A4 [],.bool false,.int .i64 1]:=by unfold Y7;rw[if_neg h]
theorem Y4 {n:Int} {es:List RE} {p:List RR} (h:Io n es p=true):Y7 n es p=match (Om n.toNat (Ae es) (p.map RR.q) es.length).bind fun M=>(Pg n.toNat (p.map RR.q)).bind fun P=>some (M++P)with
  |some M=>Kr (Cj M)
  |none=>.tup [A4 [],.bool false,.int .i64 2]:=by unfold Y7;rw[if_pos h]
theorem Qdl (m:List (List RR)):∃a b c,Kr m=.tup [a,b,c]:=by
 unfold Kr;split<;>exact⟨_,_,_,rfl⟩
theorem Qka (n:Int) (es:List RE) (p:List RR):∃a b c,Y7 n es p=.tup [a,b,c]:=by
 unfold Y7;split
 ·split
  ·exact Qdl _
  ·exact⟨_,_,_,rfl⟩
 ·exact⟨_,_,_,rfl⟩
theorem Qe0 {n:Int} {es:List RE} {p:List RR} (hp:∀x∈p,x.Lb) (h:Io n es p=true):∃N:Nat,n=(N:Nat)∧1≤N∧N≤12∧Li (N:Int).toNat es∧es.length≤40∧C1 N (p.map RR.q)∧p=(p.map RR.q).map A3:=by
 unfold Io at h;simp only[Bool.and_eq_true,decide_eq_true_eq,List.all_eq_true]at h;obtain⟨⟨hk,h2⟩,h3⟩:=h;obtain⟨⟨q1,q2,q3⟩,_⟩:=E2 hk;obtain⟨N,rfl⟩:=Int.eq_ofNat_of_zero_le (show 0≤n by omega);refine⟨N,rfl,by omega,by omega,Mt hk,q3,⟨by simp;omega,fun q hq=>?_⟩,?_⟩
 ·obtain⟨x,hx,rfl⟩:=List.mem_map.1 hq;exact(E8 (hp x hx) (h3 x hx)).1
 ·rw[List.map_map]
  conv=>lhs;rw[←List.map_id p]
  exact List.map_congr_left fun x hx=>(E8 (hp x hx) (h3 x hx)).2
theorem Qk0 {n:Nat} {p:List Rat} {P:List (List Rat)} (h:Pg n p=some P):1≤P.length∧P.length≤3:=by
 unfold Pg at h;split at h
 ·cases h;simp
 ·obtain⟨d1,_,h2⟩:=Option.bind_eq_some_iff.1 h;obtain⟨d2,_,rfl⟩:=Option.map_eq_some_iff.1 h2;simp
theorem O5 (n:Int) (es:List RE) (p:List RR) (hb:Vv es) (hp:∀x∈p,x.Lb) (hpl:p.length<2^63):Aj Tryz.prog 32 [.int .i64 n,Bb es,A4 p] Ac.emp fun v m=>v=Y7 n es p∧m=Ac.emp:=by
 have hc:=Zl n es p hb hp;by_cases hpl:Io n es p=true;rotate_left
 ·have e1:Jl n es p=.int .i64 1:=by unfold Jl;rw[if_neg hpl]
  have hz:=Qlm hpl;rw[e1]at hc;refine Ad Tryz.func32 rfl rfl 46 rfl (Nat.le_of_ble_eq_true rfl) ?_;unfold Bb A4 at *;(repeat refine AW.seq_k fun K hK=>?_);refine AW.rg ?_;simp[Ak];try (refine hK _ rfl ?_;clear hK K)
  (repeat refine AW.seq_k fun K hK=>?_);refine AW.rg ?_;simp;try (refine hK _ rfl ?_;clear hK K)
  refine Aa.val hc ?_;simp;try (refine hK _ rfl ?_;clear hK K)
  (repeat refine AW.seq_k fun K hK=>?_);refine AW.rg ?_;simp;try (refine hK _ rfl ?_;clear hK K)
  refine AW.yes ?_ rfl;(repeat refine AW.seq_k fun K hK=>?_);refine AW.rg ?_;simp;try (refine hK _ rfl ?_;clear hK K)
  exact AW.ret (Ah [A4 [],.bool false,.int .i64 1] rfl ⟨.nilsl 4,.same _,.same _,trivial⟩ ⟨by rw[hz];rfl,rfl⟩)
 have e1:Jl n es p=.int .i64 0:=by unfold Jl;rw[if_pos hpl]
 rw[e1]at hc;obtain⟨N,rfl,N1,N2,hok,h3,hrow,hpe⟩:=Qe0 hp hpl;have hS:=Y4 hpl;simp only[Int.toNat_natCast]at hok hS;have heq:=U3 N es (p.map RR.q) N1 N2 hok h3 hrow;have hpi:=Qig N (p.map RR.q) N1 N2 hrow;generalize p.map RR.q=q at *;subst hpe;unfold eqR at heq;refine Ad Tryz.func32 rfl rfl 46 rfl (Nat.le_of_ble_eq_true rfl) ?_;unfold Bb A4 at hc;unfold Bb A4;(repeat refine AW.seq_k fun K hK=>?_);refine AW.rg ?_;simp[Ak];try (refine hK _ rfl ?_;clear hK K)
 (repeat refine AW.seq_k fun K hK=>?_);refine AW.rg ?_;simp;try (refine hK _ rfl ?_;clear hK K)
 refine Aa.val hc ?_;simp;try (refine hK _ rfl ?_;clear hK K)
 (repeat refine AW.seq_k fun K hK=>?_);refine AW.rg ?_;simp;try (refine hK _ rfl ?_;clear hK K)
 refine AW.no ?_ rfl;refine AW.skip ?_;try simp
 try (refine hK _ rfl ?_;clear hK K)
 cases hE:Om N (Ae es) q es.length with
 |none =>
  rw[hE]at heq hS;simp only[Option.bind_none]at hS;unfold Bc at heq;(repeat refine AW.seq_k fun K hK=>?_);refine AW.rg ?_;simp;try (refine hK _ rfl ?_;clear hK K)
  refine Aa.val heq ?_;simp;try (refine hK _ rfl ?_;clear hK K)
  (repeat refine AW.seq_k fun K hK=>?_);refine AW.rg ?_;simp;try (refine hK _ rfl ?_;clear hK K)
  refine AW.yes ?_ rfl;(repeat refine AW.seq_k fun K hK=>?_);refine AW.rg ?_;simp;try (refine hK _ rfl ?_;clear hK K)
  exact AW.ret (Ah [A4 [],.bool false,.int .i64 2] rfl ⟨.nilsl 4,.same _,.same _,trivial⟩ ⟨by rw[hS];rfl,rfl⟩)
 |some M =>
  rw[hE]at heq hS;simp only[Option.bind_some]at hS;obtain⟨gl,gg⟩:=H8 hE;have hMl:((Cj M).map A4).length=es.length:=by simp[Cj,gl]
  (repeat refine AW.seq_k fun K hK=>?_);refine AW.rg ?_;simp;try (refine hK _ rfl ?_;clear hK K)
  refine Aa.whole (fun _ h=>h) heq ?_;rintro _ X ⟨B,rfl,rfl⟩;simp;try (refine hK _ rfl ?_;clear hK K)
  (repeat refine AW.seq_k fun K hK=>?_);refine AW.rg ?_;simp;try (refine hK _ rfl ?_;clear hK K)
  refine AW.no ?_ rfl;refine AW.skip ?_;try simp
  try (refine hK _ rfl ?_;clear hK K)
  unfold Vy at hpi;cases hP:Pg N q with
  |none =>
   rw[hP]at hpi hS;simp only at hpi;simp only[Option.bind_none]at hS;unfold Bc at hpi;(repeat refine AW.seq_k fun K hK=>?_);refine AW.rg ?_;simp;try (refine hK _ rfl ?_;clear hK K)
   refine Aa.val hpi ?_;simp;try (refine hK _ rfl ?_;clear hK K)
   (repeat refine AW.seq_k fun K hK=>?_);refine AW.rg ?_;simp;try (refine hK _ rfl ?_;clear hK K)
   refine AW.yes ?_ rfl;(repeat refine AW.seq_k fun K hK=>?_);refine AW.rg ?_;simp;try (refine hK _ rfl ?_;clear hK K)
   exact AW.ret (Ah [A4 [],.bool false,.int .i64 2] rfl ⟨.nilsl 4,.same _,.same _,trivial⟩ ⟨by rw[hS];rfl,rfl⟩)
  |some P =>
   rw[hP]at hpi hS;simp only at hpi;simp only[Option.bind_some]at hS;have hPl:=Qk0 hP;have hPl2:((Cj P).map A4).length≤3:=by simpa[Cj]using hPl.2
   have hPl1:1≤((Cj P).map A4).length:=by simpa[Cj]using hPl.1
   have hone:∀x∈(Cj P).map A4,x.cells.length=1∧∀y∈x.cells,y.one=true:=fun x hx=>by
    obtain⟨y,_,rfl⟩:=List.mem_map.1 hx;exact⟨rfl,by simp[A4,AV.cells,AV.one]⟩
   have hfi:=Qen (Cj (M++P)) (Ts _);rw[←hS]at hfi;have happ:Bc (Cj (M++P))=.sl 1 ((Cj M).map A4++(Cj P).map A4):=by unfold Bc Cj;rw[List.map_append,List.map_append]
   rw[happ]at hfi;obtain⟨r1,r2,r3,hr⟩:=Qka N es (q.map A3);rw[hr]at hfi ⊢;unfold Bc at hpi;generalize(Cj M).map A4=LM at *;generalize(Cj P).map A4=LP at *;(repeat refine AW.seq_k fun K hK=>?_);refine AW.rg ?_;simp;try (refine hK _ rfl ?_;clear hK K)
   refine Aa.val hpi ?_;simp;try (refine hK _ rfl ?_;clear hK K)
   (repeat refine AW.seq_k fun K hK=>?_);refine AW.rg ?_;simp;try (refine hK _ rfl ?_;clear hK K)
   refine AW.no ?_ rfl;refine AW.skip ?_;try simp
   try (refine hK _ rfl ?_;clear hK K)
   (repeat refine AW.seq_k fun K hK=>?_);refine AW.rg ?_;simp[hone];try (refine hK _ rfl ?_;clear hK K)
   (repeat refine⟨by first | omega | exact hone | (unfold maxLen;omega),?_⟩);refine Af.intro fun b' hb'=>?_;refine Aa.whole (fun _ h=>h) (Aj.view (args':=[.sl 1 (LM++LP)]) ⟨rfl,fun j u u' h1 h2=>?_⟩ hfi) ?_
   ·match j with
    |0=>cases h1;cases h2;exact Ex (Ac.set_same _ _ _) rfl (by simp[hMl])
    |k+1=>cases h1
   rintro _ _ ⟨rfl,rfl⟩;simp;try (refine hK _ rfl ?_;clear hK K)
   exact AW.ret (Ah [r1,r2,r3] rfl ⟨.same _,.same _,.same _,trivial⟩ ⟨rfl,rfl⟩)
end Go.Av
end
section
namespace Go.Av
open Go.Proofs Go.Lam
def eI (l:List Nat) (k:Nat):List RE:=(List.range k).map fun j=>⟨(l.getD (2*j) 0:Nat),(l.getD (2*j+1) 0:Nat),A3 1⟩
def S9 (l:List Nat):List RE:=eI l (l.length / 2)
theorem Qna (l:List Nat) (k:Nat):eI l (k+1)=eI l k++[⟨(l.getD (2*k) 0:Nat),(l.getD (2*k+1) 0:Nat),A3 1⟩]:=by
 unfold eI;rw[List.range_succ,List.map_append];rfl
theorem Vg (l:List Nat) (hl:l.length≤100):Aj Tryz.prog 47 [.sl 1 (Ar l)] Ac.emp fun v m=>v=Bb (S9 l)∧m=Ac.emp:=by
 have hw:=Hh 1 (by omega) (by omega);rw[J0]at hw;unfold RR.av at hw;refine Ad Tryz.func47 rfl rfl 27 rfl (Nat.le_of_ble_eq_true rfl) ?_;(repeat refine AW.seq_k fun K hK=>?_);refine AW.rg ?_;simp[Ak];try (refine hK _ rfl ?_;clear hK K)
 (repeat refine AW.seq_k fun K hK=>?_);refine AW.rg ?_;simp;try (refine hK _ rfl ?_;clear hK K)
 refine AW.seq_ex (ι:=Wz) (fun z=>[(3,z.ov)]) (fun z=>z.M) (fun z=>Gn z.M 46 6 z.ov z.ob (D3 (S9 l))) ?_ ?_
 ·(repeat refine AW.seq_k fun K hK=>?_);refine AW.rg ?_;simp;try (refine hK _ rfl ?_;clear hK K)
  refine AW.block (AW.loopS (ι:=Nat × Wz) (fun z=>[(0,.sl 1 (Ar l)),(3,z.2.ov),(4,.int .i64 ((2*z.1:Nat):Int))]) (fun z=>z.2.M) (fun z=>2*z.1≤l.length∧Gn z.2.M 46 6 z.2.ov z.2.ob (D3 (eI l z.1))) (fun z=>l.length-z.1) (0,⟨Ac.emp,.nil,[]⟩) ⟨by simp,Gn.start _ _⟩ rfl (by simp) ?_);rintro⟨i,M,ov,ob⟩ ⟨g1,g2⟩;simp only at g1 g2;simp only;have w1:=Ap (2*i+1) (by omega);have w2:=Ap (2*i+2) (by omega);(repeat refine AW.seq_k fun K hK=>?_);refine AW.rg ?_;simp[-Int.natCast_add,-Int.natCast_mul,w1];try (refine hK _ rfl ?_;clear hK K)
  (repeat refine AW.seq ?_);refine AW.cs (fun hi=>?_) (fun hi=>?_) rfl<;>(try simp at hi)
  ·refine AW.skip ?_;try simp[-Int.natCast_add,-Int.natCast_mul]
   try (refine hK _ rfl ?_;clear hK K)
   have h0:2*i<l.length:=by omega
   have e0:l.getD (2*i) 0=l[2*i]:=by rw[List.getD_eq_getElem?_getD,List.getElem?_eq_getElem h0];rfl
   have e1:l.getD (2*i+1) 0=l[2*i+1]:=by rw[List.getD_eq_getElem?_getD,List.getElem?_eq_getElem hi];rfl
   have hst:D3 (eI l (i+1))=D3 (eI l i)++[.agg [.int .i64 (l[2*i]:Nat),.int .i64 (l[2*i+1]:Nat),.bool (A3 1).n1,Am (A3 1).l1,.bool (A3 1).n2,Am (A3 1).l2]]:=by
    rw[Qna,e0,e1];unfold D3;rw[List.map_append];rfl
   have hfin:∀s:Wz,Gn s.M 46 6 s.ov s.ob (D3 (eI l i)++[.agg [.int .i64 (l[2*i]:Nat),.int .i64 (l[2*i+1]:Nat),.bool (A3 1).n1,Am (A3 1).l1,.bool (A3 1).n2,Am (A3 1).l2]])→Gn s.M 46 6 s.ov s.ob (D3 (eI l (i+1))):=fun s h=>by rw[hst];exact h
   have hll:(D3 (eI l i)).length≤100:=by simp[eI];omega
   generalize D3 (eI l i)=LL at *;(repeat refine AW.seq ?_);refine AW.block ?_;rcases g2.lst with⟨z1,z2,z3⟩ | ⟨b0,z2,z3,z4⟩
   ·subst z1 z2 z3;refine AW.rdR [24] [0,1,2,3,4,5,6,7,8,9,10,11,12,13,14] Ds ?_;simp[-Int.natCast_add,-Int.natCast_mul,h0,hi,w1];refine Aa.val hw ?_;simp[-Int.natCast_add,-Int.natCast_mul];refine⟨by unfold maxLen;omega,Af.intro fun b hb=>?_⟩;(repeat refine AW.seq_k fun K hK=>?_);refine AW.rg ?_;simp[-Int.natCast_add,-Int.natCast_mul,w2];try (refine hK _ rfl ?_;clear hK K)
    exact⟨i+1,⟨_,_,[b]⟩,⟨by omega,hfin _ (g2.push0 b _)⟩,by omega,rfl,rfl,rfl⟩
   ·subst z2 z3;refine AW.rdR [24] [0,1,2,3,4,5,6,7,8,9,10,11,12,13,14] Ds ?_;simp[-Int.natCast_add,-Int.natCast_mul,h0,hi,w1,z4];refine Aa.val hw ?_;simp[-Int.natCast_add,-Int.natCast_mul,z4];refine⟨by omega,by unfold maxLen;omega,Af.intro fun b hb=>?_⟩;(repeat refine AW.seq_k fun K hK=>?_);refine AW.rg ?_;simp[-Int.natCast_add,-Int.natCast_mul,w2];try (refine hK _ rfl ?_;clear hK K)
    exact⟨i+1,⟨_,_,[b]⟩,⟨by omega,hfin _ (g2.push1 b _)⟩,by omega,rfl,rfl,rfl⟩
  ·refine AW.exit ?_;try simp[-Int.natCast_add,-Int.natCast_mul]
   have:i=l.length / 2:=by omega
   exact⟨⟨M,ov,ob⟩,by unfold S9;rw[←this];exact g2,by simp⟩
 rintro⟨M,ov,ob⟩ g1;(repeat refine AW.seq_k fun K hK=>?_);refine AW.rg ?_;simp;try (refine hK _ rfl ?_;clear hK K)
 have hv:=g1.lst.view (M':=Ac.emp) (fun _ _=>rfl);exact AW.ret (Ah [Bb (S9 l)] rfl ⟨hv,trivial⟩ ⟨rfl,rfl⟩)
end Go.Av
end
section
namespace Go.Av
open Go.Proofs Go.Lam
def l4:List Nat:=[0,1,1,2,2,3,3,0]
def l6:List Nat:=[0,1,1,2,2,3,3,0,0,2,1,3]
def exP:List Rat:=[0,0,1,0,1,1,0,1]
def exM:List (List Rat):=((Om 4 (Ae (S9 l4)) exP 4).bind fun M=>(Pg 4 exP).bind fun P=>some (M++P)).getD []
def exZ:List (List Rat) × List Nat:=(Er exM).getD ([],[])
theorem Yk:Dd 4 (S9 l4)=true:=by decide +kernel
theorem Qn1:Gq 4 (S9 l4)=[0,1,2,3]:=by decide +kernel
theorem Qow:O2 4 (S9 l4)=.int .i64 1:=by unfold O2;rw[if_pos Yk,Qn1];rfl
theorem Qbe:Cz 4 (S9 l4)=.int .i64 0:=by unfold Cz;rw[if_pos Yk]
theorem Qm6:(T5 4 (S9 l4)).length=4:=by decide +kernel
theorem Qnp:∃l,L4 4 (S9 l6) 5=.tup [.sl 1 (Ar l),.int .i64 0]∧l.length=6:=by
 have h:I3 4 (S9 l6) 5=0:=by decide +kernel
 refine⟨_,by unfold L4;rw[h],?_⟩;decide +kernel
theorem Q0n:((Om 4 (Ae (S9 l4)) exP 4).bind fun M=>(Pg 4 exP).bind fun P=>some (M++P))=some exM:=by decide +kernel
theorem Qjk:Bu 7 8 exM:=⟨by unfold Eg Cd;decide +kernel,by unfold Lf;decide +kernel,by decide +kernel⟩
theorem Qsg:Er exM=some exZ:=by decide +kernel
theorem Qsi:∃v V,Je exZ.1 exZ.2 8 8=v::V∧v.length=8∧A2 v 4=1:=by
 have h:(match Je exZ.1 exZ.2 8 8 with | v::_=>decide (v.length=8∧A2 v 4=1) | []=>false)=true:=by decide +kernel
 cases hk:Je exZ.1 exZ.2 8 8 with
 |nil=>rw[hk]at h;cases h
 |cons v V=>rw[hk]at h;simp only[decide_eq_true_eq]at h;exact⟨v,V,rfl,h.1,h.2⟩
theorem Qr1:(exP.map A3).all RR.ok=true:=by decide +kernel
theorem Qs4:∃v:List Rat,Y7 4 (S9 l4) (exP.map A3)=.tup [A4 (v.map A3),.bool true,.int .i64 0]∧v.length=8∧A2 v 4=1:=by
 obtain⟨v,V,h1,h2,h3⟩:=Qsi;refine⟨v,?_,h2,h3⟩;have hp:Io 4 (S9 l4) (exP.map A3)=true:=by unfold Io;rw[Yk,Qr1];rfl
 have hq:(exP.map A3).map RR.q=exP:=by
  rw[List.map_map]
  conv=>rhs;rw[←List.map_id exP]
  exact List.map_congr_left fun q _=>Hg q
 rw[Y4 hp,hq];have e4:(S9 l4).length=4:=by decide +kernel
 have hc:=Qbg Qjk (by decide +kernel) (by omega) (by omega);have hw:(Al (Cj exM) 0).length=8:=by rw[Cs,List.length_map];decide +kernel
 have hr:Gd (Cj exM)=(0,exZ.1,exZ.2):=by
  unfold Gd;rw[if_neg (by simp[hc]),Qf6,Qsg]
 have hR:Up (Cj exM)=(0,v::V):=by
  unfold Up;rw[hr,if_neg (by simp),hw,h1]
 rw[e4,show(4:Int).toNat=4 from rfl,Q0n];simp only;unfold Kr;rw[hR];rfl
theorem Aa.eat {P:Program} {av:Nat→Prop} {f:FuncId} {args:List AV} {M:Ac} {k:AV→Ac→Prop} {v:AV} {args':List AV} (h:Aj P f args' Ac.emp fun v' m'=>v'=v∧m'=Ac.emp) (hv:D9 M Ac.emp args args') (hk:k v Ac.emp) (hav:∀b,¬av b:=by exact fun _ h=>h):Aa P av f args M k :=
 Aa.whole hav (Aj.view (Di hv) h) (by rintro _ _ ⟨rfl,rfl⟩;exact hk)
theorem Yw:Aj Tryz.prog 17 [] Ac.emp fun v m=>v=.bool true∧m=Ac.emp:=by
 have hlb:∀l,Vv (S9 l):=fun l x hx=>by
  unfold S9 eI at hx;obtain⟨j,_,rfl⟩:=List.mem_map.1 hx;exact Fj _
 have hln:True:=trivial;have he4:=Vg l4 (by decide);have he6:=Vg l6 (by decide);have hfr:=M9 4 (S9 l4) (hlb _);have hcl:=Qdx 4 (S9 l4) (hlb _) (fun _=>by omega);have hmo:=O5 4 (S9 l4) (exP.map A3) (hlb _) (fun x hx=>by obtain⟨q,_,rfl⟩:=List.mem_map.1 hx;exact Fj _) (by decide);have hci:=Qd5 4 (S9 l6) 5 (hlb _);obtain⟨cl,c1,c2⟩:=Qnp;obtain⟨v,m1,m2,m3⟩:=Qs4;have hcn:=Qm6;have hv4:Cd (A2 v 4):=by rw[m3];exact Z4
 have hs:=Nv (a:=A2 v 4) (b:=1) hv4;rw[decide_eq_true m3]at hs;rw[Qow,Qbe]at hfr;rw[Qbe]at hcl;rw[m1]at hmo;rw[c1]at hci;have hw0:=Hh 0 (by omega) (by omega);have hw1:=Hh 1 (by omega) (by omega);rw[H4]at hw0;rw[J0]at hw1;have hrow:A4 (exP.map A3)=.sl 4 [(A3 0).av,(A3 0).av,(A3 1).av,(A3 0).av,(A3 1).av,(A3 1).av,(A3 0).av,(A3 1).av]:=rfl;rw[hrow]at hmo;have hi4:AV.sl 1 (Ar l4)=.sl 1 [.int .i64 0,.int .i64 1,.int .i64 1,.int .i64 2,.int .i64 2,.int .i64 3,.int .i64 3,.int .i64 0]:=rfl
 have hi6:AV.sl 1 (Ar l6)=.sl 1 [.int .i64 0,.int .i64 1,.int .i64 1,.int .i64 2,.int .i64 2,.int .i64 3,.int .i64 3,.int .i64 0,.int .i64 0,.int .i64 2,.int .i64 1,.int .i64 3]:=rfl;rw[hi4]at he4;rw[hi6]at he6;generalize S9 l4=E4 at *;generalize S9 l6=E6 at *;generalize T5 4 E4=CS at *;generalize(A3 0)=Q0 at *;generalize hQ1:(A3 1)=Q1 at *;refine Ad Tryz.func17 rfl rfl 89 rfl (Nat.le_of_ble_eq_true rfl) ?_;(repeat refine AW.seq_k fun K hK=>?_);refine AW.rg ?_;simp[Ak];try (refine hK _ rfl ?_;clear hK K)
 (repeat refine AW.seq_k fun K hK=>?_);refine AW.rg ?_;simp;try (refine hK _ rfl ?_;clear hK K)
 refine Af.intro fun b1 hb1=>?_;refine Aa.eat he4 ⟨Ex (Ac.set_same _ _ _) rfl rfl,trivial⟩ ?_;simp;try (refine hK _ rfl ?_;clear hK K)
 unfold Bb at *;(repeat refine AW.seq_k fun K hK=>?_);refine AW.rg ?_;simp;try (refine hK _ rfl ?_;clear hK K)
 refine Aa.val hfr ?_;simp;try (refine hK _ rfl ?_;clear hK K)
 (repeat refine AW.seq_k fun K hK=>?_);refine AW.rg ?_;simp;try (refine hK _ rfl ?_;clear hK K)
 refine Aa.val hcl ?_;simp;try (refine hK _ rfl ?_;clear hK K)
 (repeat refine AW.seq_k fun K hK=>?_);refine AW.rg ?_;simp;try (refine hK _ rfl ?_;clear hK K)
 refine Aa.val hw0 ?_;simp;refine Aa.val hw0 ?_;simp;refine Aa.val hw1 ?_;simp;refine Aa.val hw0 ?_;simp;refine Aa.val hw1 ?_;simp;refine Aa.val hw1 ?_;simp;refine Aa.val hw0 ?_;simp;refine Aa.val hw1 ?_;simp;refine Af.intro fun b2 hb2=>?_;try (refine hK _ rfl ?_;clear hK K)
 (repeat refine AW.seq_k fun K hK=>?_);refine AW.rg ?_;simp;try (refine hK _ rfl ?_;clear hK K)
 refine Aa.eat hmo ⟨.same _,.same _,Ex (Ac.set_same _ _ _) rfl rfl,trivial⟩ ?_;simp;try (refine hK _ rfl ?_;clear hK K)
 (repeat refine AW.seq_k fun K hK=>?_);refine AW.rg ?_;simp;try (refine hK _ rfl ?_;clear hK K)
 refine Af.intro fun b3 hb3=>?_;refine Aa.eat he6 ⟨Ex (Ac.set_same _ _ _) rfl rfl,trivial⟩ ?_;simp;refine Aa.val hci ?_;simp;try (refine hK _ rfl ?_;clear hK K)
 have hcl4:(Gm CS).length=4:=by unfold Gm;simpa using hcn
 have hr4:rr (v.map A3) 4=A3 (A2 v 4):=by rw[K8 (by simp[m2])];unfold A2;simp[m2]
 generalize A3 (A2 v 4)=q4 at *;unfold RR.av at hs hw1;unfold A4;(repeat refine AW.seq_k fun K hK=>?_);refine AW.rd [0,1,2,3,4,5,6,7,8,9,10,11,12,13,14,15,16,17,18,19,20,21,22,23,24,25,26,27,28,29,30,31,32,33,34,35,36,37,38,39,40,41,42,43] Ds ?_;simp[hcl4,m2,c2,hr4];try (refine hK _ rfl ?_;clear hK K)
 refine Aa.val hw1 ?_;simp[hcl4,m2,c2,hr4];refine Aa.val hs ?_;simp[hcl4,m2,c2,hr4];try (refine hK _ rfl ?_;clear hK K)
 exact AW.ret (Ag rfl _ (.same _) ⟨rfl,rfl⟩)
end Go.Av
end
section
namespace Go.Av
open Go.Proofs Go.Lam
theorem Uy (a:Int):∃r:Nat,r<65536∧Gx .and .i64 a 65535=(r:Int):=by
 have h:(BitVec.ofInt 64 a &&& BitVec.ofInt 64 65535).toNat<65536:=by
  rw[BitVec.toNat_and];have:=Nat.and_le_right (n:=(BitVec.ofInt 64 a).toNat) (m:=(BitVec.ofInt 64 65535).toNat);have e:(BitVec.ofInt 64 65535).toNat=65535:=by decide
  omega
 refine⟨(BitVec.ofInt 64 a &&& BitVec.ofInt 64 65535).toNat,h,?_⟩;show IntKind.i64.wrap (((BitVec.ofInt 64 a &&& BitVec.ofInt 64 65535).toNat:Nat):Int)=_
 exact wi (by omega)
theorem Vv.snoc {o:List RE} (h:Vv o) {x:RE} (hx:x.sq.Lb):Vv (o++[x]):=fun y hy=>by
 rcases List.mem_append.1 hy with h1|h1
 ·exact h y h1
 ·simp at h1;subst h1;exact hx
theorem Qke {N:Nat} (h2:2≤N) (h8:N≤8):Dd (N:Nat) []=true:=by
 unfold Dd;simp;omega
theorem se0 (a b c d e f v:AV) (hv:v.cells=[v]):B7 6 1 (.agg [a,b,c,d,e,f]) v 0=.agg [v,b,c,d,e,f]:=by simp only[B7,hv];rfl
theorem se1 (a b c d e f v:AV) (hv:v.cells=[v]):B7 6 1 (.agg [a,b,c,d,e,f]) v 1=.agg [a,v,c,d,e,f]:=by simp only[B7,hv];rfl
theorem se2 (a b c d e f p q r s:AV):B7 6 4 (.agg [a,b,c,d,e,f]) (.agg [p,q,r,s]) 2=.agg [a,b,p,q,r,s]:=by simp[B7,AV.cells]
def Qum (N:Nat) (v:AV):Prop:=∃es,v=Bb es∧Dd (N:Nat) es=true∧Vv es∧es.length≤24
theorem Qdb (N:Nat) (l:List RE) (h2:2≤N) (h8:N≤8) (hl:l.length<2^63):Aj Tryz.prog 25 [.int .i64 (N:Nat),Bb l] Ac.emp fun v m=>Qum N v∧m=Ac.emp:=by
 have hw:=Hh 1 (by omega) (by omega);rw[J0]at hw;unfold RR.av at hw;have hN0:¬N=0:=by omega
 refine Ad Tryz.func25 rfl rfl 50 rfl (Nat.le_of_ble_eq_true rfl) ?_;unfold Bb;(repeat refine AW.seq_k fun K hK=>?_);refine AW.rg ?_;simp[Ak];try (refine hK _ rfl ?_;clear hK K)
 (repeat refine AW.seq_k fun K hK=>?_);refine AW.rg ?_;simp;try (refine hK _ rfl ?_;clear hK K)
 refine AW.turn [(0,.int .i64 (N:Nat)),(1,.sl 6 (D3 l)),(5,.sl 6 (D3 []))] Ac.emp (Bn.refl _ (by intro b x hx;cases hx)) (by simp;exact .nilsl 6) ?_;refine AW.seq_ex (ι:=List RE) (fun o=>[(5,.sl 6 (D3 o))]) (fun _=>Ac.emp) (fun o=>Dd (N:Nat) o=true∧Vv o∧o.length≤24) ?_ ?_
 ·(repeat refine AW.seq_k fun K hK=>?_);refine AW.rg ?_;simp;try (refine hK _ rfl ?_;clear hK K)
  refine AW.block (AW.loopS (ι:=List RE × Nat) (fun z=>[(0,.int .i64 (N:Nat)),(1,.sl 6 (D3 l)),(5,.sl 6 (D3 z.1)),(6,.int .i64 (z.2:Nat))]) (fun _=>Ac.emp) (fun z=>z.2≤l.length∧Dd (N:Nat) z.1=true∧Vv z.1∧z.1.length≤24) (fun z=>l.length-z.2) ([],0) ⟨by simp,Qke h2 h8,fun x hx=>(by cases hx),by simp⟩ rfl (by simp) ?_);rintro⟨o,i⟩ ⟨g1,g2,g3,g4⟩;simp only at g1 g2 g3 g4;simp only;by_cases hi:i<l.length
  ·by_cases ho:o.length<24
   ·have ho':(o.length:Int)<24:=by omega
    (repeat refine AW.seq_k fun K hK=>?_);refine AW.rg ?_;simp[hi,ho'];try (refine hK _ rfl ?_;clear hK K)
    refine AW.yes ?_ rfl;refine AW.skip ?_;try simp
    try (refine hK _ rfl ?_;clear hK K)
    have w1:=Ap (i+1) (by omega);obtain⟨ra,ra1,ra2⟩:=Uy (H1 l i).a;obtain⟨rb,rb1,rb2⟩:=Uy (H1 l i).b;(repeat refine AW.seq ?_);refine AW.block ?_;(repeat refine AW.seq_k fun K hK=>?_);refine AW.rg ?_;simp[hi,Ck];try (refine hK _ rfl ?_;clear hK K)
    refine Af.intro fun b7 hb7=>?_;try (refine hK _ rfl ?_;clear hK K)
    (repeat refine AW.seq_k fun K hK=>?_);refine AW.rg ?_;simp[-Int.natCast_emod,Ck,ra2,hN0,se0];try (refine hK _ rfl ?_;clear hK K)
    try (refine hK _ rfl ?_;clear hK K)
    (repeat refine AW.seq_k fun K hK=>?_);refine AW.rg ?_;simp[-Int.natCast_emod,Ck,rb2,hN0,se1];try (refine hK _ rfl ?_;clear hK K)
    try (refine hK _ rfl ?_;clear hK K)
    (repeat refine AW.seq_k fun K hK=>?_);refine AW.rg ?_;simp[-Int.natCast_emod];try (refine hK _ rfl ?_;clear hK K)
    refine Aa.val hw ?_;simp[-Int.natCast_emod,se2];try (refine hK _ rfl ?_;clear hK K)
    refine AW.toEmp [(0,.int .i64 (N:Nat)),(1,.sl 6 (D3 l)),(5,.sl 6 (D3 o)),(6,.int .i64 (i:Nat)),(7,.rptr [.int .i64 ((ra % N:Nat):Int),.int .i64 ((rb % N:Nat):Int),.bool (A3 1).n1,Am (A3 1).l1,.bool (A3 1).n2,Am (A3 1).l2])] (by simp[-Int.natCast_emod];exact .ptr b7 6 0 0 _ (.agg _) (Ac.set_same _ _ _) rfl rfl rfl) ?_;refine AW.seq_k fun K hK=>?_;refine AW.rdV [42] [1,3,4,0,2,5,6] Ds ?_;simp[-Int.natCast_emod];have ee:∀x∈D3 o,x.cells.length=6∧∀y∈x.cells,y.one=true:=fun x hx=>by
     obtain⟨e,_,rfl⟩:=List.mem_map.1 hx;exact⟨e.av_len,List.all_eq_true.1 e.av_ones⟩
    refine Af.intro fun b _=>⟨ee,by omega,by unfold maxLen;omega,Af.intro fun b' _=>⟨by omega,by unfold maxLen;omega,Af.intro fun b'' hb''=>?_⟩⟩;refine hK _ rfl ?_;clear hK K;obtain⟨X,hX⟩:∃X:RE,X=⟨(ra % N:Nat),(rb % N:Nat),A3 1⟩:=⟨_,rfl⟩;have hXa:X.av=.agg [.int .i64 ((ra % N:Nat):Int),.int .i64 ((rb % N:Nat):Int),.bool (A3 1).n1,Am (A3 1).l1,.bool (A3 1).n2,Am (A3 1).l2]:=by rw[hX];rfl
    have hsn:D3 o++[X.av]=D3 (o++[X]):=by simp[D3]
    rw[←hXa];refine AW.toEmp [(0,.int .i64 (N:Nat)),(1,.sl 6 (D3 l)),(5,.sl 6 (D3 o)),(6,.int .i64 (i:Nat)),(8,.sl 6 (D3 (o++[X])))] (by simp[-Int.natCast_emod];rw[←hsn];exact Ex (Ac.set_same _ _ _) rfl (by simp)) ?_;have hl':Vv (o++[X]):=g3.snoc (by rw[hX];exact Fj _);have hck:=Qe1 (N:Nat) (o++[X]) hl';unfold Bb Cz at hck;cases hc:Dd (N:Nat) (o++[X])with
    |true =>
     rw[hc]at hck;(repeat refine AW.seq_k fun K hK=>?_);refine AW.rg ?_;simp;try (refine hK _ rfl ?_;clear hK K)
     refine Aa.val hck ?_;simp;try (refine hK _ rfl ?_;clear hK K)
     refine AW.yes ?_ rfl;(repeat refine AW.seq_k fun K hK=>?_);refine AW.rg ?_;simp;try (refine hK _ rfl ?_;clear hK K)
     (repeat refine AW.seq_k fun K hK=>?_);refine AW.rg ?_;simp[-Int.natCast_add,w1];try (refine hK _ rfl ?_;clear hK K)
     exact⟨o++[X],i+1,⟨by omega,hc,hl',by simp;omega⟩,by omega,rfl,rfl⟩
    |false =>
     rw[hc]at hck;(repeat refine AW.seq_k fun K hK=>?_);refine AW.rg ?_;simp;try (refine hK _ rfl ?_;clear hK K)
     refine Aa.val hck ?_;simp;try (refine hK _ rfl ?_;clear hK K)
     refine AW.no ?_ rfl;refine AW.skip ?_;try simp
     try (refine hK _ rfl ?_;clear hK K)
     (repeat refine AW.seq_k fun K hK=>?_);refine AW.rg ?_;simp[-Int.natCast_add,w1];try (refine hK _ rfl ?_;clear hK K)
     exact⟨o,i+1,⟨by omega,g2,g3,g4⟩,by omega,rfl,rfl⟩
   ·have ho':¬(o.length:Int)<24:=by omega
    (repeat refine AW.seq_k fun K hK=>?_);refine AW.rg ?_;simp[hi,ho'];try (refine hK _ rfl ?_;clear hK K)
    refine AW.no ?_ rfl;refine AW.exit ?_;try simp
    exact⟨o,⟨g2,g3,g4⟩,rfl⟩
  ·(repeat refine AW.seq_k fun K hK=>?_);refine AW.rg ?_;simp[hi];try (refine hK _ rfl ?_;clear hK K)
   refine AW.no ?_ rfl;refine AW.exit ?_;try simp
   exact⟨o,⟨g2,g3,g4⟩,rfl⟩
 ·rintro o ⟨g2,g3,g4⟩;(repeat refine AW.seq_k fun K hK=>?_);refine AW.rg ?_;simp;try (refine hK _ rfl ?_;clear hK K)
  exact AW.ret (Ah [Bb o] rfl ⟨.same _,trivial⟩ ⟨⟨o,rfl,g2,g3,g4⟩,rfl⟩)
end Go.Av
end
section
namespace Go.Av
open Go.Proofs Go.Lam
def okB (n:Int) (x:RE):Prop:=0≤x.a∧x.a<n∧0≤x.b∧x.b<n∧x.a≠x.b∧x.sq.ok=true∧0<Dx x.sq
def Qtm (y x:RE):Prop:=Bw x y=false
theorem Qgm {n:Int} {es:List RE}:Dd n es=true↔(1≤n∧n≤12∧es.length≤40)∧(∀x∈es,okB n x)∧es.Pairwise Qtm:=by
 constructor
 ·intro h;obtain⟨h1,h2⟩:=E2 h;refine⟨h1,fun x hx=>?_,List.pairwise_iff_getElem.2 fun i j hi hj hij=>?_⟩
  ·obtain⟨i,hi,rfl⟩:=List.getElem_of_mem hx;obtain⟨q1,q2,q3,q4,q5,q6,q7,_⟩:=P6 (h2 i hi);rw[Jd hi]at *;exact⟨q1,q2,q3,q4,q5,q6,q7⟩
  ·obtain⟨_,_,_,_,_,_,_,q8⟩:=P6 (h2 j hj);rw[Jd hj]at q8;have:=List.any_eq_false.1 q8 es[i] (List.mem_take_iff_getElem.2 ⟨i,by omega,rfl⟩);simpa[Qtm]using this
 ·rintro⟨⟨h1,h2,h3⟩,h4,h5⟩;unfold Dd;have:(List.range es.length).all (Pu n es)=true:=List.all_eq_true.2 fun i hi=>by
   have hi:=List.mem_range.1 hi;unfold Pu;obtain⟨q1,q2,q3,q4,q5,q6,q7⟩:=h4 _ (List.getElem_mem hi);refine Ul ?_;rw[Jd hi];refine⟨q1,q2,q3,q4,q5,q6,q7,List.any_eq_false.2 fun y hy=>?_⟩;obtain⟨j,hj,rfl⟩:=List.mem_take_iff_getElem.1 hy;have:=List.pairwise_iff_getElem.1 h5 j i (by omega) hi (by omega);simpa[Qtm]using this
  rw[this];simp[h1,h2,h3]
end Go.Av
end
section
namespace Go.Av
open Go.Proofs Go.Lam
theorem Uc {p:Nat→Bool}:∀{s t:List Nat},s.Nodup→(∀x∈s,x∈t)→s.countP p≤t.countP p
 |[],t,_,_=>by simp
 |a::s,t,hn,h=>by
  obtain⟨h1,h2⟩:=List.nodup_cons.1 hn;have hp:t.Perm (a::t.erase a):=List.perm_cons_erase (h a (by simp));have:=Uc (p:=p) (s:=s) (t:=t.erase a) h2 fun x hx=>(List.mem_erase_of_ne (fun e=>h1 (by rw[←e];exact hx))).2 (h x (by simp[hx]));rw[hp.countP_eq,List.countP_cons,List.countP_cons];omega
section
variable {n:Nat} {E:Nat→Ed}
theorem Qjm {s:List Nat} (hs:∀k∈s,C0 n (E k)) {k:Nat} (hk:k∈s):∃X,Dv n ((Bx n E [] s).map E) X∧ins X (E k)=true:=by
 have hsp:=D1 (n:=n) (E:=E) (out:=[]) (s:=s) (by simp) hs (Ba.nil n);have hok:=Xe (n:=n) (E:=E) (out:=[]) (s:=s) (by simp) hs;by_cases h:k∈Bx n E [] s
 ·refine⟨_,Ip (fun e he=>?_) hsp (List.mem_map.2 ⟨k,h,rfl⟩),Qjy⟩;obtain⟨j,hj,rfl⟩:=List.mem_map.1 he;exact hok j hj
 ·exact Tn (out:=[]) (by simp) hs (Ba.nil n) k hk h
end
section
variable {N:Nat} {es:List RE}
end
end Go.Av
end
section
namespace Go.Av
open Go.Proofs Go.Lam
theorem R9 (V:Nat→Bool):∀N,(List.range (2*N)).countP (fun i=>V (i / 2))=2*sz N V
 |0=>rfl
 |N+1=>by
  rw[show 2*(N+1)=2*N+1+1 by omega,List.range_succ,List.range_succ,List.countP_append,List.countP_append,R9 V N,Yc];simp only[List.countP_singleton];rw[show 2*N / 2=N by omega,show(2*N+1) / 2=N by omega];split<;>omega
theorem Zi {N n:Nat} {E:Nat→Ed} {p:List Rat} {X:List (List Rat)} {z:List (List Rat) × List Nat} {σ:Nat→Nat} (hS:Iv n (2*N) X z σ) (hE:∀e,e<n→C0 N (E e))
  (hX:∀e i,e<n→i<2*N→A5 X e i=Jp p (E e).1 (E e).2 i):Ba N (((List.range z.2.length).map σ).map E):=by
 intro V hV;have hrn:=hS.rref.len;obtain⟨r,hr⟩:∃r,z.2.length=r:=⟨_,rfl⟩;have hind:=fun c hc=>hS.indep (c:=c) hc;rw[hr]at hrn hind ⊢;have hσ:=fun a (ha:a<r)=>hS.bare.lt a (by omega);obtain⟨q,hq⟩:∃q,(List.range r).countP (fun l=>ins V (E (σ l)))=q:=⟨_,rfl⟩;have hspn:spn (((List.range r).map σ).map E) V=q:=by
  unfold spn;rw[List.countP_map,List.countP_map,←hq];rfl
 rw[hspn];rcases Nat.lt_or_ge (2*sz N V) (q+3)with hlt | hge
 rotate_left
 ·exact hge
 exfalso
 have hrow:∀l,l<r→∀b,b<2*N→A5 X (σ l) b=Jp p (E (σ l)).1 (E (σ l)).2 b:=fun l hl b hb=>hX _ _ (hσ l hl) hb;obtain⟨v0,_,hv0,_,_,hv0V,_⟩:=Qha hV;by_cases hco:∀v,v<N→V v=true→A2 p (2*v)=A2 p (2*v0)∧A2 p (2*v+1)=A2 p (2*v0+1)
 ·have hpos:0<(List.range r).countP (fun l=>ins V (E (σ l))):=by omega
  obtain⟨l,hl,hins⟩:=List.countP_pos_iff.1 hpos;have hl:=List.mem_range.1 hl;obtain⟨o1,o2,o3⟩:=hE _ (hσ l hl);unfold ins at hins;rw[Bool.and_eq_true]at hins;have ha:=hco _ o1 hins.1;have hb:=hco _ o2 hins.2;have hz:∀b,b<2*N→A5 X (σ l) b=0:=fun b hb'=>by
   rw[hrow l hl b hb'];unfold Jp;have hm:b % 2=0∨b % 2=1:=by omega
   split
   ·rename_i h1
    rcases hm with h2|h2
    ·rw[h2,show b=2*(E (σ l)).1 by omega,Nat.add_zero,ha.1,hb.1];grind
    ·rw[h2,show b=2*(E (σ l)).1+1 by omega,ha.2,hb.2];grind
   ·split
    ·rename_i h1 h3
     rcases hm with h2|h2
     ·rw[h2,show b=2*(E (σ l)).2 by omega,Nat.add_zero,ha.1,hb.1];grind
     ·rw[h2,show b=2*(E (σ l)).2+1 by omega,ha.2,hb.2];grind
    ·rfl
  have:=hind (fun k=>if k=l then 1 else 0) (fun b hb'=>Fc fun k hk=>by
   by_cases e:k=l
   ·subst e;rw[hz b hb'];grind
   ·rw[if_neg e];grind) l hl
  rw[if_pos rfl]at this;exact absurd this (by decide)
 ·obtain⟨j0,hj0,hj0V,hne⟩:∃j0,j0<N∧V j0=true∧¬(A2 p (2*j0)=A2 p (2*v0)∧A2 p (2*j0+1)=A2 p (2*v0+1)):=by
   refine Classical.byContradiction fun hn=>hco fun v hv hvV=>?_;exact Classical.byContradiction fun hx=>hn ⟨v,hv,hvV,hx⟩
  have hjv:j0≠v0:=fun e=>by subst e;exact hne ⟨rfl,rfl⟩
  obtain⟨i0,hi0,hrot⟩:∃i0,i0 / 2=j0∧rot p v0 i0≠0:=by
   by_cases hy:A2 p (2*j0+1)=A2 p (2*v0+1)
   ·refine⟨2*j0+1,by omega,?_⟩;unfold rot;rw[if_neg (by omega),Nat.add_sub_cancel];intro h0;exact hne ⟨by grind,hy⟩
   ·refine⟨2*j0,by omega,?_⟩;unfold rot;rw[if_pos (by omega)];intro h0;exact hy (by grind)
  have hi0N:i0<2*N:=by omega
  let bad:Nat→Bool:=fun i=>decide (i / 2=v0) || decide (i=i0)
  let D:=(List.range (2*N)).filter fun i=>V (i / 2)
  let C:=D.filter fun i=>!bad i
  let Tc:=(List.range r).filter fun l=>!ins V (E (σ l))
  have hD:D.length=2*sz N V:=by rw[←R9 V N,List.countP_eq_length_filter]
  have hDm:∀i,i∈D↔i<2*N∧V (i / 2)=true:=fun i=>by simp[D]
  have hbad:3≤D.countP bad:=by
   have h1:=Uc (p:=bad) (s:=[2*v0,2*v0+1,i0]) (t:=D) (by
    refine List.nodup_cons.2 ⟨by simp;omega,List.nodup_cons.2 ⟨by simp;omega,by simp⟩⟩) (fun x hx=>by
    simp only[List.mem_cons,List.not_mem_nil,or_false]at hx;refine(hDm x).2 ?_;rcases hx with rfl | rfl | rfl
    ·exact⟨by omega,by rw[show 2*v0 / 2=v0 by omega];exact hv0V⟩
    ·exact⟨by omega,by rw[show(2*v0+1) / 2=v0 by omega];exact hv0V⟩
    ·exact⟨hi0N,by rw[hi0];exact hj0V⟩)
   have h2:[2*v0,2*v0+1,i0].countP bad=3:=by
    have b1:bad (2*v0)=true:=by simp only[bad,Bool.or_eq_true,decide_eq_true_eq];exact .inl (by omega)
    have b2:bad (2*v0+1)=true:=by simp only[bad,Bool.or_eq_true,decide_eq_true_eq];exact .inl (by omega)
    have b3:bad i0=true:=by simp[bad]
    simp[List.countP_cons,b1,b2,b3]
   omega
  have hCl:C.length+3≤2*sz N V:=by
   have h1:C.length=D.countP fun i=>!bad i:=by rw[List.countP_eq_length_filter]
   have h2:=List.length_eq_countP_add_countP bad (l:=D);have h3:D.countP (fun a=>decide ¬bad a=true)=D.countP fun i=>!bad i:=List.countP_congr fun a _=>by cases bad a<;>simp
   omega
  have hTl:Tc.length+q=r:=by
   have h1:Tc.length=(List.range r).countP fun l=>!ins V (E (σ l)):=by rw[List.countP_eq_length_filter]
   have h2:=List.length_eq_countP_add_countP (fun l=>ins V (E (σ l))) (l:=List.range r);have h3:(List.range r).countP (fun a=>decide ¬ins V (E (σ a))=true)=(List.range r).countP fun l=>!ins V (E (σ l)):=List.countP_congr fun a _=>by cases ins V (E (σ a))<;>simp
   rw[List.length_range]at h2;omega
  obtain⟨c,⟨k,hk,hkne⟩,hc⟩:=O0 (C.length+Tc.length) r (fun m l=>if m<C.length then A5 X (σ l) (C.getD m 0) else if l=Tc.getD (m-C.length) 0 then 1 else 0) (by omega);have hT0:∀l,l<r→ins V (E (σ l))=false→c l=0:=fun l hl hins=>by
   have hm:l∈Tc:=by simp[Tc,hl,hins]
   obtain⟨m,hm',e⟩:=List.getElem_of_mem hm;have h1:=hc (C.length+m) (by omega);rw[Bs hl fun i hi hne'=>by
    rw[if_neg (by omega),Nat.add_sub_cancel_left,List.getD_eq_getElem?_getD,List.getElem?_eq_getElem hm',if_neg (by simpa[e]using hne')];grind]at h1
   rw[if_neg (by omega),Nat.add_sub_cancel_left,List.getD_eq_getElem?_getD,List.getElem?_eq_getElem hm',if_pos (by simpa using e.symm)]at h1;grind
  have huC:∀b∈C,A7 r (fun l=>c l*A5 X (σ l) b)=0:=fun b hb=>by
   obtain⟨m,hm',e⟩:=List.getElem_of_mem hb;have h1:=hc m (by omega);rw[←h1];refine Az fun l hl=>?_;rw[if_pos hm',List.getD_eq_getElem?_getD,List.getElem?_eq_getElem hm'];simp only[Option.getD_some,e];grind
  have huO:∀b,b<2*N→V (b / 2)=false→A7 r (fun l=>c l*A5 X (σ l) b)=0:=fun b hb hV'=>Fc fun l hl=>by
   cases hins:ins V (E (σ l))with
   |false=>rw[hT0 l hl hins];grind
   |true =>
    unfold ins at hins;rw[Bool.and_eq_true]at hins;rw[hrow l hl b hb];unfold Jp;rw[if_neg (fun e=>by rw[e,hins.1]at hV';cases hV'),if_neg (fun e=>by rw[e,hins.2]at hV';cases hV')];grind
  have hdot:∀u,(∀l,l<r→Cl (2*N) (Jp p (E (σ l)).1 (E (σ l)).2) u=0)→Cl (2*N) (fun b=>A7 r fun l=>c l*A5 X (σ l) b) u=0:=fun u hu=>Qlw c (fun l=>A5 X (σ l)) u fun l hl=>by
   rw[E1 (r':=Jp p (E (σ l)).1 (E (σ l)).2) (v':=u) (fun b hb=>hrow l hl b hb) (fun _ _=>rfl)];exact hu l hl
  have hok:=fun l (hl:l<r)=>hE _ (hσ l hl);have hrest:∀b,b<2*N→b / 2≠v0→b≠i0→A7 r (fun l=>c l*A5 X (σ l) b)=0:=fun b hb h1 h2=>by
   cases hVb:V (b / 2)with
   |false=>exact huO b hb hVb
   |true=>exact huC b (by
     refine List.mem_filter.2 ⟨(hDm b).2 ⟨hb,hVb⟩,?_⟩;simp[bad,h1,h2])
  have hu0:A7 r (fun l=>c l*A5 X (σ l) i0)=0:=by
   have h1:A7 (2*N) (fun b=>(A7 r fun l=>c l*A5 X (σ l) b)*rot p v0 b)=0:=hdot (rot p v0) fun l hl=>Qbw p (hok l hl).1 (hok l hl).2.1 (hok l hl).2.2 v0;rw[Bs hi0N fun b hb hne'=>by
    by_cases hbv:b / 2=v0
    ·have:rot p v0 b=0:=by
      unfold rot;split
      ·rw[show b=2*v0 by omega];grind
      ·rw[show b-1=2*v0 by omega];grind
     rw[this];grind
    ·rw[hrest b hb hbv hne'];grind]at h1
   rcases Rat.mul_eq_zero.1 h1 with h2|h2
   ·exact h2
   ·exact absurd h2 hrot
  have huv:∀κ,κ<2→A7 r (fun l=>c l*A5 X (σ l) (2*v0+κ))=0:=fun κ hκ=>by
   have h1:A7 (2*N) (fun b=>(A7 r fun l=>c l*A5 X (σ l) b)*Vu κ b)=0:=hdot (Vu κ) fun l hl=>Uk p (hok l hl).1 (hok l hl).2.1 (hok l hl).2.2 κ;rw[Bs (k:=2*v0+κ) (by omega) fun b hb hne'=>by
    by_cases hbv:b / 2=v0
    ·have:Vu κ b=0:=if_neg (by omega);rw[this];grind
    ·by_cases hbi:b=i0
     ·rw[hbi,hu0];grind
     ·rw[hrest b hb hbv hbi];grind]at h1
   have:Vu κ (2*v0+κ)=1:=if_pos (by omega);rw[this]at h1;grind
  refine hkne (hind c (fun b hb=>?_) k hk);by_cases hbv:b / 2=v0
  ·rw[show b=2*v0+b % 2 by omega];exact huv _ (by omega)
  ·by_cases hbi:b=i0
   ·rw[hbi];exact hu0
   ·exact hrest b hb hbv hbi
end Go.Av
end
section
namespace Go.Av
open Go.Proofs Go.Lam
theorem T1 (a:Rat):0≤a*a:=by
 rcases Rat.le_total (a:=0) (b:=a)with h|h
 ·exact Rat.mul_nonneg h h
 ·have:0≤(-a)*(-a):=Rat.mul_nonneg (by grind) (by grind);grind
section
variable {N n:Nat} {E:Nat→Ed} {p:List Rat} {X:List (List Rat)} {z:List (List Rat) × List Nat} {σ:Nat→Nat}
theorem Qob (hS:Iv n (2*N) X z σ) (hE:∀e,e<n→C0 N (E e)) (hX:∀e i,e<n→i<2*N→A5 X e i=Jp p (E e).1 (E e).2 i):z.2.length≤(Bx N E [] (List.range n)).length:=by
 have hsp:=Zi hS hE hX;have hrn:=hS.rref.len;have hall:∀k∈List.range n,C0 N (E k):=fun k hk=>hE k (List.mem_range.1 hk);have h1:=Xe (n:=N) (E:=E) (out:=[]) (s:=List.range n) (by simp) hall;have hs:∀k∈(List.range z.2.length).map σ,k<n:=fun k hk=>by
  obtain⟨l,hl,rfl⟩:=List.mem_map.1 hk;exact hS.bare.lt l (by have:=List.mem_range.1 hl;omega)
 have:=Qkv (n:=N) (L:=(Bx N E [] (List.range n)).map E) (J:=((List.range z.2.length).map σ).map E) (fun e he=>by
  obtain⟨j,hj,rfl⟩:=List.mem_map.1 he;exact h1 j hj) (D1 (by simp) hall (Ba.nil N)) (fun e he=>by
  obtain⟨j,hj,rfl⟩:=List.mem_map.1 he;exact hE j (hs j hj)) hsp (fun e he=>by
  obtain⟨j,hj,rfl⟩:=List.mem_map.1 he;exact Qjm hall (List.mem_range.2 (hs j hj)))
 simpa using this
theorem Qcg (hE:∀e,e<n→C0 N (E e)) (hX:∀e i,e<n→i<2*N→A5 X e i=Jp p (E e).1 (E e).2 i):Fg n (2*N) X (Vu 0)∧Fg n (2*N) X (Vu 1)∧∀v,Fg n (2*N) X (rot p v):=by
 have hd:∀i,i<n→∀u,Cl (2*N) (A5 X i) u=Cl (2*N) (Jp p (E i).1 (E i).2) u:=fun i hi u=>E1 (fun l hl=>hX i l hi hl) fun _ _=>rfl;refine⟨fun i hi=>?_,fun i hi=>?_,fun v i hi=>?_⟩
 all_goals (obtain⟨a,b,c⟩:=hE i hi;rw[hd i hi])
 ·exact Uk p a b c 0
 ·exact Uk p a b c 1
 ·exact Qbw p a b c v
def N6 (p:List Rat) (k i:Nat):Rat:=if k=2 then (if i=2 then A2 p 1-A2 p 3 else if i=3 then A2 p 2-A2 p 0 else 0) else if i=k then 1 else 0
theorem Qly {p:List Rat} {N:Nat} (hN:2≤N) (v:Nat→Rat):Cl (2*N) (N6 p 0) v=v 0∧Cl (2*N) (N6 p 1) v=v 1∧Cl (2*N) (N6 p 2) v=(A2 p 1-A2 p 3)*v 2+(A2 p 2-A2 p 0)*v 3:=by
 refine⟨?_,?_,?_⟩
 ·unfold Cl;rw[Bs (k:=0) (by omega) fun i hi hne=>by
   unfold N6;rw[if_neg (by omega),if_neg hne];grind]
  unfold N6;rw[if_neg (by omega),if_pos rfl];grind
 ·unfold Cl;rw[Bs (k:=1) (by omega) fun i hi hne=>by
   unfold N6;rw[if_neg (by omega),if_neg hne];grind]
  unfold N6;rw[if_neg (by omega),if_pos rfl];grind
 ·unfold Cl;rw[Un (k:=2) (l:=3) (by omega) (by omega) (by omega) fun i hi h1 h2=>by
   unfold N6;rw[if_pos rfl,if_neg h1,if_neg h2];grind]
  unfold N6;rw[if_pos rfl,if_pos rfl,if_pos rfl,if_neg (by omega),if_pos rfl]
theorem Qhi {Z:List (List Rat)} {z':List (List Rat) × List Nat} {σ':Nat→Nat} {n':Nat} (hN:2≤N) (hS:Iv n (2*N) X z σ) (hE:∀e,e<n→C0 N (E e)) (hX:∀e i,e<n→i<2*N→A5 X e i=Jp p (E e).1 (E e).2 i)
  (hS':Iv n' (2*N) Z z' σ') (hZ:∀v,Fg n' (2*N) Z v↔Fg n (2*N) X v∧∀k,k<3→Cl (2*N) (N6 p k) v=0) (hap:¬(A2 p 2=A2 p 0∧A2 p 3=A2 p 1)):z'.2.length<2*N↔z.2.length+3<2*N:=by
 constructor
 ·intro h;obtain⟨v,v1,⟨l0,hl0,hne⟩,_⟩:=hS'.rref.many (q:=0) (by omega) (fun _ _=>0);obtain⟨v2,v3⟩:=(hZ v).1 ((hS'.null v).1 v1);obtain⟨m0,m1,mr⟩:=Qcg (p:=p) hE hX;obtain⟨q0,q1,q2⟩:=Qly (p:=p) hN v;rw[v3 0 (by omega)]at q0;rw[v3 1 (by omega)]at q1;rw[v3 2 (by omega)]at q2;have:=hS.rref.few (k:=4) (V:=fun i=>if i=0 then v else if i=1 then Vu 0 else if i=2 then Vu 1 else rot p 0) (fun i hi=>by
   refine(hS.null _).2 ?_;split
   ·exact v2
   ·split
    ·exact m0
    ·split
     ·exact m1
     ·exact mr 0) (fun c hc=>by
   have hs:∀l,l<2*N→c 0*v l+c 1*Vu 0 l+c 2*Vu 1 l+c 3*rot p 0 l=0:=fun l hl=>by
    have h1:=hc l hl;rw[Bo,Bo,Bo,Bo]at h1;simp only[if_true,Nat.reduceEqDiff,if_false]at h1;have h0:A7 0 (fun i=>c i*(if i=0 then v else if i=1 then Vu 0 else if i=2 then Vu 1 else rot p 0) l)=0:=rfl;rw[h0]at h1;grind
   have t0:Vu 0 0=1:=rfl;have t1:Vu 1 0=0:=rfl;have t2:Vu 0 1=0:=rfl;have t3:Vu 1 1=1:=rfl;have t4:Vu 0 2=1:=rfl;have t5:Vu 1 2=0:=rfl;have t6:Vu 0 3=0:=rfl;have t7:Vu 1 3=1:=rfl;have r0:rot p 0 0=-(A2 p 1-A2 p 1):=rfl;have r1:rot p 0 1=A2 p 0-A2 p 0:=rfl;have r2:rot p 0 2=-(A2 p 3-A2 p 1):=rfl;have r3:rot p 0 3=A2 p 2-A2 p 0:=rfl;have h0:=hs 0 (by omega);have h1:=hs 1 (by omega);have h2:=hs 2 (by omega);have h3:=hs 3 (by omega);rw[t0,t1,r0]at h0;rw[t2,t3,r1]at h1;rw[t4,t5,r2]at h2
   rw[t6,t7,r3]at h3;have c1:c 1=0:=by grind
   have c2:c 2=0:=by grind
   rw[c1,c2]at h2 h3;have hsq:(A2 p 1-A2 p 3)*(A2 p 1-A2 p 3)+(A2 p 2-A2 p 0)*(A2 p 2-A2 p 0)≠0:=fun h0=>by
    have a1:0≤(A2 p 1-A2 p 3)*(A2 p 1-A2 p 3):=T1 _;have a2:0≤(A2 p 2-A2 p 0)*(A2 p 2-A2 p 0):=T1 _;have b1:(A2 p 1-A2 p 3)*(A2 p 1-A2 p 3)=0:=by grind
    have b2:(A2 p 2-A2 p 0)*(A2 p 2-A2 p 0)=0:=by grind
    have d1:A2 p 1-A2 p 3=0:=by rcases Rat.mul_eq_zero.1 b1 with h | h<;>exact h
    have d2:A2 p 2-A2 p 0=0:=by rcases Rat.mul_eq_zero.1 b2 with h | h<;>exact h
    exact hap ⟨by grind,by grind⟩
   have c3:c 3=0:=by
    have e:c 3*((A2 p 1-A2 p 3)*(A2 p 1-A2 p 3)+(A2 p 2-A2 p 0)*(A2 p 2-A2 p 0))=0:=by grind
    rcases Rat.mul_eq_zero.1 e with h|h
    ·exact h
    ·exact absurd h hsq
   have c0:c 0=0:=by
    have h4:=hs l0 hl0;rw[c1,c2,c3]at h4;have e:c 0*v l0=0:=by grind
    rcases Rat.mul_eq_zero.1 e with h|h
    ·exact h
    ·exact absurd h hne
   intro i hi;rcases(by omega:i=0∨i=1∨i=2∨i=3)with rfl | rfl | rfl | rfl
   ·exact c0
   ·exact c1
   ·exact c2
   ·exact c3)
  omega
 ·intro h;obtain⟨v,v1,⟨l0,hl0,hne⟩,v3⟩:=hS.rref.many (q:=3) (by omega) (N6 p);have hv:=(hS'.null v).2 ((hZ v).2 ⟨(hS.null v).1 v1,v3⟩);have hf:=Ks hS'.rref;rcases Nat.lt_or_ge z'.2.length (2*N)with h1 | h1
  ·exact h1
  ·exact absurd (hS'.rref.full hv (by omega) l0 hl0) hne
end
end Go.Av
end
section
namespace Go.Av
open Go.Proofs
structure Oj (M:Ac) (ov:AV) (ob:List Nat) (l:List AV) (rv:AV) (rb:List Nat) (r:List AV):Prop where
 lst:L8 M 51 1 ov ob l
 row:L8 M 44 4 rv rb r
 only:Dz M (ob++rb)
 dis:∀b∈ob,b ∉ rb
section
variable {M:Ac} {ov rv:AV} {ob rb:List Nat} {l r:List AV}
theorem Lj {M:Ac} {ty:TypeId} {z:Nat} {ov:AV} {ob:List Nat} {l:List AV} (h:L8 M ty z ov ob l) {b:Nat} (hb:b∈ob):M b=some ⟨ty,z,l⟩:=by
 rcases h with⟨_,h1,_⟩|⟨b',h1,_,h3⟩
 ·rw[h1]at hb;cases hb
 ·rw[h1]at hb;simp at hb;subst hb;exact h3
theorem Oj.start {M:Ac} {ov:AV} {ob:List Nat} {l:List AV} (h:Gn M 51 1 ov ob l):Oj M ov ob l .nil [] [] :=
 ⟨h.lst,.inl ⟨rfl,rfl,rfl⟩,by simpa using h.only,by simp⟩
theorem Oj.fresh (h:Oj M ov ob l rv rb r) {b:Nat} (hb:M b=none):b ∉ ob∧b ∉ rb :=
 ⟨fun h'=>(by rw[Lj h.lst h']at hb;cases hb),fun h'=>(by rw[Lj h.row h']at hb;cases hb)⟩
theorem Oj.push0 (h:Oj M ov ob l .nil [] []) {b:Nat} (hb:M b=none) (v:AV):Oj (M.set b ⟨44,4,[v]⟩) ov ob l (.osl b 4 0 1) [b] [v]:=by
 obtain⟨f1,_⟩:=h.fresh hb;refine⟨h.lst.keep fun a ha=>by simp only[A9];rw[if_neg (by rintro rfl;exact f1 ha)],.inr ⟨b,rfl,rfl,by simp⟩,Dz.set (h.only.sub fun a ha=>by simp at ha ⊢;exact .inl ha) (by simp) _,fun a ha=>by simp;rintro rfl;exact f1 ha⟩
theorem Oj.push1 {b0:Nat} (h:Oj M ov ob l (.osl b0 4 0 r.length) [b0] r) {b:Nat} (hb:(M.del b0) b=none) (v:AV):Oj ((M.del b0).set b ⟨44,4,r++[v]⟩) ov ob l (.osl b 4 0 (r.length+1)) [b] (r++[v]):=by
 have hd:∀a,a≠b0→(M.del b0) a=M a:=fun a ha=>if_neg ha;have h0:∀a∈ob,a≠b0:=fun a ha e=>h.dis a ha (by simp[e]);have hh:Oj (M.del b0) ov ob l .nil [] []:=by
  refine⟨h.lst.keep fun a ha=>hd a (h0 a ha),.inl ⟨rfl,rfl,rfl⟩,fun a ha=>?_,by simp⟩;have h1:a≠b0:=by rintro rfl;exact ha (if_pos rfl)
  rw[hd a h1]at ha;have:=h.only a ha;simp at this ⊢;exact this.resolve_right h1
 have:=hh.push0 hb v;obtain⟨f1,_⟩:=hh.fresh hb;refine⟨hh.lst.keep fun a ha=>by simp only[A9];rw[if_neg (by rintro rfl;exact f1 ha)],.inr ⟨b,rfl,by simp,by simp⟩,Dz.set (hh.only.sub fun a ha=>by simp at ha ⊢;exact .inl ha) (by simp) _,fun a ha=>by simp;rintro rfl;exact f1 ha⟩
theorem Oj.ones (h:Oj M ov ob l rv rb r) (h1:∀v∈l,v.cells.all AV.one=true) (h2:∀v∈r,v.cells.all AV.one=true):Gt M:=by
 intro b y hy;rcases List.mem_append.1 (h.only b (by rw[hy];simp))with hb | hb
 ·rw[Lj h.lst hb]at hy;cases hy;exact h1
 ·rw[Lj h.row hb]at hy;cases hy;exact h2
theorem Oj.done (h:Oj M ov ob l rv rb r) (h1:∀v∈l,v.cells.all AV.one=true):∃M',Bn M M'∧Gn M' 51 1 ov ob l∧B2 M M' rv (.sl 4 r)∧B2 M M' ov ov:=by
 refine⟨fun b=>if b∈rb then none else M b,Bn.sub fun b y hy=>?_,⟨h.lst.keep fun b hb=>if_neg (h.dis b hb),fun b hb=>?_⟩,?_,.same _⟩
 ·by_cases hb:b∈rb
  ·simp[hb]at hy
  ·simp[hb]at hy;refine⟨hy,?_⟩;have:=h.only b (by rw[hy];simp);simp[hb]at this;rw[Lj h.lst this]at hy;cases hy;exact h1
 ·by_cases hm:b∈rb
  ·simp[hm]at hb
  ·simp[hm]at hb;have:=h.only b hb;simpa[hm]using this
 ·exact h.row.view fun b hb=>if_pos hb
end
end Go.Av
end
section
namespace Go.Av
open Go.Proofs Go.Lam
theorem Qd {n w:Nat} {X:List (List Rat)} {z:List (List Rat) × List Nat} (hX:Bu n w X) (hw:(Al X 0).length=w) (hn:n≤64) (hw2:w≤64) (h:Er X=some z):Gd (Cj X)=(0,z.1,z.2)∧Up (Cj X)=(0,Je z.1 z.2 w w):=by
 have hc:=Qbg hX hw hn hw2;have hr:Gd (Cj X)=(0,z.1,z.2):=by
  unfold Gd;rw[if_neg (by simp[hc]),Qf6,h]
 refine⟨hr,?_⟩;unfold Up;rw[hr,if_neg (by simp),Cs,List.length_map,hw]
theorem Qar {n w:Nat} {X:List (List Rat)} {z:List (List Rat) × List Nat} (hX:Bu n w X) (hw:(Al X 0).length=w) (hn:n≤64) (hw2:w≤64) (h:Er X=some z) (hR:Hk n w w z.1 z.2):∃x,Kr (Cj X)=.tup [x,.bool (decide (z.2.length<w)),.int .i64 0]:=by
 have hk:=(Qd hX hw hn hw2 h).2;have hcnt:=hR.count;unfold Kr;rw[hk];cases hv:Je z.1 z.2 w w with
 |nil =>
  rw[hv]at hcnt;have:¬z.2.length<w:=by simp at hcnt;omega
  exact⟨A4 [],by simp[this]⟩
 |cons v V =>
  rw[hv]at hcnt;have:z.2.length<w:=by simp at hcnt;omega
  exact⟨A4 (v.map A3),by simp[this]⟩
theorem Z2 (n i:Nat):A2 (List.replicate n (0:Rat)) i=0:=by
 unfold A2;rw[List.getD_eq_getElem?_getD,List.getElem?_replicate];split<;>rfl
theorem Qam {N:Nat} {X:List (List Rat)} (h:∀r∈X,C1 N r):Bu X.length (2*N) X:=⟨fun r hr q hq=>(h r hr).2 q hq,fun i hi=>(h _ (by rw[Gj hi];exact List.getElem_mem hi)).1,rfl⟩
theorem Qd1 {N:Nat} {p:List Rat} (hN:2≤N) (hp:∀i,i<2*N→G5 100 (A2 p i)):∃P,Pg N p=some P∧1≤P.length∧P.length≤3∧(∀r∈P,C1 N r)∧(∀k i,k<P.length→i<2*N→G5 256 (A5 P k i))∧(¬My p 1→P.length=3∧∀k i,k<3→i<2*N→A5 P k i=N6 p k i):=by
 have hone:∀k i,k<2*N→A2 ((List.replicate (2*N) (0:Rat)).set k 1) i=if i=k then 1 else 0:=fun k i hk=>by
  rw[E7 (by simp;omega),Z2]
 have g1:∀k,C1 N ((List.replicate (2*N) (0:Rat)).set k 1):=fun k=>(C1.zero N).set _ Z4;have i1:∀k i,k<2*N→G5 256 (A2 ((List.replicate (2*N) (0:Rat)).set k 1) i):=fun k i hk=>by
  rw[hone k i hk];split
  ·exact Ei (by omega) Sy
  ·exact Pj _
 cases hj:Tj N p with
 |none =>
  refine⟨_,by unfold Pg;rw[hj],by simp,by simp,fun r hr=>?_,fun k i hk hi=>?_,fun h=>?_⟩
  ·simp at hr;rcases hr with rfl | rfl<;>exact g1 _
  ·match k with
   |0=>exact i1 0 i (by omega)
   |1=>exact i1 1 i (by omega)
   |k+2=>simp at hk;omega
  ·rw[Qf (i:=1) (by omega) (by omega) h (fun k h1 h2=>by omega)]at hj;cases hj
 |some j =>
  have hjN:j<N:=by
   unfold Tj at hj;exact List.mem_range.1 (List.mem_of_find?_eq_some hj)
  have hj1:1≤j:=by
   unfold Tj at hj;have:=List.find?_some hj;simp only[Bool.and_eq_true,decide_eq_true_eq]at this;exact this.1
  have s1:=Qw (hp 1 (by omega)) (hp (2*j+1) (by omega));have s2:=Qw (hp (2*j) (by omega)) (hp 0 (by omega));have q3:∀i,A2 (((List.replicate (2*N) (0:Rat)).set (2*j) (A2 p 1-A2 p (2*j+1))).set (2*j+1) (A2 p (2*j)-A2 p 0)) i=if i=2*j+1 then A2 p (2*j)-A2 p 0 else if i=2*j then A2 p 1-A2 p (2*j+1) else 0:=fun i=>by
   rw[E7 (by simp;omega),E7 (by simp;omega),Z2]
  have q4:∀i,G5 256 (A2 (((List.replicate (2*N) (0:Rat)).set (2*j) (A2 p 1-A2 p (2*j+1))).set (2*j+1) (A2 p (2*j)-A2 p 0)) i):=fun i=>by
   rw[q3];split
   ·exact Ei (by omega) (Pr (hp (2*j) (by omega)) (hp 0 (by omega)))
   ·split
    ·exact Ei (by omega) (Pr (hp 1 (by omega)) (hp (2*j+1) (by omega)))
    ·exact Pj _
  have hP:Pg N p=some [(List.replicate (2*N) (0:Rat)).set 0 1,(List.replicate (2*N) (0:Rat)).set 1 1,((List.replicate (2*N) (0:Rat)).set (2*j) (A2 p 1-A2 p (2*j+1))).set (2*j+1) (A2 p (2*j)-A2 p 0)]:=by rw[Mn hj,s1,s2];rfl
  refine⟨_,hP,by simp,by simp,fun r hr=>?_,fun k i hk hi=>?_,fun h=>?_⟩
  ·simp at hr;rcases hr with rfl | rfl | rfl
   ·exact g1 _
   ·exact g1 _
   ·exact((C1.zero N).set _ (Ps s1)).set _ (Ps s2)
  ·match k with
   |0=>exact i1 0 i (by omega)
   |1=>exact i1 1 i (by omega)
   |2 =>
    exact q4 i
   |k+3=>simp at hk;omega
  ·rw[Qf (i:=1) (by omega) (by omega) h (fun k h1 h2=>by omega)]at hj;cases hj;refine⟨rfl,fun k i hk hi=>?_⟩;unfold N6
   match k with
   |0=>exact hone 0 i (by omega)
   |1=>exact hone 1 i (by omega)
   |2 =>
    refine(q3 i).trans ?_;rw[if_pos rfl];by_cases e:i=2
    ·rw[if_pos e,if_neg (by omega),if_pos (by omega)]
    ·rw[if_neg e,if_neg (show ¬i=2*1 by omega)]
   |k+3=>omega
theorem Qbn {M P:List (List Rat)} {k:Nat} (h:k<M.length) (i:Nat):A5 (M++P) k i=A5 M k i:=by
 unfold A5 Al;rw[List.getD_eq_getElem?_getD,List.getElem?_append_left h,←List.getD_eq_getElem?_getD]
theorem Qb4 {M P:List (List Rat)} (k i:Nat):A5 (M++P) (M.length+k) i=A5 P k i:=by
 unfold A5 Al;rw[List.getD_eq_getElem?_getD,List.getElem?_append_right (by omega),Nat.add_sub_cancel_left,←List.getD_eq_getElem?_getD]
theorem Qei {N:Nat} {es:List RE} {p:List Rat} (h:Dd (N:Nat) es=true) (hp:C1 N p):Io (N:Nat) es (p.map A3)=true:=by
 unfold Io;rw[h];simp only[Bool.true_and,Bool.and_eq_true,decide_eq_true_eq,List.all_eq_true,List.length_map];refine⟨by have:=hp.1;omega,fun x hx=>?_⟩;obtain⟨q,hq,rfl⟩:=List.mem_map.1 hx;exact Ef (hp.2 q hq)
theorem Qyf (p:List Rat):(p.map A3).map RR.q=p:=by
 rw[List.map_map]
 conv=>rhs;rw[←List.map_id p]
 exact List.map_congr_left fun q _=>Hg q
theorem Qkk {N n:Nat} {M:List (List Rat)} (hg:∀r∈M,C1 N r) (hl:M.length=n) (hN:N≤8) (hn:n≤19) (hA:∀a b,a<n→b<2*N→G5 256 (A5 M a b)):∃z σ Y ps,Gd (Cj M)=(0,Y,ps)∧ps.length=z.2.length∧Iv n (2*N) M z σ:=by
 subst hl;rcases Nat.eq_zero_or_pos M.length with h0 | h0
 ·have hm:M=[]:=List.eq_nil_of_length_eq_zero h0;subst hm;have hG:Bu 0 (2*N) []:=⟨fun r hr=>(by cases hr),fun i hi=>(by simp at hi),rfl⟩;have hG0:Bu 0 0 []:=⟨fun r hr=>(by cases hr),fun i hi=>(by simp at hi),rfl⟩;obtain⟨z,σ,h1,h2,h3,h4,h5⟩:=Pd hG (by omega) (fun a b ha=>by omega) (2*N) (Nat.le_refl _);have hS:Iv 0 (2*N) [] z σ:=⟨h2,h3,h4,h5⟩;refine⟨z,σ,[],[],(Qd (z:=([],[])) hG0 rfl (by omega) (by omega) rfl).1,?_,hS⟩;have:=hS.rref.len;simp;omega
 ·have hG:=Qam hg;have hw:(Al M 0).length=2*N:=hG.2.1 0 h0;obtain⟨z,σ,h1,hS⟩:=Wr hG hw hn hA;exact⟨z,σ,z.1,z.2,(Qd hG hw (by omega) (by omega) h1).1,rfl,hS⟩
theorem Qia {N:Nat} {es:List RE} {p:List Rat} (h:Dd (N:Nat) es=true) (hN:2≤N) (h8:N≤8) (hn:es.length≤16) (hp:C1 N p) (hI:∀i,i<2*N→G5 100 (A2 p i)):∃M Y ps,Om N (Ae es) p es.length=some M∧Gd (Cj M)=(0,Y,ps)∧ps.length≤(Gq (N:Nat) es).length∧∃x b,Y7 (N:Nat) es (p.map A3)=.tup [x,.bool b,.int .i64 0]∧(¬My p 1→b=decide (ps.length+3<2*N)):=by
 have hok:=Mt h;simp only[Int.toNat_natCast]at hok;have hE:∀e,e<es.length→C0 N (Ae es e):=fun e he=>(hok e he).2.2;obtain⟨M,hM,hMe⟩:=Xu hI es.length hE;obtain⟨hl,hg⟩:=H8 hM;have hA:∀a b,a<es.length→b<2*N→G5 256 (A5 M a b):=fun a b ha hb=>by
  rw[hMe a b ha hb];exact Qle hI (hE a ha).1 (hE a ha).2.1 hb
 obtain⟨z,σ,Y,ps,h1,h2,hS⟩:=Qkk hg hl h8 (by omega) hA;refine⟨M,Y,ps,hM,h1,?_,?_⟩
 ·have:=Qob hS hE hMe;unfold Gq;rw[if_pos h];simp only[Int.toNat_natCast];omega
 obtain⟨P,p1,p2,p3,p4,p5,p6⟩:=Qd1 hN hI;have hgZ:∀r∈M++P,C1 N r:=fun r hr=>by
  rcases List.mem_append.1 hr with h'|h'
  ·exact hg r h'
  ·exact p4 r h'
 have hGZ:=Qam hgZ;have hlZ:(M++P).length=es.length+P.length:=by rw[List.length_append,hl]
 rw[hlZ]at hGZ;have hwZ:(Al (M++P) 0).length=2*N:=hGZ.2.1 0 (by omega);have hcase:∀a,a<es.length+P.length→(a<es.length∧∀b,A5 (M++P) a b=A5 M a b)∨(∃k,k<P.length∧a=es.length+k∧∀b,A5 (M++P) a b=A5 P k b):=fun a ha=>by
  rcases Nat.lt_or_ge a es.length with h'|h'
  ·exact .inl ⟨h',fun b=>Qbn (by omega) b⟩
  ·refine .inr ⟨a-es.length,by omega,by omega,fun b=>?_⟩;have:=Qb4 (M:=M) (P:=P) (a-es.length) b;rw[hl,show es.length+(a-es.length)=a by omega]at this;exact this
 obtain⟨z',σ',r1,hS'⟩:=Wr hGZ hwZ (by omega) (fun a b ha hb=>by
  rcases hcase a ha with⟨ha',e⟩|⟨k,hk,_,e⟩
  ·rw[e];exact hA a b ha' hb
  ·rw[e];exact p5 k b hk hb)
 obtain⟨x,hx⟩:=Qar hGZ hwZ (by omega) (by omega) r1 hS'.rref;refine⟨x,decide (z'.2.length<2*N),?_,fun hap=>?_⟩
 ·rw[Y4 (Qei h hp),Qyf,Int.toNat_natCast,hM,Option.bind_some,p1,Option.bind_some];exact hx
 ·obtain⟨l3,hpin⟩:=p6 hap;rw[l3]at hS' hcase;have hZ:∀v,Fg (es.length+3) (2*N) (M++P) v↔Fg es.length (2*N) M v∧∀k,k<3→Cl (2*N) (N6 p k) v=0:=fun v=>by
   constructor
   ·intro hv;refine⟨fun i hi=>?_,fun k hk=>?_⟩
    ·have:=hv i (by omega);rw[E1 (fun l _=>Qbn (by omega) l) fun _ _=>rfl]at this;exact this
    ·have:=hv (es.length+k) (by omega);rw[E1 (fun l hl'=>(by rw[←hl,Qb4,hpin k l hk hl']:A5 (M++P) (es.length+k) l=N6 p k l)) fun _ _=>rfl]at this;exact this
   ·rintro⟨a1,a2⟩ i hi;rcases hcase i hi with⟨hi',e⟩|⟨k,hk,_,e⟩
    ·rw[E1 (fun l _=>e l) fun _ _=>rfl];exact a1 i hi'
    ·rw[E1 (fun l hl'=>(e l).trans (hpin k l hk hl')) fun _ _=>rfl];exact a2 k hk
  have:=Qhi hN hS hE hMe hS' hZ hap;rw[h2];exact decide_eq_decide.2 this
end Go.Av
end
section
namespace Go.Av
open Go.Proofs Go.Lam
def Py (o:List Int):List AV:=o.map fun v=>.int .i64 v
@[simp] theorem Qo6 (o:List Int):(Py o).length=o.length:=by simp[Py]
@[simp] theorem Qvh {o:List Int} {i:Nat} (h:i<(Py o).length):(Py o)[i]=.int .i64 (o[i]'(by simpa using h)):=by simp[Py]
theorem Qjv (l:List RE) (k:Nat):(D3 l).take k=D3 (l.take k):=by simp[D3]
end Go.Av
end
section
namespace Go.Av
open Go.Proofs Go.Lam
def Wa (o:List Int) (i:Nat):Int:=match o[i]? with | some a=>(Gx .and .i64 a 65535).tmod 41-20 | none=>((7*i+i*i % 5:Nat):Int)
def Q4 (o:List Int) (k:Nat):List Rat:=(List.range k).map fun i=>Gw (Wa o i)
theorem Qkx (o:List Int) (k:Nat):Q4 o (k+1)=Q4 o k++[Gw (Wa o k)]:=by
 unfold Q4;rw[List.range_succ,List.map_append];rfl
theorem Qe6 {o:List Int} {i:Nat} (hi:i<14):(Wa o i).natAbs≤100:=by
 unfold Wa;split
 ·rename_i a _
  obtain⟨r,_,hr⟩:=Uy a;rw[hr,show(r:Int).tmod 41=((r % 41:Nat):Int) from rfl];omega
 ·have:i*i % 5<5:=Nat.mod_lt _ (by omega);omega
theorem Qhk (c:Int):Gw c=(c:Rat):=by
 have:=Rat.num_divInt_den (c:Rat);rw[Rat.num_intCast,Rat.den_intCast]at this;exact this
theorem Qrx {o:List Int} {i k:Nat} (hi:i<k):A2 (Q4 o k) i=Gw (Wa o i):=by
 unfold Q4 A2;rw[List.getD_eq_getElem?_getD];simp[hi]
theorem Qn6 {o:List Int} {i k:Nat} (hi:i<k) (hk:k≤14):G5 100 (A2 (Q4 o k) i):=by
 rw[Qrx hi];exact⟨Wa o i,Qhk _,Qe6 (by omega)⟩
theorem Qce {o:List Int} {N:Nat} (hN:N≤7):C1 N (Q4 o (2*N)):=⟨by simp[Q4],fun q hq=>by
 unfold Q4 at hq;obtain⟨i,hi,rfl⟩:=List.mem_map.1 hq;have:=Qe6 (o:=o) (i:=i) (by have:=List.mem_range.1 hi;omega);exact Qb (by omega)⟩
theorem Zu (N:Nat) (o:List Int) (hN:N≤7):Aj Tryz.prog 29 [.int .i64 (N:Nat),.sl 1 (Py o)] Ac.emp fun v m=>v=A4 ((Q4 o (2*N)).map A3)∧m=Ac.emp:=by
 have w0:=Ap (2*N) (by omega);refine Ad Tryz.func29 rfl rfl 38 rfl (Nat.le_of_ble_eq_true rfl) ?_;(repeat refine AW.seq_k fun K hK=>?_);refine AW.rg ?_;simp[Ak];try (refine hK _ rfl ?_;clear hK K)
 (repeat refine AW.seq_k fun K hK=>?_);refine AW.rg ?_;simp;try (refine hK _ rfl ?_;clear hK K)
 refine AW.seq_ex (ι:=Wz) (fun z=>[(5,z.ov)]) (fun z=>z.M) (fun z=>Gn z.M 44 4 z.ov z.ob (B5 ((Q4 o (2*N)).map A3))) ?_ ?_
 ·(repeat refine AW.seq_k fun K hK=>?_);refine AW.rg ?_;simp;try (refine hK _ rfl ?_;clear hK K)
  refine AW.block (AW.loopS (ι:=Nat × Wz) (fun z=>[(0,.int .i64 (N:Nat)),(1,.sl 1 (Py o)),(5,z.2.ov),(6,.int .i64 (z.1:Nat))]) (fun z=>z.2.M) (fun z=>z.1≤2*N∧Gn z.2.M 44 4 z.2.ov z.2.ob (B5 ((Q4 o z.1).map A3))) (fun z=>2*N-z.1) (0,⟨Ac.emp,.nil,[]⟩) ⟨by simp,Gn.start _ _⟩ rfl (by simp) ?_);rintro⟨i,M,ov,ob⟩ ⟨g1,g2⟩;simp only at g1 g2;simp only;have w1:=Ap (i+1) (by omega);have w7:=Ap (7*i) (by omega);(repeat refine AW.seq_k fun K hK=>?_);refine AW.rg ?_;simp[-Int.natCast_mul,w0];try (refine hK _ rfl ?_;clear hK K)
  (repeat refine AW.seq ?_);refine AW.cs (fun hi=>?_) (fun hi=>?_) rfl<;>(try simp at hi)
  ·refine AW.skip ?_;try simp[-Int.natCast_mul]
   try (refine hK _ rfl ?_;clear hK K)
   have hii:i*i<200:=by
    have:i*i≤13*13:=Nat.mul_le_mul (by omega) (by omega);omega
   have w2:=Ap (i*i) (by omega);have w5:IntKind.i64.wrap ((7*i+i*i % 5:Nat):Int)=((7*i+i*i % 5:Nat):Int):=wi (by have:i*i % 5<5:=Nat.mod_lt _ (by omega);omega);have tm:((i*i:Nat):Int).tmod 5=((i*i % 5:Nat):Int):=rfl;have hv7:IntKind.i64.wrap (IntKind.i64.wrap (7*(i:Int))+((i*i % 5:Nat):Int))=((7*i+i*i % 5:Nat):Int):=by
    rw[show(7*(i:Int))=((7*i:Nat):Int) by omega,w7,←Int.natCast_add];exact w5
   have hc:=Qe6 (o:=o) (i:=i) (by omega);have hwh:=Hh (Wa o i) (by omega) (by omega);unfold RR.av at hwh;(repeat refine AW.seq ?_);refine AW.block ?_;(repeat refine AW.seq_k fun K hK=>?_);refine AW.rg ?_;simp[-Int.natCast_emod,-Int.natCast_mul,w7,w2,tm,w5];try (refine hK _ rfl ?_;clear hK K)
   refine AW.seq_ex (ι:=Unit) (fun _=>[(0,.int .i64 (N:Nat)),(1,.sl 1 (Py o)),(5,ov),(6,.int .i64 (i:Nat)),(7,.int .i64 (Wa o i))]) (fun _=>M) (fun _=>True) ?_ ?_
   ·by_cases hio:i<o.length
    ·obtain⟨ro,_,hro⟩:=Uy o[i];have hs:Wa o i=((ro % 41:Nat):Int)-20:=by
      unfold Wa;rw[List.getElem?_eq_getElem hio];simp only;rw[hro];rfl
     have w8:IntKind.i64.wrap (((ro % 41:Nat):Int)-20)=((ro % 41:Nat):Int)-20:=Ok ⟨by omega,by omega⟩;have tm2:(ro:Int).tmod 41=((ro % 41:Nat):Int):=rfl;(repeat refine AW.seq_k fun K hK=>?_);refine AW.rg ?_;simp[-Int.natCast_emod,-Int.natCast_mul,hio];try (refine hK _ rfl ?_;clear hK K)
     refine AW.yes ?_ (by simp[-Int.natCast_emod,-Int.natCast_mul,hio]);(repeat refine AW.seq_k fun K hK=>?_);refine AW.rg ?_;simp[-Int.natCast_emod,-Int.natCast_mul,hio,hro,tm2,w8];try (refine hK _ rfl ?_;clear hK K)
     exact hs.symm
    ·have hs:Wa o i=((7*i+i*i % 5:Nat):Int):=by
      unfold Wa;rw[List.getElem?_eq_none (by omega)]
     (repeat refine AW.seq_k fun K hK=>?_);refine AW.rg ?_;simp[-Int.natCast_emod,-Int.natCast_mul,hio];try (refine hK _ rfl ?_;clear hK K)
     refine AW.no ?_ (by simp[-Int.natCast_emod,-Int.natCast_mul];try omega);refine AW.skip ?_;simp[-Int.natCast_emod,-Int.natCast_mul];exact hv7.trans hs.symm
   rintro _ _;have hll:(B5 ((Q4 o i).map A3)).length≤100:=by simp[Q4];omega
   have hsn:B5 ((Q4 o (i+1)).map A3)=B5 ((Q4 o i).map A3)++[.agg [.bool (A3 (Gw (Wa o i))).n1,Am (A3 (Gw (Wa o i))).l1,.bool (A3 (Gw (Wa o i))).n2,Am (A3 (Gw (Wa o i))).l2]]:=by
    rw[Qkx,List.map_append];unfold B5;rw[List.map_append];rfl
   have hfin:∀s:Wz,Gn s.M 44 4 s.ov s.ob (B5 ((Q4 o i).map A3)++[.agg [.bool (A3 (Gw (Wa o i))).n1,Am (A3 (Gw (Wa o i))).l1,.bool (A3 (Gw (Wa o i))).n2,Am (A3 (Gw (Wa o i))).l2]])→Gn s.M 44 4 s.ov s.ob (B5 ((Q4 o (i+1)).map A3)):=fun s h=>by rw[hsn];exact h
   generalize B5 ((Q4 o i).map A3)=LL at *;generalize Wa o i=c at *;rcases g2.lst with⟨z1,z2,z3⟩ | ⟨b0,z2,z3,z4⟩
   ·subst z1 z2 z3;(repeat refine AW.seq_k fun K hK=>?_);refine AW.rgR [35] ?_;simp[-Int.natCast_mul];try (refine hK _ rfl ?_;clear hK K)
    refine Aa.val hwh ?_;simp;refine⟨by unfold maxLen;omega,Af.intro fun b hb=>?_⟩;(repeat refine AW.seq_k fun K hK=>?_);refine AW.rg ?_;simp[-Int.natCast_add,w1];try (refine hK _ rfl ?_;clear hK K)
    exact⟨i+1,⟨_,_,[b]⟩,⟨by omega,hfin _ (g2.push0 b _)⟩,by omega,rfl,rfl,rfl⟩
   ·subst z2 z3;(repeat refine AW.seq_k fun K hK=>?_);refine AW.rgR [35] ?_;simp[-Int.natCast_mul];try (refine hK _ rfl ?_;clear hK K)
    refine Aa.val hwh ?_;simp[z4];refine⟨by omega,by unfold maxLen;omega,Af.intro fun b hb=>?_⟩;(repeat refine AW.seq_k fun K hK=>?_);refine AW.rg ?_;simp[-Int.natCast_add,w1];try (refine hK _ rfl ?_;clear hK K)
    exact⟨i+1,⟨_,_,[b]⟩,⟨by omega,hfin _ (g2.push1 b _)⟩,by omega,rfl,rfl,rfl⟩
  ·refine AW.exit ?_;try simp[-Int.natCast_mul]
   have:i=2*N:=by omega
   subst this;exact⟨⟨M,ov,ob⟩,g2,by simp⟩
 rintro⟨M,ov,ob⟩ g1;(repeat refine AW.seq_k fun K hK=>?_);refine AW.rg ?_;simp;try (refine hK _ rfl ?_;clear hK K)
 have hv:=g1.lst.view (M':=Ac.emp) (fun _ _=>rfl);exact AW.ret (Ah [A4 ((Q4 o (2*N)).map A3)] rfl ⟨hv,trivial⟩ ⟨rfl,rfl⟩)
end Go.Av
end
section
namespace Go.Av
open Go.Proofs Go.Lam
theorem Qjw {n:Int} {es:List RE} (h:Dd n es=true) (k:Nat):Dd n (es.take k)=true:=by
 obtain⟨⟨h1,h2,h3⟩,h4,h5⟩:=Qgm.1 h;exact Qgm.2 ⟨⟨h1,h2,by simp;omega⟩,fun x hx=>h4 x (List.mem_of_mem_take hx),h5.sublist (List.take_sublist _ _)⟩
theorem Tx (j:Int) (l:List RE) (o:List Int) (hl:Vv l∧l.length<2^63):Aj Tryz.prog 9 [.int .i64 j,Bb l,.sl 1 (Py o)] Ac.emp fun v m=>v=.bool true∧m=Ac.emp:=by
 obtain⟨rj,_,hj⟩:=Uy j;have hwk:=Yw;obtain⟨N,hN⟩:∃N,2+rj % 6=N:=⟨_,rfl⟩;have hN2:2≤N:=by omega
 have hN7:N≤7:=by omega
 have hap:=Qdb N l hN2 (by omega) hl.2;have hsp:=Zu N o hN7;have wN:IntKind.i64.wrap (2+(rj:Int).tmod 6)=(N:Nat):=by
  rw[show(rj:Int).tmod 6=((rj % 6:Nat):Int) from rfl,←hN];exact wi (a:=2+rj % 6) (by omega)
 refine Ad Tryz.func9 rfl rfl 121 rfl (Nat.le_of_ble_eq_true rfl) ?_;unfold Bb at *;(repeat refine AW.seq_k fun K hK=>?_);refine AW.rg ?_;simp[Ak];try (refine hK _ rfl ?_;clear hK K)
 (repeat refine AW.seq_k fun K hK=>?_);refine AW.rg ?_;simp[hj,wN];try (refine hK _ rfl ?_;clear hK K)
 (repeat refine AW.seq_k fun K hK=>?_);refine AW.rg ?_;simp;try (refine hK _ rfl ?_;clear hK K)
 refine Aa.pure hap ?_;rintro _ ⟨es0,rfl,hck0,hlb0,h24⟩;unfold Bb;simp;try (refine hK _ rfl ?_;clear hK K)
 have hck:=Qjw hck0 16;have hlb:Vv (es0.take 16):=fun x hx=>hlb0 x (List.mem_of_mem_take hx);have h16:(es0.take 16).length≤16:=by simp;omega
 have hml:min es0.length 16≤es0.length:=by omega
 have hmi:(if (16:Int)<es0.length then (16:Int) else es0.length)=((min es0.length 16:Nat):Int):=by split<;>omega
 (repeat refine AW.seq_k fun K hK=>?_);refine AW.rg ?_;simp[hmi];try (refine hK _ rfl ?_;clear hK K)
 rw[Qjv,Nat.min_comm,←List.take_take,List.take_length];refine⟨by omega,?_⟩;generalize es0.take 16=es at *;try (refine hK _ rfl ?_;clear hK K)
 obtain⟨M,Y,ps,e1,e2,e3,x,b,e4,e5⟩:=Qia hck hN2 (by omega) h16 (Qce (o:=o) hN7) (fun i hi=>Qn6 hi (by omega));have hrow:=Qce (o:=o) hN7;have hok:=Mt hck;simp only[Int.toNat_natCast]at hok;have hma:=Qas N es (Q4 o (2*N)) (by omega) (by omega) hok (by omega) hrow;have hrk:=Qeq (Cj M) (Ts _);have hin:=Ls (N:Nat) es hlb;have hfr:=M9 (N:Nat) es hlb;have hmo:=O5 (N:Nat) es ((Q4 o (2*N)).map A3) hlb (fun x hx=>by
  obtain⟨q,_,rfl⟩:=List.mem_map.1 hx;exact Fj q) (by simp[hrow.1];omega)
 unfold Qcx at hma;rw[e1]at hma;rw[e2]at hrk;rw[e4]at hmo;unfold Cz at hin hfr;rw[hck]at hin hfr;have hil:=S3 hck;obtain⟨F,hF1,hF2⟩:∃F:Int,O2 (N:Nat) es=.int .i64 F∧F=2*(N:Int)-3-((Gq (N:Nat) es).length:Int):=⟨_,by unfold O2;rw[if_pos hck,if_neg (show ¬(N:Int)=1 by omega)],rfl⟩;rw[hF1]at hfr;generalize Gq (N:Nat) es=I at *;unfold Bb A4 at *;simp only at hrk;(repeat refine AW.seq_k fun K hK=>?_);refine AW.rg ?_;simp;try (refine hK _ rfl ?_;clear hK K)
 refine Aa.val hsp ?_;simp;try (refine hK _ rfl ?_;clear hK K)
 have hpl:(Q4 o (2*N)).length=2*N:=hrow.1;have hg:∀i,i<2*N→Cd (A2 (Q4 o (2*N)) i):=fun i hi=>by
  unfold A2;rw[List.getD_eq_getElem?_getD,List.getElem?_eq_getElem (by omega)];exact hrow.2 _ (List.getElem_mem _)
 have hrr:∀i,i<2*N→rr ((Q4 o (2*N)).map A3) i=A3 (A2 (Q4 o (2*N)) i):=fun i hi=>by
  rw[K8 (by simp;omega)];unfold A2;simp[hpl,hi]
 generalize Q4 o (2*N)=p at *;(repeat refine AW.seq_k fun K hK=>?_);refine AW.rg ?_;simp;try (refine hK _ rfl ?_;clear hK K)
 refine Aa.whole (fun _ h=>h) hma ?_;rintro _ X ⟨ov,ob,rfl,hX⟩;simp;try (refine hK _ rfl ?_;clear hK K)
 refine AW.toEmp [(7,.int .i64 (N:Nat)),(8,.sl 6 (D3 es)),(9,.sl 4 (B5 (p.map A3))),(10,Bc (Cj M)),(11,.int .i64 0)] (by simp;exact hX.lst.view (fun _ _=>rfl)) ?_;(repeat refine AW.seq_k fun K hK=>?_);refine AW.rg ?_;simp;try (refine hK _ rfl ?_;clear hK K)
 refine Aa.val hrk ?_;simp;try (refine hK _ rfl ?_;clear hK K)
 (repeat refine AW.seq_k fun K hK=>?_);refine AW.rg ?_;simp;try (refine hK _ rfl ?_;clear hK K)
 refine Aa.val hin ?_;simp;try (refine hK _ rfl ?_;clear hK K)
 (repeat refine AW.seq_k fun K hK=>?_);refine AW.rg ?_;simp;try (refine hK _ rfl ?_;clear hK K)
 refine Aa.val hfr ?_;simp;try (refine hK _ rfl ?_;clear hK K)
 (repeat refine AW.seq_k fun K hK=>?_);refine AW.rg ?_;simp;try (refine hK _ rfl ?_;clear hK K)
 refine Aa.val hmo ?_;simp;try (refine hK _ rfl ?_;clear hK K)
 have hle:¬(I.length:Int)<ps.length:=by omega
 have a0:0<2*N:=by omega
 have a1:1<2*N:=by omega
 have a2:2<2*N:=by omega
 have a3:3<2*N:=by omega
 have d0:=Nv (b:=A2 p 2) (hg 0 a0);have d1:=Nv (b:=A2 p 3) (hg 1 a1);unfold RR.av at d0 d1;have hr0:=hrr _ a0;have hr1:=hrr _ a1;have hr2:=hrr _ a2;have hr3:=hrr _ a3;(repeat refine AW.seq_k fun K hK=>?_);refine AW.rg ?_;simp[hle];try (refine hK _ rfl ?_;clear hK K)
 refine AW.no ?_ rfl;refine AW.skip ?_;try simp
 try (refine hK _ rfl ?_;clear hK K)
 obtain⟨T,hT⟩:∃T:Bool,(T=true↔My p 1):=⟨(decide (A2 p (2*1)=A2 p 0)&&decide (A2 p (2*1+1)=A2 p 1)),by simp[My]⟩;refine AW.seq_ex (ι:=Unit) (fun _=>[(7,.int .i64 (N:Nat)),(8,.sl 6 (D3 es)),(21,.bool T),(12,.int .i64 (ps.length:Nat)),(14,.sl 1 (Ar I)),(16,.int .i64 F),(19,.bool b)]) (fun _=>Ac.emp) (fun _=>True) ?_ ?_
 ·refine AW.rd [0,1,2,3,4,5,6,7,8,9,10,11,12,13,14,15,16] Ds ?_;simp[-Int.natCast_mul,hpl,a0,a2,hr0,hr2];refine Aa.val d0 ?_;by_cases q0:A2 p 0=A2 p 2
  ·simp[-Int.natCast_mul,q0,hpl,a1,a3,hr1,hr3];refine⟨by omega,?_⟩;refine Aa.val d1 ?_;simp;rw[Bool.eq_iff_iff,hT];unfold My;simp[q0,eq_comm]
  ·simp[q0];rw[Bool.eq_iff_iff,hT];unfold My;simp[Ne.symm q0]
 rintro _ _;(repeat refine AW.seq_k fun K hK=>?_);refine AW.rg ?_;simp;try (refine hK _ rfl ?_;clear hK K)
 refine Aa.val hwk ?_;simp;cases T with
 |true =>
  simp;try (refine hK _ rfl ?_;clear hK K)
  exact AW.ret (Ag rfl _ (.same _) ⟨rfl,rfl⟩)
 |false =>
  have hap:=e5 fun h=>by cases hT.2 h
  by_cases hlt:ps.length<I.length
  ·simp[hlt];try (refine hK _ rfl ?_;clear hK K)
   exact AW.ret (Ag rfl _ (.same _) ⟨rfl,rfl⟩)
  ·have hbF:b=decide (0<F):=by rw[hap];exact decide_eq_decide.2 (by omega)
   have hge:I.length≤ps.length:=by omega
   simp[hlt,hge,hbF];try (refine hK _ rfl ?_;clear hK K)
   exact AW.ret (Ag rfl _ (.same _) ⟨rfl,rfl⟩)
end Go.Av
end
section
namespace Go.Av
open Go.Proofs
theorem Q0p:Tryz.prog.underlying 40=some (.slice 124):=by kernel_rfl
theorem Qyv:Tryz.prog.underlying 124=some (.int .u32):=by kernel_rfl
theorem ty4:Tryz.prog.underlying 4=some .bool:=by kernel_rfl
theorem Q0t:Tryz.prog.cellsOf 124=1:=by kernel_rfl
theorem Qx7:Tryz.prog.cellsOf 44=4:=by kernel_rfl
theorem Qso:Tryz.prog.cellsOf 42=2:=by kernel_rfl
theorem Q0m:Tryz.prog.cellsOf 40=1:=by kernel_rfl
theorem cl4:Tryz.prog.cellsOf 4=1:=by kernel_rfl
noncomputable def Qht (t:TypeId):Array Field:=match Tryz.prog.underlying t with
 |some (.struct fs)=>fs
 |_=>#[]
noncomputable def Yl (t:TypeId) (i:Nat):Option (TypeId × Nat):=((Qht t)[i]?).map fun f=>(f.type,f.offset)
theorem Q0z:Tryz.prog.underlying 44=some (.struct (Qht 44)):=by kernel_rfl
theorem Q07:Tryz.prog.underlying 42=some (.struct (Qht 42)):=by kernel_rfl
theorem Qzc:Yl 44 0=some (42,0):=by kernel_rfl
theorem Qyx:Yl 44 1=some (42,2):=by kernel_rfl
theorem Qyc:Yl 42 0=some (4,0):=by kernel_rfl
theorem Qyy:Yl 42 1=some (40,1):=by kernel_rfl
theorem K7 {t:TypeId} {i:Nat} {p:TypeId × Nat} (h:Yl t i=some p):∃f:Field,(Qht t)[i]?=some f∧f.type=p.1∧f.offset=p.2:=by
 unfold Yl at h;cases hf:(Qht t)[i]? with
 |none=>rw[hf]at h;cases h
 |some f=>rw[hf]at h;cases h;exact⟨f,rfl,rfl,rfl⟩
variable {H:Type} {enc:TypeId × Value→H} {W:World}
theorem Y0 {a:Addr} {v:Value} (h:W.cell? a=some v):a.block<W.heap.size:=by
 unfold World.cell? at h;rcases Nat.lt_or_ge a.block W.heap.size with hl | hl
 ·exact hl
 ·rw[Array.getElem?_eq_none hl]at h;simp at h
theorem Ry {l:List Nat} {i j:Nat} {u:AV} (h:A0 (Bk l) i j=some u):j=0∧i<l.length∧u=.int .u32 (nth l i:Nat):=by
 unfold A0 Bk at h;rw[List.getElem?_map]at h;cases hi:l[i]? with
 |none=>rw[hi]at h;cases h
 |some y =>
  rw[hi]at h;have hl:=(List.getElem?_eq_some_iff.1 hi).1;cases j with
  |zero =>
   cases h;refine⟨rfl,hl,?_⟩;unfold nth;rw[List.getD_eq_getElem?_getD,hi];rfl
  |succ k=>cases h
theorem Qjz {fuel:Nat} {c:Value} {x:DataW H × List MemPlace} (h:DataW.trod enc Tryz.prog W 0 (fun _=>true) true fuel 40 [c]=some x):∃l,Lb l∧VR W (fun _=>False) (Am l) c:=by
 rcases Go.ChangeShapes.open_ints Q0p Qyv Q0t h with⟨hc,_⟩|⟨a,len,cap,zs,hc,_,hl,hm,hz,_,hcell,hwf⟩
 ·simp only[List.cons.injEq,and_true]at hc;subst hc;exact⟨[],fun y hy=>(by cases hy),.sl0 1 none 0⟩
 ·simp only[List.cons.injEq,and_true]at hc;subst hc;simp at hz;rcases Nat.eq_zero_or_pos len with h0 | h0
  ·subst h0;exact⟨[],fun y hy=>(by cases hy),.sl0 1 (some a) cap⟩
  ·have h00:=hcell 0 (by omega);have hsp:=World.cell?_spot h00;have hbl:=Y0 h00;obtain⟨b,o,sp⟩:=a;simp[Addr.add]at hsp hbl;subst hsp;have hzl:∀i,i<len→0≤zs.getD i 0∧zs.getD i 0≤4294967295:=fun i hi=>by
    have:zs.getD i 0=zs[i]'(by omega):=by rw[List.getD_eq_getElem?_getD,List.getElem?_eq_getElem (by omega)];rfl
    rw[this];exact Go.bounds_u32 (hwf _ (List.getElem_mem _))
   refine⟨(List.range len).map fun i=>(zs.getD i 0).toNat,fun y hy=>?_,?_⟩
   ·obtain⟨i,hi,rfl⟩:=List.mem_map.1 hy;have:=hzl i (List.mem_range.1 hi);omega
   ·have e:((List.range len).map fun i=>(zs.getD i 0).toNat).length=len:=by simp
    have:=VR.sl (w:=W) (F:=fun _=>False) 1 (Bk ((List.range len).map fun i=>(zs.getD i 0).toNat)) b o cap (fun i _=>.int .u32 (zs.getD i 0)) (by simp) hbl (by simp;exact hl) (by
     intro v hv;obtain⟨y,_,rfl⟩:=List.mem_map.1 hv;rfl) ?_ ?_
    ·rw[Lu,e]at this;exact this
    ·intro i j u hu;obtain⟨rfl,q1,rfl⟩:=Ry hu;rw[e]at q1;have:=hzl i q1;have hn:nth ((List.range len).map fun i=>(zs.getD i 0).toNat) i=(zs.getD i 0).toNat:=by
      unfold nth;rw[List.getD_eq_getElem?_getD,List.getElem?_map,List.getElem?_range q1];rfl
     rw[hn,Int.toNat_of_nonneg this.1];exact .int _ _
    ·intro i j u hu;obtain⟨rfl,q1,rfl⟩:=Ry hu;rw[e]at q1;have:=hcell i (by omega);rcases Nat.eq_zero_or_pos i with h' | h'
     ·subst h';simpa[Addr.add]using this
     ·have h'':i≠0:=by omega
      simpa[Addr.add,h'']using this
set_option maxRecDepth 100000
theorem Qbf {fuel:Nat} {cs:List Value} {x:DataW H × List MemPlace} (h:DataW.trod enc Tryz.prog W 0 (fun _=>true) true fuel 42 cs=some x):∃n l c,cs=[.bool n,c]∧Lb l∧VR W (fun _=>False) (Am l) c:=by
 obtain⟨xs,n,_,rfl,hl,hlen,hf⟩:=DataW.trod_struct Q07 h;rw[Qso]at hl;obtain⟨c0,c1,rfl⟩:∃c0 c1,cs=[c0,c1]:=by
  match cs,hl with
  |[c0,c1],_=>exact⟨c0,c1,rfl⟩
 obtain⟨f0,g1,g2,g3⟩:=K7 Qyc;obtain⟨f1,k1,k2,k3⟩:=K7 Qyy;have h0:=hf 0 f0 g1;have h1:=hf 1 f1 k1;simp only at g2 g3 k2 k3;rw[g2,g3,cl4]at h0;rw[k2,k3,Q0m]at h1;have hs:xs.length=2:=by rw[hlen];kernel_rfl
 obtain⟨b,hb,_⟩:=DataW.trod_bool ty4 (h0.trans (List.getElem?_eq_getElem (by omega)));obtain⟨l,hl1,hl2⟩:=Qjz (h1.trans (List.getElem?_eq_getElem (by omega)));simp at hb;exact⟨b,l,c1,by rw[hb],hl1,hl2⟩
theorem Qjh {fuel:Nat} {cs:List Value} {x:DataW H × List MemPlace} (h:DataW.trod enc Tryz.prog W 0 (fun _=>true) true fuel 44 cs=some x):∃r:RR,r.Lb∧cs.length=4∧∀(j:Nat) (u:AV),r.av.cells[j]?=some u→∃c,cs[j]?=some c∧VR W (fun _=>False) u c:=by
 obtain⟨xs,n,_,rfl,hl,hlen,hf⟩:=DataW.trod_struct Q0z h;rw[Qx7]at hl;obtain⟨c0,c1,c2,c3,rfl⟩:∃c0 c1 c2 c3,cs=[c0,c1,c2,c3]:=by
  match cs,hl with
  |[c0,c1,c2,c3],_=>exact⟨c0,c1,c2,c3,rfl⟩
 obtain⟨f0,g1,g2,g3⟩:=K7 Qzc;obtain⟨f1,k1,k2,k3⟩:=K7 Qyx;have h0:=hf 0 f0 g1;have h1:=hf 1 f1 k1;simp only at g2 g3 k2 k3;rw[g2,g3,Qso]at h0;rw[k2,k3,Qso]at h1;have hs:xs.length=2:=by rw[hlen];kernel_rfl
 obtain⟨n1,l1,d1,e1,b1,v1⟩:=Qbf (h0.trans (List.getElem?_eq_getElem (by omega)));obtain⟨n2,l2,d2,e2,b2,v2⟩:=Qbf (h1.trans (List.getElem?_eq_getElem (by omega)));simp at e1 e2;obtain⟨rfl,rfl⟩:=e1;obtain⟨rfl,rfl⟩:=e2;refine⟨⟨n1,l1,n2,l2⟩,⟨b1,b2⟩,rfl,fun j u hu=>?_⟩
 match j,hu with
 |0,hu=>cases hu;exact⟨_,rfl,.bool _⟩
 |1,hu=>cases hu;exact⟨_,rfl,v1⟩
 |2,hu=>cases hu;exact⟨_,rfl,.bool _⟩
 |3,hu=>cases hu;exact⟨_,rfl,v2⟩
 |k+4,hu=>cases hu
end Go.Av
end
section
namespace Go.Av
open Go.Proofs
variable {H:Type} {enc:TypeId × Value→H} {W:World}
theorem Nl {α:Type} [Inhabited α] {n:Nat} {p:Nat→α→Prop} (h:∀i,i<n→∃a,p i a):∃f:Nat→α,∀i,i<n→p i (f i):=by
 classical
 exact⟨fun i=>if hi:i<n then Classical.choose (h i hi) else default,fun i hi=>by
  simp only[dif_pos hi];exact Classical.choose_spec (h i hi)⟩
theorem Qg5 (b o i j:Nat):((⟨b,o,none⟩:Addr).add i).add j=⟨b,o+(i+j),none⟩:=by
 by_cases hi:i=0
 ·subst hi;by_cases hj:j=0
  ·subst hj;simp[Addr.add]
  ·simp[Addr.add,hj]
 ·by_cases hj:j=0
  ·subst hj;simp[Addr.add,hi]
  ·simp[Addr.add,hi,hj,Nat.add_assoc]
end Go.Av
end
section
namespace Go.Av
open Go.Proofs
theorem ty22:Tryz.prog.underlying 22=some (.slice 46):=by kernel_rfl
theorem ty25:Tryz.prog.underlying 25=some (.slice 3):=by kernel_rfl
theorem ty3:Tryz.prog.underlying 3=some (.int .i64):=by kernel_rfl
theorem Q05:Tryz.prog.underlying 46=some (.struct (Qht 46)):=by kernel_rfl
theorem Qy9:Tryz.prog.cellsOf 46=6:=by kernel_rfl
theorem cl3:Tryz.prog.cellsOf 3=1:=by kernel_rfl
theorem Qyn:Yl 46 0=some (3,0):=by kernel_rfl
theorem Qy6:Yl 46 1=some (3,1):=by kernel_rfl
theorem Qx5:Yl 46 2=some (44,2):=by kernel_rfl
variable {H:Type} {enc:TypeId × Value→H} {W:World}
set_option maxRecDepth 100000
theorem U1 {fuel:Nat} {c:Value} {x:DataW H × List MemPlace} (h:DataW.trod enc Tryz.prog W 0 (fun _=>true) true fuel 3 [c]=some x):∃n:Int,c=.int .i64 n∧-9223372036854775808≤n∧n<9223372036854775808:=by
 obtain⟨n,h1,_,h2⟩:=DataW.trod_int ty3 h;have:=bounds_i64 h2;simp at h1;exact⟨n,h1,this.1,by omega⟩
theorem Qic {fuel:Nat} {cs:List Value} {x:DataW H × List MemPlace} (h:DataW.trod enc Tryz.prog W 0 (fun _=>true) true fuel 46 cs=some x):∃e:RE,e.sq.Lb∧cs.length=6∧∀(j:Nat) (u:AV),e.av.cells[j]?=some u→∃c,cs[j]?=some c∧VR W (fun _=>False) u c:=by
 obtain⟨xs,n,_,rfl,hl,hlen,hf⟩:=DataW.trod_struct Q05 h;rw[Qy9]at hl;obtain⟨c0,c1,c2,c3,c4,c5,rfl⟩:∃c0 c1 c2 c3 c4 c5,cs=[c0,c1,c2,c3,c4,c5]:=by
  match cs,hl with
  |[c0,c1,c2,c3,c4,c5],_=>exact⟨c0,c1,c2,c3,c4,c5,rfl⟩
 obtain⟨f0,g1,g2,g3⟩:=K7 Qyn;obtain⟨f1,k1,k2,k3⟩:=K7 Qy6;obtain⟨f2,l1,l2,l3⟩:=K7 Qx5;have h0:=hf 0 f0 g1;have h1:=hf 1 f1 k1;have h2:=hf 2 f2 l1;simp only at g2 g3 k2 k3 l2 l3;rw[g2,g3,cl3]at h0;rw[k2,k3,cl3]at h1;rw[l2,l3,Qx7]at h2;have hs:xs.length=3:=by rw[hlen];kernel_rfl
 obtain⟨a,e0,_⟩:=U1 (h0.trans (List.getElem?_eq_getElem (by omega)));obtain⟨b,e1,_⟩:=U1 (h1.trans (List.getElem?_eq_getElem (by omega)));obtain⟨r,q1,_,q3⟩:=Qjh (h2.trans (List.getElem?_eq_getElem (by omega)));subst e0 e1;refine⟨⟨a,b,r⟩,q1,rfl,fun j u hu=>?_⟩
 match j,hu with
 |0,hu=>cases hu;exact⟨_,rfl,.int _ _⟩
 |1,hu=>cases hu;exact⟨_,rfl,.int _ _⟩
 |2,hu=>exact q3 0 u hu
 |3,hu=>exact q3 1 u hu
 |4,hu=>exact q3 2 u hu
 |5,hu=>exact q3 3 u hu
 |k+6,hu=>cases hu
theorem Vn {fuel:Nat} {c:Value} {x:DataW H × List MemPlace} (h:DataW.trod enc Tryz.prog W 0 (fun _=>true) true fuel 22 [c]=some x):∃es:List RE,Vv es∧VR W (fun _=>False) (Bb es) c:=by
 rcases Go.Deep.open_slice ty22 h with⟨hc,_⟩|⟨a,len,cap,m,n,D,Pl,hc,_,hl,hm,hmm,_,hx⟩
 ·simp only[List.cons.injEq,and_true]at hc;subst hc;exact⟨[],fun y hy=>(by cases hy),.sl0 6 none 0⟩
 ·simp only[List.cons.injEq,and_true]at hc;subst hc;simp at hmm;subst hmm;rcases Nat.eq_zero_or_pos len with h0 | h0
  ·subst h0;exact⟨[],fun y hy=>(by cases hy),.sl0 6 (some a) m⟩
  ·rw[Qy9]at hx;obtain⟨C,hC⟩:=Nl (α:=List Value) (p:=fun i cs=>W.cells? 0 (a.add (i*6)) 6=some cs∧DataW.trod enc Tryz.prog W 0 (fun _=>true) true n 46 cs=some (D i,Pl i)) (n:=len) (fun i hi=>hx i (by omega));obtain⟨R,hR⟩:=Nl (α:=RE) (n:=len) (fun i hi=>Qic (hC i hi).2);have hcell:∀i,i<len→∀j,j<6→W.cell? ((a.add (i*6)).add j)=(C i)[j]?:=fun i hi=>(World.cells?_some (hC i hi).1).2.2;obtain⟨c00,hc00,_⟩:=(hR 0 h0).2.2 0 (.int .i64 (R 0).a) rfl;have h00:=(hcell 0 h0 0 (by omega)).trans hc00;have hsp:=World.cell?_spot h00
   have hbl:=Y0 h00;obtain⟨b,o,sp⟩:=a;simp[Addr.add]at hsp hbl;subst hsp;have hcellAt:∀i j u,A0 (D3 ((List.range len).map R)) i j=some u→i<len∧(R i).av.cells[j]?=some u:=by
    intro i j u hu;unfold A0 D3 at hu;rw[List.map_map,List.getElem?_map]at hu;by_cases hi:i<len
    ·rw[List.getElem?_range hi]at hu;exact⟨hi,hu⟩
    ·rw[List.getElem?_eq_none (by simp;omega)]at hu;cases hu
   refine⟨(List.range len).map R,fun y hy=>?_,?_⟩
   ·obtain⟨i,hi,rfl⟩:=List.mem_map.1 hy;exact(hR i (List.mem_range.1 hi)).1
   ·have:=VR.sl (w:=W) (F:=fun _=>False) 6 (D3 ((List.range len).map R)) b o m (fun i j=>((C i)[j]?).getD (.bool false)) (by simp) hbl (by simp;exact hl) (by
     intro v hv;obtain⟨y,_,rfl⟩:=List.mem_map.1 hv;rfl) (fun i j u hu=>by
      obtain⟨hi,hu⟩:=hcellAt i j u hu;obtain⟨c,q1,q2⟩:=(hR i hi).2.2 j u hu;rw[q1];exact q2) (fun i j u hu=>by
      obtain⟨hi,hu⟩:=hcellAt i j u hu;obtain⟨c,q1,q2⟩:=(hR i hi).2.2 j u hu;have hj:j<6:=by
       have:=(List.getElem?_eq_some_iff.1 q1).1;rw[(hR i hi).2.1]at this;exact this
      have:=hcell i hi j hj;rw[Qg5,q1]at this;rw[this,q1];rfl)
    rw[Vi,List.length_map,List.length_range]at this;exact this
theorem Ri {fuel:Nat} {c:Value} {x:DataW H × List MemPlace} (h:DataW.trod enc Tryz.prog W 0 (fun _=>true) true fuel 22 [c]=some x):∃es:List RE,(Vv es∧es.length<2^63)∧VR W (fun _=>False) (Bb es) c:=by
 obtain⟨r,h1,h2⟩:=Vn h;refine⟨r,⟨h1,?_⟩,h2⟩;have hmax:maxLen<2^63:=by unfold maxLen;omega
 have hlen:∀(A:Option Addr) (len cap:Nat),c=.slice A len cap→len≤maxLen→r.length<2^63:=fun A len cap hc hl=>by
  subst hc;unfold Bb at h2;generalize hr:D3 r=R at h2;have hrl:r.length=R.length:=by rw[←hr,Vi]
  rw[hrl];cases h2 with
  |sl0=>simp
  |sl=>omega
 rcases Go.Deep.open_slice ty22 h with⟨hc,_⟩|⟨a,len,cap,m,n,D,Pl,hc,_,hl,hm,_⟩
 ·simp only[List.cons.injEq,and_true]at hc;exact hlen _ _ _ hc (by omega)
 ·simp only[List.cons.injEq,and_true]at hc;exact hlen _ _ _ hc (by omega)
theorem Xc {fuel:Nat} {c:Value} {x:DataW H × List MemPlace} (h:DataW.trod enc Tryz.prog W 0 (fun _=>true) true fuel 25 [c]=some x):∃o:List Int,True∧VR W (fun _=>False) (.sl 1 (o.map fun v=>.int .i64 v)) c:=by
 rcases Go.Deep.open_slice1 ty25 cl3 h with⟨hc,_⟩|⟨a,len,cap,m,n,V,D,Pl,hc,_,hl,hm,hmm,_,hx⟩
 ·simp only[List.cons.injEq,and_true]at hc;subst hc;exact⟨[],trivial,.sl0 1 none 0⟩
 ·simp only[List.cons.injEq,and_true]at hc;subst hc;simp at hmm;subst hmm;rcases Nat.eq_zero_or_pos len with h0 | h0
  ·subst h0;exact⟨[],trivial,.sl0 1 (some a) m⟩
  ·obtain⟨R,hR⟩:=Nl (α:=Int) (n:=len) (p:=fun i r=>V i=.int .i64 r) (fun i hi=>by
    obtain⟨r,hr,_⟩:=U1 (hx i (by omega)).2;exact⟨r,hr⟩)
   have h00:=(hx 0 (by omega)).1;have hsp:=World.cell?_spot h00;have hbl:=Y0 h00;obtain⟨b,o,sp⟩:=a;simp[Addr.add]at hsp hbl;subst hsp;have hcellAt:∀i j u,A0 (((List.range len).map R).map fun v=>AV.int .i64 v) i j=some u→i<len∧j=0∧u=.int .i64 (R i):=by
    intro i j u hu;unfold A0 at hu;rw[List.map_map,List.getElem?_map]at hu;by_cases hi:i<len
    ·rw[List.getElem?_range hi]at hu;cases j with
     |zero=>cases hu;exact⟨hi,rfl,rfl⟩
     |succ k=>cases hu
    ·rw[List.getElem?_eq_none (by simp;omega)]at hu;cases hu
   refine⟨(List.range len).map R,trivial,?_⟩;have:=VR.sl (w:=W) (F:=fun _=>False) 1 (((List.range len).map R).map fun v=>AV.int .i64 v) b o m (fun i _=>V i) (by simp) hbl (by simp;exact hl) (by
    intro v hv;obtain⟨y,_,rfl⟩:=List.mem_map.1 hv;rfl) (fun i j u hu=>by
     obtain⟨hi,rfl,rfl⟩:=hcellAt i j u hu;rw[hR i hi];exact .int _ _) (fun i j u hu=>by
     obtain⟨hi,rfl,rfl⟩:=hcellAt i j u hu;have:=(hx i (by omega)).1;rcases Nat.eq_zero_or_pos i with h'|h'
     ·subst h';simpa[Addr.add]using this
     ·have h'':i≠0:=by omega
      simpa[Addr.add,h'']using this)
   rw[List.length_map,List.length_map,List.length_range]at this;exact this
def vrl (W:World):List AV→List Value→Prop
 |[],[]=>True
 |x::xs,c::cs=>VR W (fun _=>False) x c∧vrl W xs cs
 |_,_=>False
theorem Qgl:∀{xs:List AV} {cs:List Value},vrl W xs cs→cs.length=xs.length∧∀(j:Nat) u v,xs[j]?=some u→cs[j]?=some v→VR W (fun _=>False) u v
 |[],[],_=>⟨rfl,fun j u v h=>by cases h⟩
 |x::xs,c::cs,h=>by
  obtain⟨h1,h2⟩:=Qgl h.2;refine⟨by simp[h1],fun j u v hu hv=>?_⟩
  match j,hu,hv with
  |0,hu,hv=>cases hu;cases hv;exact h.1
  |k+1,hu,hv=>exact h2 k u v hu hv
 |[],_::_,h=>h.elim
 |_::_,[],h=>h.elim
theorem W9 {f:FuncId} {xs:List AV} (hf:Aj Tryz.prog f xs Ac.emp fun v mm=>v=.bool true∧mm=Ac.emp) {cs:List Value} (hx:vrl W xs cs) :
  Calls Tryz.prog f cs.toArray W fun e W'=>e=.returned (.bool true)∧RowKit.Below W.heap.size W W':=by
 have hO:C7 (fun _=>False) Ac.emp=fun _=>False:=by funext b;simp[C7,Ac.emp]
 obtain⟨h1,h2⟩:=Qgl hx;refine(hf.2 W (fun _=>False) cs.toArray (fun b hb=>hb.elim) (fun b x hx=>by cases hx) ?_).mono ?_
 ·rw[hO];exact⟨by simpa using h1,fun j u v hu hv'=>h2 j u v hu (by simpa using hv')⟩
 ·rintro e W' ⟨v,cv,g',rfl,⟨rfl,_⟩,_,hvr,hg,_⟩;cases hvr;exact⟨rfl,⟨hg.os,hg.tape,hg.output,hg.size,fun k hk=>hg.block k hk (by simp[Ac.emp])⟩⟩
end Go.Av
end
