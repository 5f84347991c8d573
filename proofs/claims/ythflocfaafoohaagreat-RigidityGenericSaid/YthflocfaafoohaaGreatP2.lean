/- A part of the proof. -/
import Derived.Test.YthflocfaafoohaaGreatP1
set_option linter.all false
set_option exponentiation.threshold 5000
set_option maxRecDepth 10000
section
namespace Go.Av
open Go.Proofs
theorem Ds:Tryz.prog.follows .mixedOrders=true:=by kernel_rfl
theorem Ge {x:Int} (h1:-9223372036854775808≤x) (h2:x<9223372036854775808):IntKind.i64.wrap x=x:=by
 simp only[IntKind.wrap,IntKind.bits,IntKind.signed,Bool.true_and];split<;>rename_i h<;>simp only[ge_iff_le,decide_eq_true_eq,Int.not_le]at h<;>omega
@[simp] theorem Qb9 (x:Int):IntKind.u32.wrap x=x % 4294967296:=by simp[IntKind.wrap,IntKind.bits,IntKind.signed]
@[simp] theorem Qaq (x:Int):IntKind.u64.wrap x=x % 18446744073709551616:=by simp[IntKind.wrap,IntKind.bits,IntKind.signed]
def nth (l:List Nat) (i:Nat):Nat:=l.getD i 0
theorem Ye {l:List Nat} {i:Nat} (h:i<l.length):nth l i=l[i]:=by unfold nth;rw[List.getD_eq_getElem?_getD,List.getElem?_eq_getElem h];rfl
def Bk (l:List Nat):List AV:=l.map fun(n:Nat)=>.int .u32 (n:Int)
def Am (l:List Nat):AV:=.sl 1 (Bk l)
@[simp] theorem Lu (l:List Nat):(Bk l).length=l.length:=by simp[Bk]
@[simp] theorem Qjn (l:List Nat) (i x:Nat):(Bk l).set i (.int .u32 (x:Int))=Bk (l.set i x):=by simp[Bk,List.map_set]
theorem C4 (n:Nat):List.replicate n (.int .u32 0)=Bk (List.replicate n 0):=by simp[Bk]
@[simp] theorem u32s_get? {l:List Nat} {i:Nat} (h:i<l.length):(Bk l)[i]?=some (.int .u32 (nth l i:Nat)):=by simp[Bk,Ye h,h]
@[simp] theorem u32s_get {l:List Nat} {i:Nat} (h:i<(Bk l).length):(Bk l)[i]=.int .u32 (nth l i:Nat):=by
 have h':i<l.length:=by simpa[Bk]using h
 simp[Bk,Ye h']
@[simp] theorem Q0i (n i:Nat):nth (List.replicate n 0) i=0:=by
 unfold nth;rw[List.getD_eq_getElem?_getD,List.getElem?_replicate];split<;>rfl
theorem Nz {l:List Nat} {i:Nat} (x:Nat) (h:i<l.length):nth (l.set i x) i=x:=by
 unfold nth;rw[List.getD_eq_getElem?_getD,List.getElem?_set_self h];rfl
theorem Ny {l:List Nat} {i j:Nat} (x:Nat) (h:i≠j):nth (l.set i x) j=nth l j:=by
 unfold nth;rw[List.getD_eq_getElem?_getD,List.getElem?_set_ne h,←List.getD_eq_getElem?_getD]
@[simp] theorem Qnv (l:List Nat):(Bk l).all (fun v=>v.cells.length==1&&v.cells.all AV.one)=true:=by
 rw[List.all_eq_true];intro v hv;obtain⟨n,_,rfl⟩:=List.mem_map.1 hv;rfl
theorem Qx (l:List Nat) (n:Nat):(Bk l).take n=Bk (l.take n):=by simp[Bk,List.map_take]
theorem Qo (l:List Nat) (n:Nat):(Bk l).drop n=Bk (l.drop n):=by simp[Bk,List.map_drop]
theorem Rt (a b:List Nat):Bk a++Bk b=Bk (a++b):=by simp[Bk]
@[simp] theorem Qy8:Bk []=[]:=rfl
@[simp] theorem Qq0 (l:List Nat):Bk l=[]↔l=[]:=by simp[Bk]
@[simp] theorem Qux (l:List Nat):(Am l).cells=[Am l]:=(rfl)
@[simp] theorem Qz8 (l:List Nat):(Am l).one=true:=(rfl)
@[simp] theorem Qu3 (l:List Nat):(Am l).isAny=false:=(rfl)
@[simp] theorem Qv8 (e:TypeId) (l:List Nat) (size bytes:Nat) (zero:AV) (fs:List (Nat × Nat × Option Bool)):K9 ⟨size,bytes,.slice e,zero,fs⟩ (Am l)=some (.int .i64 l.length):=by
 simp[Am]
@[simp] theorem Qwh (m:Ac) (l:List Nat):Gu m 1 (Am l)=some (Bk l):=by simp[Am]
@[simp] theorem Qmv (P:Program) (e:TypeId) (l:List Nat) (size bytes:Nat) (zero:AV) (fs:List (Nat × Nat × Option Bool)) (k:IntKind) (n:Int):B4 P ⟨size,bytes,.slice e,zero,fs⟩ (Am l) (.int k n)=(Ai P e).bind fun te=>if 1=te.size∧0≤n∧n<l.length then some (.rptr [.int .u32 (nth l n.toNat:Nat)]) else none:=by
 unfold Am;rw[Hr]
 congr 1
 funext te
 rw[Lu];by_cases h:1=te.size∧0≤n∧n<l.length
 ·rw[if_pos h,if_pos h];have h1:n.toNat<l.length:=by omega
  simp only[Bk,nth,List.getD_eq_getElem?_getD,List.getElem?_map,List.getElem?_eq_getElem h1,Option.map_some,Option.getD_some];rfl
 ·rw[if_neg h,if_neg h]
@[simp] theorem Qqm (P:Program) (e:TypeId) (l:List Nat) (size bytes:Nat) (zero:AV) (fs:List (Nat × Nat × Option Bool)) (lo hi:Option AV):Hw P ⟨size,bytes,.slice e,zero,fs⟩ (Am l) lo hi=(Ai P e).bind fun te=>if 1=te.size then (Et l.length lo hi).map fun(a,b)=>Am ((l.drop a).take (b-a)) else none:=by
 unfold Am;rw[Qdq,Lu];simp only[Qo,Qx]
theorem C9 {m:Ac} {b:Nat} {e:TypeId} {l:List Nat} (h:m b=some ⟨e,1,Bk l⟩):B2 m Ac.emp (.osl b 1 0 l.length) (Am l):=by
 refine .osl b 1 0 l.length _ _ h rfl rfl (by simp) (by simp) ?_;intro k v v' h1 h2;simp only[Nat.zero_add]at h1;rw[h1]at h2;cases h2;exact .same _
theorem E3 {m m':Ac} {b:Nat} {e:TypeId} {l:List Nat} (h:m b=some ⟨e,1,Bk l⟩) (h':m' b=none):B2 m m' (.osl b 1 0 l.length) (Am l):=by
 refine .osl b 1 0 l.length _ _ h h' rfl (by simp) (by simp) ?_;intro k v v' h1 h2;simp only[Nat.zero_add]at h1;rw[h1]at h2;cases h2;exact .same _
@[simp] theorem Qn5 (m m':Ac):B2 m m' .nil (Am [])↔True:=iff_true_intro (.nilsl 1)
theorem Aw (l:List Nat) (i:Nat):val (l.take (i+1))=val (l.take i)+4294967296^i*nth l i:=by
 unfold nth;rcases Nat.lt_or_ge i l.length with h | h
 ·rw[Wg l i h,List.getD_eq_getElem?_getD,List.getElem?_eq_getElem h];rfl
 ·rw[List.take_of_length_le h,List.take_of_length_le (by omega),List.getD_eq_getElem?_getD,List.getElem?_eq_none h];simp
theorem Lb.nth {l:List Nat} (h:Lb l) (i:Nat):nth l i<4294967296:=by
 unfold Av.nth;rcases Nat.lt_or_ge i l.length with h' | h'
 ·rw[List.getD_eq_getElem?_getD,List.getElem?_eq_getElem h'];exact h.get i h'
 ·rw[List.getD_eq_getElem?_getD,List.getElem?_eq_none h'];simp
theorem Mc {l:List Nat} {i:Nat} (h:l.length≤i):nth l i=0:=by
 unfold nth;rw[List.getD_eq_getElem?_getD,List.getElem?_eq_none h];rfl
theorem Bj (l:List Nat) (i x:Nat) (h:i<l.length):val ((l.set i x).take (i+1))=val (l.take i)+4294967296^i*x:=by
 rw[Aw,List.take_set_of_le (by omega)]
 congr 2
 simp[nth,List.getD_eq_getElem?_getD,h]
@[simp] theorem Qze (a b:Nat):Int.tdiv (a:Int) (b:Int)=((a / b:Nat):Int):=rfl
@[simp] theorem Qzq (a b:Nat):Int.tmod (a:Int) (b:Int)=((a % b:Nat):Int):=rfl
@[simp] theorem Q0o (a:Nat):Int.tdiv (a:Int) 4294967296=((a / 4294967296:Nat):Int):=rfl
theorem Qi (l:List Nat) (i:Nat) (n:Int) (x:Nat) (h:n=x):(Bk l).set i (.int .u32 n)=Bk (l.set i x):=by rw[h,Qjn]
end Go.Av
end
section
namespace Go.Av
open Go.Proofs
theorem Dt (l:List Nat) (hl:l.length<2^62):Aj Tryz.prog 138 [Am l] Ac.emp fun v m=>v=Am (E0 l)∧m=Ac.emp:=by
 refine Ad Tryz.func138 rfl rfl 21 rfl (Nat.le_of_ble_eq_true rfl) ?_;refine AW.seq ?_;refine AW.region (fun _=>false) (by kernel_rfl) ?_;simp;refine AW.keep [(0,Am l)] (by simp[Ak]) ?_;refine AW.seq ?_;refine AW.block (AW.loopS (ι:=List Nat) (fun l=>[(0,Am l)]) (fun _=>Ac.emp) (fun l'=>l'.length<2^62∧E0 l'=E0 l) List.length l ⟨hl,rfl⟩ rfl (by simp) ?_);rintro l' ⟨h1,h2⟩;by_cases hz:∃l2,l'=l2++[0]
 ·refine AW.seq (AW.seq ?_);refine AW.region (fun _=>false) (by kernel_rfl) ?_;obtain⟨l2,rfl⟩:=hz;have hw:IntKind.i64.wrap (l2.length:Int)=l2.length:=Ge (by omega) (by simp at h1;omega);simp[hw,nth];refine⟨by omega,?_⟩;refine AW.cond (t:=true) rfl rfl ?_;refine AW.skip ?_;simp;refine AW.block (AW.region (fun _=>false) (by kernel_rfl) ?_);simp[hw];refine⟨by omega,l2,?_⟩;simp at h1;simp[←h2,L1,Am];omega
 ·have ht:E0 l'=l':=by
   rcases List.eq_nil_or_concat l' with rfl|⟨l2,x,rfl⟩
   ·rfl
   ·rw[List.concat_eq_append]at *;exact Ob l2 (fun h=>hz ⟨l2,by rw[h]⟩)
  rw[ht]at h2;refine AW.seq (AW.seq_has [(14,.bool false),(0,Am l')] Ac.emp (AW.region (fun _=>false) (by kernel_rfl) ?_) ?_)
  ·rcases List.eq_nil_or_concat l' with rfl|⟨l2,x,rfl⟩
   ·simp
   ·rw[List.concat_eq_append]at *;have hx:x≠0:=fun h=>hz ⟨l2,by rw[h]⟩;have hw:IntKind.i64.wrap (l2.length:Int)=l2.length:=Ge (by omega) (by simp at h1;omega);simp[hw,hx,nth];omega
  refine AW.cond (t:=false) rfl rfl ?_;refine AW.exit ?_;simp;refine AW.seq ?_;refine AW.region (fun _=>false) (by kernel_rfl) ?_;simp;exact AW.ret (Ag rfl _ (.same _) ⟨by simp[h2],rfl⟩)
theorem J5 (a b:List Nat) (ha:Lb a) (hb:Lb b) (la:a.length<2^40) (lb:b.length<2^40):Aj Tryz.prog 113 [Am a,Am b] Ac.emp fun v m=>v=Am (Ao (val a+val b))∧m=Ac.emp:=by
 refine Ad Tryz.func113 rfl rfl 54 rfl (Nat.le_of_ble_eq_true rfl) ?_;refine AW.seq (AW.region (fun _=>false) (by kernel_rfl) ?_);simp;generalize hN:max a.length b.length+1=N;have hm:(if a.length<b.length then (b.length:Int) else a.length)+1=(N:Int):=by split<;>omega
 refine AW.seq (AW.region (fun _=>false) (by kernel_rfl) ?_);have hw:IntKind.i64.wrap (N:Int)=N:=Ge (by omega) (by omega);simp[Ak,hm,hw];refine⟨by omega,Af.intro fun bl _=>?_⟩;refine AW.seq (AW.region (fun _=>false) (by kernel_rfl) ?_);simp;refine AW.seq_ex (ι:=List Nat) (fun o=>[(5,.osl bl 1 0 o.length)]) (fun o=>Ac.emp.set bl ⟨124,1,Bk o⟩) (fun o=>Lb o∧val o=val a+val b∧o.length<2^41) ?_ ?_
 ·refine AW.seq (AW.region (fun _=>false) (by kernel_rfl) ?_);simp;refine AW.block (AW.loopS (ι:=Nat × Nat × List Nat) (fun x=>[(0,Am a),(1,Am b),(5,.osl bl 1 0 N),(6,.int .u64 (x.2.1:Nat)),(7,.int .i64 (x.1:Nat))]) (fun x=>Ac.emp.set bl ⟨124,1,Bk x.2.2⟩)
   (fun x=>x.1≤N∧x.2.1<2∧Lb x.2.2∧x.2.2.length=N∧val (x.2.2.take x.1)+4294967296^x.1*x.2.1=val (a.take x.1)+val (b.take x.1)) (fun x=>N-x.1) (0,0,List.replicate N 0) ⟨by simp,by simp,Lb.rep _,by simp,by simp[val]⟩ (by simp[C4]) (by simp) ?_)
  rintro⟨i,c,o⟩ ⟨h1,h2,h3,h4,h5⟩;simp only at h1 h2 h3 h4 h5;simp only;refine AW.seq (AW.seq (AW.region (fun _=>false) (by kernel_rfl) ?_));simp;refine AW.cond_split rfl rfl (fun hi=>?_) (fun hi=>?_)
  ·simp at hi;refine AW.skip ?_;simp;refine AW.seq (AW.block ?_);refine AW.seq (AW.region (fun _=>false) (by kernel_rfl) ?_);simp;refine AW.seq_has [(0,Am a),(1,Am b),(5,.osl bl 1 0 N),(7,.int .i64 (i:Nat)),(8,.int .u64 (c+nth a i:Nat))] (Ac.emp.set bl ⟨124,1,Bk o⟩) ?_ ?_
   ·refine AW.seq (AW.region (fun _=>false) (by kernel_rfl) ?_);simp;refine AW.cond_split rfl rfl (fun hl=>?_) (fun hl=>?_)
    ·simp at hl;refine AW.region (fun _=>false) (by kernel_rfl) ?_;have:=ha.nth i;simp[hl];omega
    ·simp at hl;refine AW.skip ?_;have:=Mc hl;simp[hl,this]
   refine AW.seq_has [(5,.osl bl 1 0 N),(7,.int .i64 (i:Nat)),(8,.int .u64 (c+nth a i+nth b i:Nat)),(0,Am a),(1,Am b)] (Ac.emp.set bl ⟨124,1,Bk o⟩) ?_ ?_
   ·refine AW.seq (AW.region (fun _=>false) (by kernel_rfl) ?_);simp;refine AW.cond_split rfl rfl (fun hl=>?_) (fun hl=>?_)
    ·simp at hl;refine AW.region (fun _=>false) (by kernel_rfl) ?_;have:=ha.nth i;have:=hb.nth i;simp[hl];omega
    ·simp at hl;refine AW.skip ?_;have:=Mc hl;simp[hl,this]
   have:=ha.nth i;have:=hb.nth i;generalize hs:c+nth a i+nth b i=s;refine AW.seq (AW.region (fun _=>false) (by kernel_rfl) ?_);simp[hi,h4];rw[set_set,Qi o i _ (s % 4294967296) (by simp)];refine AW.region (fun _=>false) (by kernel_rfl) ?_;simp;refine AW.region (fun _=>false) (by kernel_rfl) ?_;have hw2:IntKind.i64.wrap ((i:Int)+1)=((i+1:Nat):Int):=Ge (by omega) (by omega);simp[hw2];refine⟨i+1,s / 4294967296,o.set i (s % 4294967296),⟨by omega,by omega,h3.set i _ (by omega),by simpa using h4,?_⟩,by omega,rfl,by omega,by simp⟩;rw[Bj _ _ _ (by omega),Aw,Aw,Nat.pow_succ]
   have q:=Fz (4294967296^i) s;rw[←hs,Nat.mul_add,Nat.mul_add,hs]at q;omega
  ·simp at hi;have hiN:i=N:=by omega
   subst hiN;refine AW.exit ?_;simp;refine⟨o,⟨h3,?_,by omega⟩,rfl,h4.symm⟩;rw[Aq o i (by omega),Aq a i (by omega),Aq b i (by omega)]at h5;have q1:=K3 ha (k:=max a.length b.length) (by omega);have q2:=K3 hb (k:=max a.length b.length) (by omega);have q3:4294967296^i=4294967296^(max a.length b.length)*4294967296:=by rw[←hN,Nat.pow_succ]
   have q4:c=0:=by
    rcases Nat.eq_zero_or_pos c with h|h
    ·exact h
    ·have:=Nat.le_mul_of_pos_right (4294967296^i) h;omega
   subst q4;omega
 ·rintro o ⟨h1,h2,h3⟩;refine AW.toEmp [(5,Am o)] (by simp;exact C9 (e:=124) (by simp)) ?_;refine AW.seq (AW.region (fun _=>false) (by kernel_rfl) ?_);simp;refine Aa.val (Dt o (by omega)) ?_;try simp
  exact AW.ret (Ag rfl _ (.same _) ⟨by simp[Cc h1,h2],rfl⟩)
end Go.Av
end
section
namespace Go.Av
open Go.Proofs
theorem Kz {a b:List Nat} (ha:Lb a) {k:Nat} (h:val a+val (b.take (k+1))=val b+val (a.take (k+1))) (hlt:nth a k<nth b k):val a<val b:=by
 rw[Aw,Aw]at h;have h1:=I8 ha k;have h2:4294967296^k*(nth a k+1)≤4294967296^k*nth b k:=Nat.mul_le_mul_left _ hlt;rw[Nat.mul_add]at h2;omega
theorem Ii (x y:Nat) (lx:(Ao x).length<2^40) (ly:(Ao y).length<2^40):Aj Tryz.prog 116 [Am (Ao x),Am (Ao y)] Ac.emp fun v m=>v=.int .i64 (He x y)∧m=Ac.emp:=by
 refine Ad Tryz.func116 rfl rfl 41 rfl (Nat.le_of_ble_eq_true rfl) ?_;generalize ha:Ao x=a at *;generalize hb:Ao y=b at *;have va:val a=x:=by rw[←ha,Ax]
 have vb:val b=y:=by rw[←hb,Ax]
 have la:Lb a:=by rw[←ha];exact A6 x
 have lb:Lb b:=by rw[←hb];exact A6 y
 refine AW.sr ?_;simp;refine AW.seq ?_;refine AW.sr ?_;simp[Ak];refine AW.cs (fun h=>?_) (fun h=>?_) rfl
 ·refine AW.seq ?_;refine AW.sr ?_;simp;refine AW.cs (fun h2=>?_) (fun h2=>?_) rfl<;>simp at h h2
  ·refine AW.sr ?_;simp;have:=Im (x:=x) (y:=y) (by rw[ha,hb];omega);exact AW.ret (Ag rfl _ (.same _) ⟨by simp[Sx this],rfl⟩)
  ·refine AW.skip ?_;simp;refine AW.sr ?_;simp;have:=Im (x:=y) (y:=x) (by rw[ha,hb];omega);exact AW.ret (Ag rfl _ (.same _) ⟨by simp[S0 this],rfl⟩)
 ·simp at h;have hl:a.length=b.length:=by omega
  refine AW.skip ?_;have hw:IntKind.i64.wrap ((a.length:Int)-1)=(a.length:Int)-1:=Ge (by omega) (by omega);simp;refine AW.seq (AW.sr ?_);simp[hw,←hl];refine AW.block (AW.loopS (ι:=Nat) (fun k=>[(0,Am a),(1,Am b),(5,.int .i64 ((k:Int)-1))]) (fun _=>Ac.emp) (fun k=>k≤a.length∧val a+val (b.take k)=val b+val (a.take k)) (fun k=>k) a.length ⟨Nat.le_refl _,by rw[Aq b _ (by omega),Aq a _ (by omega)];omega⟩ rfl (by simp) ?_);rintro k ⟨h1,h2⟩;refine AW.seq (AW.sr ?_);simp;refine AW.cs (fun h3=>?_) (fun h3=>?_) rfl<;>simp at h3
  ·obtain⟨k,rfl⟩:∃k',k=k'+1:=⟨k-1,by omega⟩;refine AW.skip ?_;have e:((k+1:Nat):Int)-1=k:=by omega
   simp only[e];simp;refine AW.seq (AW.block ?_);refine AW.seq (AW.sd [0,1,2,3,4,5,6,7,8] Ds ?_);simp;refine⟨by omega,by omega,?_⟩;refine AW.cs (fun h4=>?_) (fun h4=>?_) rfl<;>simp at h4
   ·refine AW.sr ?_;simp;have:=Kz la h2 h4;exact AW.ret (Ag rfl _ (.same _) ⟨by simp[Sx (show x<y by omega)],rfl⟩)
   refine AW.skip ?_;simp;refine AW.sd [0,1,2,3,4,5,6,7,8] Ds ?_;simp;refine⟨by omega,by omega,?_⟩;refine AW.cs (fun h5=>?_) (fun h5=>?_) rfl<;>simp at h5
   ·refine AW.sr ?_;simp;have:=Kz lb h2.symm h5;exact AW.ret (Ag rfl _ (.same _) ⟨by simp[S0 (show y<x by omega)],rfl⟩)
   refine AW.skip ?_;simp;have hw2:IntKind.i64.wrap ((k:Int)-1)=(k:Int)-1:=Ge (by omega) (by omega);refine AW.rg ?_;simp[hw2];refine⟨k,⟨by omega,?_⟩,by omega,rfl⟩;have:nth a k=nth b k:=by omega
   rw[Aw,Aw,this]at h2;omega
  ·have:k=0:=by omega
   subst this;refine AW.exit ?_;simp;refine AW.sr ?_;simp;simp[val]at h2;exact AW.ret (Ag rfl _ (.same _) ⟨by simp[Qfx (show x=y by omega)],rfl⟩)
theorem F2 (x y:Nat) (hxy:y≤x) (lx:(Ao x).length<2^40):Aj Tryz.prog 117 [Am (Ao x),Am (Ao y)] Ac.emp fun v m=>v=Am (Ao (x-y))∧m=Ac.emp:=by
 refine Ad Tryz.func117 rfl rfl 62 rfl (Nat.le_of_ble_eq_true rfl) ?_;have hlen:=K2 hxy;generalize ha:Ao x=a at *;generalize hb:Ao y=b at *;have va:val a=x:=by rw[←ha,Ax]
 have vb:val b=y:=by rw[←hb,Ax]
 have la:Lb a:=by rw[←ha];exact A6 x
 have lb:Lb b:=by rw[←hb];exact A6 y
 refine AW.sr ?_;simp[Ak];refine AW.sr ?_;simp;refine⟨by omega,Af.intro fun bl _=>?_⟩;refine AW.sr ?_;simp;refine AW.seq_ex (ι:=List Nat) (fun o=>[(5,.osl bl 1 0 o.length)]) (fun o=>Ac.emp.set bl ⟨124,1,Bk o⟩) (fun o=>Lb o∧val o=x-y∧o.length<2^41) ?_ ?_
 ·refine AW.sr ?_;simp;refine AW.block (AW.loopS (ι:=Nat × Nat × List Nat) (fun x=>[(0,Am a),(1,Am b),(5,.osl bl 1 0 a.length),(6,.int .u64 (x.2.1:Nat)),(7,.int .i64 (x.1:Nat))]) (fun x=>Ac.emp.set bl ⟨124,1,Bk x.2.2⟩)
   (fun x=>x.1≤a.length∧x.2.1<2∧Lb x.2.2∧x.2.2.length=a.length∧val (x.2.2.take x.1)+val (b.take x.1)=val (a.take x.1)+4294967296^x.1*x.2.1) (fun x=>a.length-x.1) (0,0,List.replicate a.length 0) ⟨by simp,by simp,Lb.rep _,by simp,by simp[val]⟩ (by simp[C4]) (by simp) ?_)
  rintro⟨i,c,o⟩ ⟨h1,h2,h3,h4,h5⟩;simp only at h1 h2 h3 h4 h5;simp only;refine AW.seq (AW.sr ?_);simp;refine AW.cs (fun hi=>?_) (fun hi=>?_) rfl<;>simp at hi
  ·refine AW.skip ?_;simp;have qa:=la.nth i;have qb:=lb.nth i;have hw2:IntKind.i64.wrap ((i:Int)+1)=((i+1:Nat):Int):=Ge (by omega) (by omega);refine AW.seq (AW.block ?_);refine AW.sr ?_;simp;refine AW.seq_has [(0,Am a),(1,Am b),(5,.osl bl 1 0 a.length),(7,.int .i64 (i:Nat)),(8,.int .u64 (c+nth b i:Nat))] (Ac.emp.set bl ⟨124,1,Bk o⟩) ?_ ?_
   ·refine AW.sr ?_;simp;refine AW.cs (fun hl=>?_) (fun hl=>?_) rfl<;>simp at hl
    ·refine AW.rg ?_;simp[hl];omega
    ·refine AW.skip ?_;simp[Mc hl]
   refine AW.sr ?_;simp[hi];have q1:(nth a i:Int) % 18446744073709551616=nth a i:=by omega
   refine AW.cs (fun hl=>?_) (fun hl=>?_) rfl<;>simp[q1]at hl
   ·refine AW.sr ?_;simp[hi,h4,q1];rw[set_set,Qi o i _ (nth a i+4294967296-(c+nth b i)) (by omega)];refine AW.rg ?_;simp;refine AW.rg ?_;simp[hw2];refine⟨i+1,1,o.set i (nth a i+4294967296-(c+nth b i)),⟨by omega,by omega,h3.set i _ (by omega),by simpa using h4,?_⟩,by omega,rfl,by omega,by omega⟩;rw[Bj _ _ _ (by omega),Aw,Aw,Nat.pow_succ];have q:4294967296^i*(nth a i+4294967296-(c+nth b i))+4294967296^i*(c+nth b i)=4294967296^i*(nth a i)+4294967296^i*4294967296:=by
     rw[←Nat.mul_add,←Nat.mul_add];congr 1;omega
    rw[Nat.mul_add _ c]at q;omega
   ·refine AW.sr ?_;simp[hi,h4,q1];rw[set_set,Qi o i _ (nth a i-(c+nth b i)) (by omega)];refine AW.rg ?_;simp;refine AW.rg ?_;simp[hw2];refine⟨i+1,0,o.set i (nth a i-(c+nth b i)),⟨by omega,by omega,h3.set i _ (by omega),by simpa using h4,?_⟩,by omega,rfl,by omega,by omega⟩;rw[Bj _ _ _ (by omega),Aw,Aw];have q:4294967296^i*(nth a i-(c+nth b i))+4294967296^i*(c+nth b i)=4294967296^i*(nth a i):=by
     rw[←Nat.mul_add];congr 1;omega
    rw[Nat.mul_add _ c]at q;omega
  ·refine AW.exit ?_;simp;refine⟨o,⟨h3,?_,by omega⟩,rfl,h4.symm⟩;rw[Aq o i (by omega),Aq a i (by omega),Aq b i (by omega)]at h5;have q1:=K3 h3 (k:=i) (by omega);have q4:c=0:=by
    rcases Nat.eq_zero_or_pos c with h|h
    ·exact h
    ·have:=Nat.le_mul_of_pos_right (4294967296^i) h;omega
   subst q4;omega
 ·rintro o ⟨h1,h2,h3⟩;refine AW.toEmp [(5,Am o)] (by simp;exact C9 (e:=124) (by simp)) ?_;refine AW.sr ?_;simp;refine Aa.val (Dt o (by omega)) ?_;try simp
  exact AW.ret (Ag rfl _ (.same _) ⟨by simp[Cc h1,h2],rfl⟩)
end Go.Av
end
section
namespace Go.Av
theorem Kt {l:List Nat} (h:Lb l) (k:Nat):nth l k=val l / 4294967296^k % 4294967296:=by
 induction l generalizing k with
 |nil=>simp[nth,val]
 |cons x l ih =>
  have hx:=h x (by simp);cases k with
  |zero=>simp[nth,val];omega
  |succ k =>
   have:=ih (fun y hy=>h y (by simp[hy])) k;simp only[nth,List.getD_cons_succ]at this ⊢;rw[this,val,Nat.pow_succ,Nat.mul_comm _ 4294967296,←Nat.div_div_eq_div_mul]
   congr 2
   omega
theorem E9 (x k:Nat):nth (Ao x) k=x / 4294967296^k % 4294967296:=by rw[Kt (A6 x),Ax]
theorem Hn (k:Nat):4294967296^k=2^(32*k):=by rw[show(4294967296:Nat)=2^32 by rfl,←Nat.pow_mul]
theorem Hy (x i:Nat):x % 4294967296^(i+1)=x % 4294967296^i+4294967296^i*(x / 4294967296^i % 4294967296):=by
 rw[Nat.pow_succ,Nat.mod_mul]
theorem Qlk (x i:Nat):x / 4294967296^(i / 32) % 4294967296 / 2^(i % 32) % 2=x / 2^i % 2:=by
 have h:2^i=2^(32*(i / 32))*2^(i % 32):=by rw[←Nat.pow_add,Nat.div_add_mod]
 rw[h,←Nat.div_div_eq_div_mul,Hn];generalize x / 2^(32*(i / 32))=y;have hr:i % 32<32:=Nat.mod_lt _ (by omega);generalize i % 32=r at hr;have e:(4294967296:Nat)=2^r*2^(32-r):=by rw[←Nat.pow_add,Nat.add_sub_cancel' (by omega)]
 have e2:2^(32-r)=2*2^(31-r):=by rw[show 32-r=(31-r)+1 by omega,Nat.pow_succ,Nat.mul_comm]
 rw[e,Nat.mod_mul_right_div_self,e2,Nat.mod_mul_right_mod]
theorem R6 (x n i:Nat):(x / 4294967296^(i+n / 32) % 4294967296+x / 4294967296^(i+n / 32+1) % 4294967296*4294967296) / 2^(n % 32) % 4294967296=x / 2^n / 4294967296^i % 4294967296:=by
 have h:2^n=2^(32*(n / 32))*2^(n % 32):=by rw[←Nat.pow_add,Nat.div_add_mod]
 have h2:x / 2^n / 4294967296^i=x / 4294967296^(i+n / 32) / 2^(n % 32):=by
  rw[h,Nat.div_div_eq_div_mul,Nat.div_div_eq_div_mul,Nat.pow_add,Hn (n / 32)]
  congr 1
  rw[Nat.mul_comm (4294967296^i),Nat.mul_assoc,Nat.mul_assoc,Nat.mul_comm (2^(n % 32))]
 rw[h2,Nat.pow_succ 4294967296 (i+n / 32),←Nat.div_div_eq_div_mul];generalize x / 4294967296^(i+n / 32)=y;have e:y % 4294967296+y / 4294967296 % 4294967296*4294967296=y % 18446744073709551616:=by omega
 rw[e];have hr:n % 32<32:=Nat.mod_lt _ (by omega);generalize n % 32=r at hr;have e3:(18446744073709551616:Nat)=2^r*(4294967296*2^(32-r)):=by
  rw[show(4294967296:Nat)=2^32 by rfl,←Nat.pow_add,←Nat.pow_add,show r+(32+(32-r))=64 by omega]
 rw[e3,Nat.mod_mul_right_div_self,Nat.mod_mul_right_mod]
theorem Ze {r h d:Nat} (hr:r≤32) (hh:h<2^r):h ||| d*2^r % 4294967296=h+d*2^r % 4294967296:=by
 have e:d*2^r % 4294967296=2^r*(d % 2^(32-r)):=by
  rw[show(4294967296:Nat)=2^r*2^(32-r) by rw[←Nat.pow_add,Nat.add_sub_cancel' hr],Nat.mul_comm d,Nat.mul_mod_mul_left]
 rw[e,Nat.or_comm,Nat.add_comm,Nat.two_pow_add_eq_or_of_lt hh]
theorem Qng {a b:Nat} (ha:a<4294967296) (hb:b<4294967296):Gx .and .u32 (a:Int) (b:Int)=((a &&& b:Nat):Int):=by
 show IntKind.u32.wrap (((BitVec.ofInt 32 (a:Int) &&& BitVec.ofInt 32 (b:Int)).toNat:Nat):Int)=_
 rw[Qb9,BitVec.ofInt_natCast,BitVec.ofInt_natCast,BitVec.toNat_and,BitVec.toNat_ofNat,BitVec.toNat_ofNat,Nat.mod_eq_of_lt (show a<2^32 by omega),Nat.mod_eq_of_lt (show b<2^32 by omega)];have:=Nat.and_lt_two_pow (n:=32) a (show b<2^32 by omega);omega
theorem Qjj {a b:Nat} (ha:a<4294967296) (hb:b<4294967296):Gx .or .u32 (a:Int) (b:Int)=((a ||| b:Nat):Int):=by
 show IntKind.u32.wrap (((BitVec.ofInt 32 (a:Int) ||| BitVec.ofInt 32 (b:Int)).toNat:Nat):Int)=_
 rw[Qb9,BitVec.ofInt_natCast,BitVec.ofInt_natCast,BitVec.toNat_or,BitVec.toNat_ofNat,BitVec.toNat_ofNat,Nat.mod_eq_of_lt (show a<2^32 by omega),Nat.mod_eq_of_lt (show b<2^32 by omega)];have:=Nat.or_lt_two_pow (n:=32) (show a<2^32 by omega) (show b<2^32 by omega);omega
theorem Qoj {a b:Nat} (ha:a<18446744073709551616) (hb:b<18446744073709551616):Gx .and .u64 (a:Int) (b:Int)=((a &&& b:Nat):Int):=by
 show IntKind.u64.wrap (((BitVec.ofInt 64 (a:Int) &&& BitVec.ofInt 64 (b:Int)).toNat:Nat):Int)=_
 rw[Qaq,BitVec.ofInt_natCast,BitVec.ofInt_natCast,BitVec.toNat_and,BitVec.toNat_ofNat,BitVec.toNat_ofNat,Nat.mod_eq_of_lt (show a<2^64 by omega),Nat.mod_eq_of_lt (show b<2^64 by omega)];have:=Nat.and_lt_two_pow (n:=64) a (show b<2^64 by omega);omega
theorem Yi {a b:Nat} (ha:a<18446744073709551616) (hb:b<18446744073709551616):Gx .or .u64 (a:Int) (b:Int)=((a ||| b:Nat):Int):=by
 show IntKind.u64.wrap (((BitVec.ofInt 64 (a:Int) ||| BitVec.ofInt 64 (b:Int)).toNat:Nat):Int)=_
 rw[Qaq,BitVec.ofInt_natCast,BitVec.ofInt_natCast,BitVec.toNat_or,BitVec.toNat_ofNat,BitVec.toNat_ofNat,Nat.mod_eq_of_lt (show a<2^64 by omega),Nat.mod_eq_of_lt (show b<2^64 by omega)];have:=Nat.or_lt_two_pow (n:=64) (show a<2^64 by omega) (show b<2^64 by omega);omega
theorem Qmy (a j:Nat):Int.fdiv (a:Int) (2^j)=(a:Int) / 2^j:=by
 rw[Int.fdiv_eq_ediv_of_nonneg _ (Int.le_of_lt (Int.pow_pos (by omega)))]
@[simp] theorem Qzy (a:Nat):Int.tdiv (a:Int) 32=((a / 32:Nat):Int):=rfl
@[simp] theorem Qz6 (a:Nat):Int.tmod (a:Int) 32=((a % 32:Nat):Int):=rfl
@[simp] theorem Qqb (a:Nat):((a:Int) / 32).toNat=a / 32:=by omega
@[simp] theorem Qo8 (a:Nat):((a:Int) % 32).toNat=a % 32:=by omega
theorem Ok {x:Int} (h:-9223372036854775808≤x∧x<9223372036854775808):IntKind.i64.wrap x=x:=Ge h.1 h.2
@[simp] theorem Qzt:IntKind.u32.bits=32:=rfl
@[simp] theorem Qzb:IntKind.u64.bits=64:=rfl
theorem wi {a:Nat} (h:a<9223372036854775808):IntKind.i64.wrap (a:Int)=a:=Ge (by omega) (by omega)
theorem Ap (n:Nat) (h:n<9223372036854775808):IntKind.i64.wrap (n:Int)=(n:Int):=wi h
end Go.Av
end
section
namespace Go.Av
@[simp] theorem Qzg (a b:Nat):(a:Int)+(b:Int)=((a+b:Nat):Int):=by omega
@[simp] theorem Qkn (a b:Nat):(a:Int)*(b:Int)=((a*b:Nat):Int):=(Int.natCast_mul a b).symm
@[simp] theorem Qy0 (a b:Nat):(a:Int) / (b:Int)=((a / b:Nat):Int):=rfl
@[simp] theorem Qzk (a b:Nat):(a:Int) % (b:Int)=((a % b:Nat):Int):=rfl
@[simp] theorem Qyd (a j:Nat):Int.fdiv (a:Int) (2^j)=((a / 2^j:Nat):Int):=by
 rw[Qmy,show((2:Int)^j)=((2^j:Nat):Int) by simp[Int.natCast_pow]];rfl
@[simp] theorem Qyb (a j:Nat):(a:Int)*2^j=((a*2^j:Nat):Int):=by
 rw[show((2:Int)^j)=((2^j:Nat):Int) by simp[Int.natCast_pow],Qkn]
theorem Qbo {a b:Nat} (h:b≤a):(a:Int)-(b:Int)=((a-b:Nat):Int):=by omega
@[simp] theorem Qs5 (a:Nat):(a:Int)+1=((a+1:Nat):Int):=by omega
@[simp] theorem Quj (a:Nat):1+(a:Int)=((1+a:Nat):Int):=by omega
@[simp] theorem Qrv (a:Nat):(a:Int)*1=((a*1:Nat):Int):=by omega
@[simp] theorem Qsr (a:Nat):1*(a:Int)=((1*a:Nat):Int):=by omega
@[simp] theorem Qtx (a:Nat):(a:Int) / 1=((a / 1:Nat):Int):=rfl
@[simp] theorem Qub (a:Nat):(a:Int) % 1=((a % 1:Nat):Int):=rfl
@[simp] theorem Qqs (a:Nat):Int.tdiv (a:Int) 1=((a / 1:Nat):Int):=rfl
@[simp] theorem Qps (a:Nat):Int.tmod (a:Int) 1=((a % 1:Nat):Int):=rfl
@[simp] theorem Qwb (a:Nat):(a:Int)<1↔a<1:=by omega
@[simp] theorem Qwj (a:Nat):1<(a:Int)↔1<a:=by omega
@[simp] theorem Qwl (a:Nat):(a:Int)≤1↔a≤1:=by omega
@[simp] theorem Qvb (a:Nat):1≤(a:Int)↔1≤a:=by omega
@[simp] theorem Qvw (a:Nat):(a:Int)=1↔a=1:=by omega
@[simp] theorem Qs7 (a:Nat):(a:Int)+2=((a+2:Nat):Int):=by omega
@[simp] theorem Qug (a:Nat):2+(a:Int)=((2+a:Nat):Int):=by omega
@[simp] theorem Qti (a:Nat):(a:Int)*2=((a*2:Nat):Int):=by omega
@[simp] theorem Quk (a:Nat):2*(a:Int)=((2*a:Nat):Int):=by omega
@[simp] theorem Qtu (a:Nat):(a:Int) / 2=((a / 2:Nat):Int):=rfl
@[simp] theorem Qr2 (a:Nat):(a:Int) % 2=((a % 2:Nat):Int):=rfl
@[simp] theorem Qp2 (a:Nat):Int.tdiv (a:Int) 2=((a / 2:Nat):Int):=rfl
@[simp] theorem Qph (a:Nat):Int.tmod (a:Int) 2=((a % 2:Nat):Int):=rfl
@[simp] theorem Qxc (a:Nat):(a:Int)<2↔a<2:=by omega
@[simp] theorem Qwm (a:Nat):2<(a:Int)↔2<a:=by omega
@[simp] theorem Qv5 (a:Nat):(a:Int)≤2↔a≤2:=by omega
@[simp] theorem Qv4 (a:Nat):2≤(a:Int)↔2≤a:=by omega
@[simp] theorem Qxb (a:Nat):(a:Int)=2↔a=2:=by omega
@[simp] theorem Qtq (a:Nat):(a:Int)+4=((a+4:Nat):Int):=by omega
@[simp] theorem Qud (a:Nat):4+(a:Int)=((4+a:Nat):Int):=by omega
@[simp] theorem Qsz (a:Nat):(a:Int)*4=((a*4:Nat):Int):=by omega
@[simp] theorem Qsu (a:Nat):4*(a:Int)=((4*a:Nat):Int):=by omega
@[simp] theorem Qsv (a:Nat):(a:Int) / 4=((a / 4:Nat):Int):=rfl
@[simp] theorem Qte (a:Nat):(a:Int) % 4=((a % 4:Nat):Int):=rfl
@[simp] theorem Qpm (a:Nat):Int.tdiv (a:Int) 4=((a / 4:Nat):Int):=rfl
@[simp] theorem Qqj (a:Nat):Int.tmod (a:Int) 4=((a % 4:Nat):Int):=rfl
@[simp] theorem Qva (a:Nat):(a:Int)<4↔a<4:=by omega
@[simp] theorem Qv6 (a:Nat):4<(a:Int)↔4<a:=by omega
@[simp] theorem Qxm (a:Nat):(a:Int)≤4↔a≤4:=by omega
@[simp] theorem Qvg (a:Nat):4≤(a:Int)↔4≤a:=by omega
@[simp] theorem Quy (a:Nat):(a:Int)=4↔a=4:=by omega
@[simp] theorem Qqi (a:Nat):(a:Int)+10=((a+10:Nat):Int):=by omega
@[simp] theorem Qp4 (a:Nat):10+(a:Int)=((10+a:Nat):Int):=by omega
@[simp] theorem Qp0 (a:Nat):(a:Int)*10=((a*10:Nat):Int):=by omega
@[simp] theorem Qpy (a:Nat):10*(a:Int)=((10*a:Nat):Int):=by omega
@[simp] theorem Qpt (a:Nat):(a:Int) / 10=((a / 10:Nat):Int):=rfl
@[simp] theorem Qpq (a:Nat):(a:Int) % 10=((a % 10:Nat):Int):=rfl
@[simp] theorem Qom (a:Nat):Int.tdiv (a:Int) 10=((a / 10:Nat):Int):=rfl
@[simp] theorem Qnd (a:Nat):Int.tmod (a:Int) 10=((a % 10:Nat):Int):=rfl
@[simp] theorem Qsa (a:Nat):(a:Int)<10↔a<10:=by omega
@[simp] theorem Qsf (a:Nat):10<(a:Int)↔10<a:=by omega
@[simp] theorem Qt1 (a:Nat):(a:Int)≤10↔a≤10:=by omega
@[simp] theorem Qrm (a:Nat):10≤(a:Int)↔10≤a:=by omega
@[simp] theorem Qtc (a:Nat):(a:Int)=10↔a=10:=by omega
@[simp] theorem Qqz (a:Nat):(a:Int)+31=((a+31:Nat):Int):=by omega
@[simp] theorem Qq9 (a:Nat):31+(a:Int)=((31+a:Nat):Int):=by omega
@[simp] theorem Qre (a:Nat):(a:Int)*31=((a*31:Nat):Int):=by omega
@[simp] theorem Qqe (a:Nat):31*(a:Int)=((31*a:Nat):Int):=by omega
@[simp] theorem Qpw (a:Nat):(a:Int) / 31=((a / 31:Nat):Int):=rfl
@[simp] theorem Qrd (a:Nat):(a:Int) % 31=((a % 31:Nat):Int):=rfl
@[simp] theorem Qov (a:Nat):Int.tdiv (a:Int) 31=((a / 31:Nat):Int):=rfl
@[simp] theorem Qnz (a:Nat):Int.tmod (a:Int) 31=((a % 31:Nat):Int):=rfl
@[simp] theorem Qul (a:Nat):(a:Int)<31↔a<31:=by omega
@[simp] theorem Qsh (a:Nat):31<(a:Int)↔31<a:=by omega
@[simp] theorem Qt2 (a:Nat):(a:Int)≤31↔a≤31:=by omega
@[simp] theorem Qtp (a:Nat):31≤(a:Int)↔31≤a:=by omega
@[simp] theorem Qss (a:Nat):(a:Int)=31↔a=31:=by omega
@[simp] theorem Qpn (a:Nat):(a:Int)+32=((a+32:Nat):Int):=by omega
@[simp] theorem Qqf (a:Nat):32+(a:Int)=((32+a:Nat):Int):=by omega
@[simp] theorem Qpj (a:Nat):(a:Int)*32=((a*32:Nat):Int):=by omega
@[simp] theorem Qq3 (a:Nat):32*(a:Int)=((32*a:Nat):Int):=by omega
@[simp] theorem Qqg (a:Nat):(a:Int) / 32=((a / 32:Nat):Int):=rfl
@[simp] theorem Qqn (a:Nat):(a:Int) % 32=((a % 32:Nat):Int):=rfl
@[simp] theorem Qs1 (a:Nat):(a:Int)<32↔a<32:=by omega
@[simp] theorem Qta (a:Nat):32<(a:Int)↔32<a:=by omega
@[simp] theorem Qs9 (a:Nat):(a:Int)≤32↔a≤32:=by omega
@[simp] theorem Qup (a:Nat):32≤(a:Int)↔32≤a:=by omega
@[simp] theorem Qrl (a:Nat):(a:Int)=32↔a=32:=by omega
@[simp] theorem Qqd (a:Nat):(a:Int)+63=((a+63:Nat):Int):=by omega
@[simp] theorem Qq6 (a:Nat):63+(a:Int)=((63+a:Nat):Int):=by omega
@[simp] theorem Qqv (a:Nat):(a:Int)*63=((a*63:Nat):Int):=by omega
@[simp] theorem Qql (a:Nat):63*(a:Int)=((63*a:Nat):Int):=by omega
@[simp] theorem Qq1 (a:Nat):(a:Int) / 63=((a / 63:Nat):Int):=rfl
@[simp] theorem Qqa (a:Nat):(a:Int) % 63=((a % 63:Nat):Int):=rfl
@[simp] theorem Qo5 (a:Nat):Int.tdiv (a:Int) 63=((a / 63:Nat):Int):=rfl
@[simp] theorem Qm1 (a:Nat):Int.tmod (a:Int) 63=((a % 63:Nat):Int):=rfl
@[simp] theorem Qr8 (a:Nat):(a:Int)<63↔a<63:=by omega
@[simp] theorem Qri (a:Nat):63<(a:Int)↔63<a:=by omega
@[simp] theorem Qt9 (a:Nat):(a:Int)≤63↔a≤63:=by omega
@[simp] theorem Qst (a:Nat):63≤(a:Int)↔63≤a:=by omega
@[simp] theorem Qsb (a:Nat):(a:Int)=63↔a=63:=by omega
@[simp] theorem Qp9 (a:Nat):(a:Int)+64=((a+64:Nat):Int):=by omega
@[simp] theorem Qqw (a:Nat):64+(a:Int)=((64+a:Nat):Int):=by omega
@[simp] theorem Qq8 (a:Nat):(a:Int)*64=((a*64:Nat):Int):=by omega
@[simp] theorem Qpc (a:Nat):64*(a:Int)=((64*a:Nat):Int):=by omega
@[simp] theorem Qpk (a:Nat):(a:Int) / 64=((a / 64:Nat):Int):=rfl
@[simp] theorem Qqy (a:Nat):(a:Int) % 64=((a % 64:Nat):Int):=rfl
@[simp] theorem Qo4 (a:Nat):Int.tdiv (a:Int) 64=((a / 64:Nat):Int):=rfl
@[simp] theorem Qn4 (a:Nat):Int.tmod (a:Int) 64=((a % 64:Nat):Int):=rfl
@[simp] theorem Qru (a:Nat):(a:Int)<64↔a<64:=by omega
@[simp] theorem Qrt (a:Nat):64<(a:Int)↔64<a:=by omega
@[simp] theorem Qrh (a:Nat):(a:Int)≤64↔a≤64:=by omega
@[simp] theorem Qr3 (a:Nat):64≤(a:Int)↔64≤a:=by omega
@[simp] theorem Qun (a:Nat):(a:Int)=64↔a=64:=by omega
@[simp] theorem Qn3 (a:Nat):(a:Int)+128=((a+128:Nat):Int):=by omega
@[simp] theorem Qm3 (a:Nat):128+(a:Int)=((128+a:Nat):Int):=by omega
@[simp] theorem Qno (a:Nat):(a:Int)*128=((a*128:Nat):Int):=by omega
@[simp] theorem Qnk (a:Nat):128*(a:Int)=((128*a:Nat):Int):=by omega
@[simp] theorem Qnc (a:Nat):(a:Int) / 128=((a / 128:Nat):Int):=rfl
@[simp] theorem Qoz (a:Nat):(a:Int) % 128=((a % 128:Nat):Int):=rfl
@[simp] theorem Qme (a:Nat):Int.tdiv (a:Int) 128=((a / 128:Nat):Int):=rfl
@[simp] theorem Qmf (a:Nat):Int.tmod (a:Int) 128=((a % 128:Nat):Int):=rfl
@[simp] theorem Qpe (a:Nat):(a:Int)<128↔a<128:=by omega
@[simp] theorem Qq7 (a:Nat):128<(a:Int)↔128<a:=by omega
@[simp] theorem Qqx (a:Nat):(a:Int)≤128↔a≤128:=by omega
@[simp] theorem Qqq (a:Nat):128≤(a:Int)↔128≤a:=by omega
@[simp] theorem Qqh (a:Nat):(a:Int)=128↔a=128:=by omega
@[simp] theorem Qcp (a:Nat):(a:Int)+4294967295=((a+4294967295:Nat):Int):=by omega
@[simp] theorem Qcn (a:Nat):4294967295+(a:Int)=((4294967295+a:Nat):Int):=by omega
@[simp] theorem Qcv (a:Nat):(a:Int)*4294967295=((a*4294967295:Nat):Int):=by omega
@[simp] theorem Qcl (a:Nat):4294967295*(a:Int)=((4294967295*a:Nat):Int):=by omega
@[simp] theorem Qcj (a:Nat):(a:Int) / 4294967295=((a / 4294967295:Nat):Int):=rfl
@[simp] theorem Qck (a:Nat):(a:Int) % 4294967295=((a % 4294967295:Nat):Int):=rfl
@[simp] theorem Qaz (a:Nat):Int.tdiv (a:Int) 4294967295=((a / 4294967295:Nat):Int):=rfl
@[simp] theorem Qax (a:Nat):Int.tmod (a:Int) 4294967295=((a % 4294967295:Nat):Int):=rfl
@[simp] theorem Qdu (a:Nat):(a:Int)<4294967295↔a<4294967295:=by omega
@[simp] theorem Qet (a:Nat):4294967295<(a:Int)↔4294967295<a:=by omega
@[simp] theorem Qez (a:Nat):(a:Int)≤4294967295↔a≤4294967295:=by omega
@[simp] theorem Qe7 (a:Nat):4294967295≤(a:Int)↔4294967295≤a:=by omega
@[simp] theorem Qdj (a:Nat):(a:Int)=4294967295↔a=4294967295:=by omega
@[simp] theorem Qcq (a:Nat):(a:Int)+4294967296=((a+4294967296:Nat):Int):=by omega
@[simp] theorem Qcm (a:Nat):4294967296+(a:Int)=((4294967296+a:Nat):Int):=by omega
@[simp] theorem Qco (a:Nat):(a:Int)*4294967296=((a*4294967296:Nat):Int):=by omega
@[simp] theorem Qci (a:Nat):4294967296*(a:Int)=((4294967296*a:Nat):Int):=by omega
@[simp] theorem Qct (a:Nat):(a:Int) / 4294967296=((a / 4294967296:Nat):Int):=rfl
@[simp] theorem Qcs (a:Nat):(a:Int) % 4294967296=((a % 4294967296:Nat):Int):=rfl
@[simp] theorem Qbk (a:Nat):Int.tdiv (a:Int) 4294967296=((a / 4294967296:Nat):Int):=rfl
@[simp] theorem Zv (a:Nat):Int.tmod (a:Int) 4294967296=((a % 4294967296:Nat):Int):=rfl
@[simp] theorem Qed (a:Nat):(a:Int)<4294967296↔a<4294967296:=by omega
@[simp] theorem Qc9 (a:Nat):4294967296<(a:Int)↔4294967296<a:=by omega
@[simp] theorem Qdt (a:Nat):(a:Int)≤4294967296↔a≤4294967296:=by omega
@[simp] theorem Qek (a:Nat):4294967296≤(a:Int)↔4294967296≤a:=by omega
@[simp] theorem Qeo (a:Nat):(a:Int)=4294967296↔a=4294967296:=by omega
@[simp] theorem Ra (a:Nat):(a:Int)+18446744073709551616=((a+18446744073709551616:Nat):Int):=by omega
@[simp] theorem Rf (a:Nat):18446744073709551616+(a:Int)=((18446744073709551616+a:Nat):Int):=by omega
@[simp] theorem Rj (a:Nat):(a:Int)*18446744073709551616=((a*18446744073709551616:Nat):Int):=by omega
@[simp] theorem Rr (a:Nat):18446744073709551616*(a:Int)=((18446744073709551616*a:Nat):Int):=by omega
@[simp] theorem Ru (a:Nat):(a:Int) / 18446744073709551616=((a / 18446744073709551616:Nat):Int):=rfl
@[simp] theorem Re (a:Nat):(a:Int) % 18446744073709551616=((a % 18446744073709551616:Nat):Int):=rfl
@[simp] theorem Qq (a:Nat):Int.tdiv (a:Int) 18446744073709551616=((a / 18446744073709551616:Nat):Int):=rfl
@[simp] theorem P9 (a:Nat):Int.tmod (a:Int) 18446744073709551616=((a % 18446744073709551616:Nat):Int):=rfl
@[simp] theorem Sf (a:Nat):(a:Int)<18446744073709551616↔a<18446744073709551616:=by omega
@[simp] theorem So (a:Nat):18446744073709551616<(a:Int)↔18446744073709551616<a:=by omega
@[simp] theorem Sd (a:Nat):(a:Int)≤18446744073709551616↔a≤18446744073709551616:=by omega
@[simp] theorem Sj (a:Nat):18446744073709551616≤(a:Int)↔18446744073709551616≤a:=by omega
@[simp] theorem Sm (a:Nat):(a:Int)=18446744073709551616↔a=18446744073709551616:=by omega
attribute [simp] set_set Qoy Qos
end Go.Av
end
section
namespace Go.Av
open Go.Proofs
theorem Pw (x i:Nat) (hi:i<2^50) (lx:(Ao x).length<2^40):Aj Tryz.prog 114 [Am (Ao x),.int .i64 i] Ac.emp fun v m=>v=.int .u32 ((x / 2^i % 2:Nat):Int)∧m=Ac.emp:=by
 refine Ad Tryz.func114 rfl rfl 19 rfl (Nat.le_of_ble_eq_true rfl) ?_;have hw:=Ap (i / 32) (by omega);(repeat refine AW.seq ?_);refine AW.rg ?_;simp[-Int.natCast_ediv,-Int.natCast_emod,-Int.natCast_pow,Ak];(repeat refine AW.seq ?_);refine AW.rg ?_;simp[-Int.natCast_emod,-Int.natCast_ediv,hw];(repeat refine AW.seq ?_);refine AW.cs (fun h=>?_) (fun h=>?_) rfl<;>simp at h
 ·(repeat refine AW.seq ?_);refine AW.rg ?_;simp[-Int.natCast_emod,-Int.natCast_ediv];have:x / 2^i % 2=0:=by
   rw[←Qlk,←E9,Mc h];simp
  exact AW.ret (Ah [.int .u32 0] rfl (by simp[-Int.natCast_ediv]) ⟨by rw[this];rfl,rfl⟩)
 ·refine AW.skip ?_;try simp[-Int.natCast_ediv,-Int.natCast_emod,-Int.natCast_pow]
  have hm:min (i % 32) 32=i % 32:=by omega
  (repeat refine AW.seq ?_);refine AW.rg ?_;simp[-Int.natCast_emod,-Int.natCast_ediv,hw,hm];have q:=(A6 x).nth (i / 32);refine⟨by omega,?_⟩;have e2:nth (Ao x) (i / 32) / 2^(i % 32)<4294967296:=Nat.lt_of_le_of_lt (Nat.div_le_self _ _) q;refine AW.ret (Ag rfl _ (.same _) ⟨?_,rfl⟩);have e3:=Qng e2 (show 1<4294967296 by omega);have e4:nth (Ao x) (i / 32) / 2^(i % 32) &&& 1=x / 2^i % 2:=by rw[Nat.and_one_is_mod,E9,Qlk]
  rw[e4]at e3;simp[-Int.natCast_ediv,-Int.natCast_emod,-Int.natCast_pow]at e3 ⊢;exact e3
def Qgf (y:Nat) (v:AV):Prop:=∃t,v=.tup [Am (Ao y),.bool t]
theorem Qd3 (x n:Nat) (hn:n<2^50) (lx:(Ao x).length<2^40):Aj Tryz.prog 161 [Am (Ao x),.int .i64 n] Ac.emp fun v m=>Qgf (x / 2^n) v∧m=Ac.emp:=by
 refine Ad Tryz.func161 rfl rfl 100 rfl (Nat.le_of_ble_eq_true rfl) ?_;have hw:=Ap (n / 32) (by omega);have hx:=Ax x;have hb:=A6 x;have hnth:=E9 x;generalize ha:Ao x=a at *;have hx2:x<4294967296^a.length:=by rw[←hx];exact Kq hb
 (repeat refine AW.seq ?_);refine AW.rg ?_;simp[Ak];(repeat refine AW.seq ?_);refine AW.rg ?_;simp[-Int.natCast_ediv,hw];(repeat refine AW.seq ?_);refine AW.cs (fun h=>?_) (fun h=>?_) rfl<;>simp at h
 ·(repeat refine AW.seq ?_);refine AW.rg ?_;simp[-Int.natCast_ediv];have:x / 2^n=0:=by
   have h3:=K3 hb h;rw[Hn]at h3;have h4:2^(32*(n / 32))≤2^n:=Nat.pow_le_pow_right (by omega) (by omega);exact Nat.div_eq_of_lt (by omega)
  exact AW.ret (Ah [Am [],.bool (decide (0<a.length))] rfl (by simp[-Int.natCast_ediv]) ⟨⟨decide (0<a.length),by simp[this,Be]⟩,rfl⟩)
 ·refine AW.skip ?_;try simp[-Int.natCast_ediv]
  (repeat refine AW.seq ?_);refine AW.rg ?_;simp[-Int.natCast_ediv];refine AW.seq_ex (ι:=Bool) (fun t=>[(0,Am a),(1,.int .i64 n),(6,.bool t)]) (fun _=>Ac.emp) (fun _=>True) ?_ ?_
  ·(repeat refine AW.seq ?_);refine AW.rg ?_;simp[-Int.natCast_ediv];refine AW.block (AW.loopS (ι:=Nat × Bool) (fun x=>[(0,Am a),(1,.int .i64 n),(6,.bool x.2),(7,.int .i64 x.1)]) (fun _=>Ac.emp) (fun x=>x.1≤n / 32) (fun x=>n / 32-x.1) (0,false) (by simp) rfl (by simp[-Int.natCast_ediv]) ?_);rintro⟨i,t⟩ h1;simp only at h1;simp only;have hw2:=Ap (i+1) (by omega);(repeat refine AW.seq ?_);refine AW.rg ?_;simp[-Int.natCast_ediv,hw];(repeat refine AW.seq ?_);refine AW.cs (fun h2=>?_) (fun h2=>?_) rfl<;>simp at h2
   ·refine AW.skip ?_;try simp[-Int.natCast_ediv]
    (repeat refine AW.seq ?_);refine AW.block ?_;cases t
    ·(repeat refine AW.seq ?_);refine AW.rg ?_;simp[-Int.natCast_ediv];refine⟨by omega,?_⟩;(repeat refine AW.seq ?_);refine AW.rg ?_;simp[-Int.natCast_add,-Int.natCast_ediv,hw2];refine⟨i+1,?_⟩;by_cases hz:nth a i=0<;>simp[-Int.natCast_add,hz]<;>omega
    ·(repeat refine AW.seq ?_);refine AW.rg ?_;simp[-Int.natCast_ediv];(repeat refine AW.seq ?_);refine AW.rg ?_;simp[-Int.natCast_add,-Int.natCast_ediv,hw2];exact⟨i+1,by omega,by omega,rfl⟩
   ·refine AW.exit ?_;try simp[-Int.natCast_ediv]
  ·rintro t -;have hw3:IntKind.i64.wrap ((a.length:Int)-((n / 32:Nat):Int))=((a.length-n / 32:Nat):Int):=by rw[Qbo (by omega)];exact wi (by omega)
   (repeat refine AW.seq ?_);refine AW.rg ?_;simp[-Int.natCast_mul,-Int.natCast_ediv,hw,hw3];refine⟨by omega,Af.intro fun bl _=>?_⟩;generalize hN:a.length-n / 32=N at *;refine AW.seq_ex (ι:=List Nat) (fun o=>[(0,Am a),(1,.int .i64 n),(6,.bool t),(8,.osl bl 1 0 o.length)]) (fun o=>Ac.emp.set bl ⟨124,1,Bk o⟩) (fun o=>Lb o∧val o=x / 2^n∧o.length<2^41) ?_ ?_
   ·(repeat refine AW.seq ?_);refine AW.rg ?_;simp[-Int.natCast_ediv];refine AW.block (AW.loopS (ι:=Nat × List Nat) (fun x=>[(0,Am a),(1,.int .i64 n),(6,.bool t),(8,.osl bl 1 0 N),(9,.int .i64 (x.1:Nat))]) (fun x=>Ac.emp.set bl ⟨124,1,Bk x.2⟩)
     (fun y=>y.1≤N∧Lb y.2∧y.2.length=N∧val (y.2.take y.1)=x / 2^n % 4294967296^y.1) (fun x=>N-x.1) (0,List.replicate N 0) ⟨by simp,Lb.rep _,by simp,by simp[val,Nat.mod_one]⟩ (by simp[C4]) (by simp[-Int.natCast_ediv]) ?_)
    rintro⟨i,o⟩ ⟨h1,h3,h4,h5⟩;simp only at h1 h3 h4 h5;simp only;(repeat refine AW.seq ?_);refine AW.rg ?_;simp;(repeat refine AW.seq ?_);refine AW.cs (fun hi=>?_) (fun hi=>?_) rfl<;>simp at hi
    ·refine AW.skip ?_;try simp
     have hw4:=Ap (i+n / 32) (by omega);have hw5:=Ap (i+n / 32+1) (by omega);have hw6:=Ap (i+1) (by omega);have q1:=hb.nth (i+n / 32);have q2:=hb.nth (i+n / 32+1);(repeat refine AW.seq ?_);refine AW.block ?_;(repeat refine AW.seq ?_);refine AW.rg ?_;simp[-Int.natCast_emod,-Int.natCast_add,-Int.natCast_ediv,hw,hw4];refine⟨by omega,?_⟩;refine AW.seq_has [(0,Am a),(1,.int .i64 n),(6,.bool t),(8,.osl bl 1 0 N),(9,.int .i64 (i:Nat)),(10,.int .u64 ((nth a (i+n / 32)+nth a (i+n / 32+1)*4294967296:Nat):Int))] (Ac.emp.set bl ⟨124,1,Bk o⟩) ?_ ?_
     ·(repeat refine AW.seq ?_);refine AW.rg ?_;simp[-Int.natCast_add,-Int.natCast_ediv,-Int.natCast_emod,hw,hw4,hw5];(repeat refine AW.seq ?_);refine AW.cs (fun hl=>?_) (fun hl=>?_) rfl<;>simp at hl
      ·(repeat refine AW.seq ?_);refine AW.rg ?_;simp[-Int.natCast_mul,-Int.natCast_emod,-Int.natCast_add,-Int.natCast_ediv,hw,hw4,hw5];omega
      ·refine AW.skip ?_;try simp[-Int.natCast_emod,-Int.natCast_ediv,-Int.natCast_add,-Int.natCast_mul]
       simp[-Int.natCast_emod,Mc hl];omega
     ·have hm:min (n % 32) 64=n % 32:=by omega
      have e:(nth a (i+n / 32)+nth a (i+n / 32+1)*4294967296) / 2^(n % 32) % 4294967296=x / 2^n / 4294967296^i % 4294967296:=by rw[←R6,hnth,hnth]
      (repeat refine AW.seq ?_);refine AW.rg ?_;simp[-Int.natCast_ediv,-Int.natCast_pow,-Int.natCast_emod,-Int.natCast_add,-Int.natCast_mul,hw,hm,hi,h4,e];(repeat refine AW.seq ?_);refine AW.rg ?_;simp[-Int.natCast_ediv,-Int.natCast_emod,-Int.natCast_pow,-Int.natCast_add,-Int.natCast_mul,hw6];refine⟨i+1,_,⟨by omega,h3.set i _ (Nat.mod_lt _ (by omega)),by simpa using h4,?_⟩,by omega,rfl,rfl⟩;rw[Bj _ _ _ (by omega),h5,Hy]
    ·have hiN:i=N:=by omega
     refine AW.exit ?_;try simp
     refine⟨o,⟨h3,?_,by omega⟩,by simp[h4]⟩;rw[Aq o i (by omega)]at h5;rw[h5];apply Nat.mod_eq_of_lt;refine Nat.div_lt_of_lt_mul (Nat.lt_of_lt_of_le hx2 ?_);rw[Hn,Hn,←Nat.pow_add];exact Nat.pow_le_pow_right (by omega) (by omega)
   ·rintro o ⟨h1,h2,h3⟩;refine AW.toEmp [(0,Am a),(1,.int .i64 n),(6,.bool t),(8,Am o)] (by simp;exact C9 (e:=124) (by simp)) ?_;(repeat refine AW.seq ?_);refine AW.rg ?_;simp[-Int.natCast_emod,hw];cases t
    ·(repeat refine AW.seq ?_);refine AW.rd [0,2,1,3,4,5,6,7,8,9,10,11,12,13,14,15] Ds ?_;simp[-Int.natCast_emod];refine Aa.val (Dt o (by omega)) ?_;simp[-Int.natCast_ediv,-Int.natCast_emod,hw,h];refine AW.ret (Ah [Am (Ao (x / 2^n)),.bool _] rfl (by simp[-Int.natCast_ediv,-Int.natCast_emod,Cc h1,h2];exact .same _) ⟨⟨_,rfl⟩,rfl⟩)
    ·(repeat refine AW.seq ?_);refine AW.rd [0,2,1,3,4,5,6,7,8,9,10,11,12,13,14,15] Ds ?_;simp[-Int.natCast_emod];refine Aa.val (Dt o (by omega)) ?_;try simp[-Int.natCast_emod]
     refine AW.ret (Ah [Am (Ao (x / 2^n)),.bool _] rfl (by simp[-Int.natCast_emod,Cc h1,h2];exact .same _) ⟨⟨_,rfl⟩,rfl⟩)
theorem Uf (x:Nat) (hx:x≠0) (lx:(Ao x).length<2^40):Aj Tryz.prog 115 [Am (Ao x)] Ac.emp fun v m=>(∃k,2^k ∣ x∧x / 2^k % 2=1∧v=Am (Ao (x / 2^k)))∧m=Ac.emp:=by
 refine Ad Tryz.func115 rfl rfl 19 rfl (Nat.le_of_ble_eq_true rfl) ?_;have hlen:x<2^(32*(Ao x).length):=by rw[←Hn];exact A1.1 (Nat.le_refl _)
 (repeat refine AW.seq ?_);refine AW.rg ?_;simp[Ak];(repeat refine AW.seq ?_);refine AW.rg ?_;simp;refine AW.seq_ex (ι:=Nat) (fun k=>[(0,Am (Ao x)),(3,.int .i64 k)]) (fun _=>Ac.emp) (fun k=>2^k ∣ x∧x / 2^k % 2=1) ?_ ?_
 ·refine AW.block (AW.loopS (ι:=Nat) (fun k=>[(0,Am (Ao x)),(3,.int .i64 k)]) (fun _=>Ac.emp) (fun k=>2^k ∣ x) (fun k=>32*(Ao x).length-k) 0 (by simp) rfl (by simp) ?_);rintro k h1;have hk:k<32*(Ao x).length:=by
   rcases Nat.lt_or_ge k (32*(Ao x).length)with h|h
   ·exact h
   ·have h3:2^(32*(Ao x).length)≤2^k:=Nat.pow_le_pow_right (by omega) h;have h4:=Nat.le_of_dvd (by omega) h1;omega
  have hw2:=Ap (k+1) (by omega);(repeat refine AW.seq ?_);refine AW.rg ?_;simp;refine Aa.val (Pw x k (by omega) lx) ?_;simp[-Int.natCast_ediv,-Int.natCast_emod,-Int.natCast_pow];(repeat refine AW.seq ?_);refine AW.cs (fun h2=>?_) (fun h2=>?_) rfl<;>simp at h2
  ·refine AW.skip ?_;try simp[-Int.natCast_ediv,-Int.natCast_emod,-Int.natCast_pow]
   (repeat refine AW.seq ?_);refine AW.block ?_;(repeat refine AW.seq ?_);refine AW.rg ?_;simp[-Int.natCast_ediv,-Int.natCast_emod,-Int.natCast_pow,-Int.natCast_add,hw2];refine⟨k+1,?_,by omega,rfl⟩;rw[Nat.pow_succ];obtain⟨c,hc⟩:=h1;rw[hc,Nat.mul_div_cancel_left _ (Nat.pow_pos (by omega))]at h2;rw[hc];exact Nat.mul_dvd_mul_left _ (Nat.dvd_of_mod_eq_zero h2)
  ·refine AW.exit ?_;try simp[-Int.natCast_ediv,-Int.natCast_emod,-Int.natCast_pow]
   exact⟨k,⟨h1,by omega⟩,rfl⟩
 ·rintro k ⟨h1,h2⟩;have hk:k<32*(Ao x).length:=by
   rcases Nat.lt_or_ge k (32*(Ao x).length)with h|h
   ·exact h
   ·have h3:2^(32*(Ao x).length)≤2^k:=Nat.pow_le_pow_right (by omega) h;have h4:=Nat.le_of_dvd (by omega) h1;omega
  (repeat refine AW.seq ?_);refine AW.rg ?_;simp;refine Aa.pure (Qd3 x k (by omega) lx) ?_;rintro v ⟨t,rfl⟩;simp;(repeat refine AW.seq ?_);refine AW.rg ?_;simp;exact AW.ret (U9 [Am (Ao (x / 2^k))] rfl (by simp) ⟨⟨k,h1,h2,rfl⟩,rfl⟩)
end Go.Av
end
section
namespace Go.Av
open Go.Proofs
theorem Qi3 (x n:Nat) (hn:n<2^40) (lx:(Ao x).length<2^40):Aj Tryz.prog 118 [Am (Ao x),.int .i64 n] Ac.emp fun v m=>v=Am (Ao (x*2^n))∧m=Ac.emp:=by
 refine Ad Tryz.func118 rfl rfl 57 rfl (Nat.le_of_ble_eq_true rfl) ?_;have hw:=Ap (n / 32) (by omega);have hx:=Ax x;have hb:=A6 x;have hnth:=E9 x;generalize ha:Ao x=a at *;have hx2:x<4294967296^a.length:=by rw[←hx];exact Kq hb
 have hw1:=Ap (a.length+n / 32) (by omega);have hw3:=Ap (a.length+n / 32+1) (by omega);(repeat refine AW.seq ?_);refine AW.rg ?_;simp[Ak];(repeat refine AW.seq ?_);refine AW.rg ?_;simp[-Int.natCast_mul,-Int.natCast_add,-Int.natCast_ediv,hw,hw1,hw3];refine⟨by omega,Af.intro fun bl _=>?_⟩;generalize hN:a.length+n / 32+1=N at *;have hpow:2^(n % 32)*2^(32-n % 32)=4294967296:=by rw[←Nat.pow_add,show n % 32+(32-n % 32)=32 by omega]
 have hr:n % 32<32:=Nat.mod_lt _ (by omega);have hn2:2^n=4294967296^(n / 32)*2^(n % 32):=by rw[Hn,←Nat.pow_add,Nat.div_add_mod]
 refine AW.seq_ex (ι:=List Nat) (fun o=>[(5,.osl bl 1 0 o.length)]) (fun o=>Ac.emp.set bl ⟨124,1,Bk o⟩) (fun o=>Lb o∧val o=x*2^n∧o.length<2^42) ?_ ?_
 ·(repeat refine AW.seq ?_);refine AW.rg ?_;simp[-Int.natCast_add,-Int.natCast_ediv];refine AW.block (AW.loopS (ι:=Nat × List Nat) (fun x=>[(0,Am a),(1,.int .i64 n),(5,.osl bl 1 0 N),(6,.int .i64 (x.1:Nat))]) (fun x=>Ac.emp.set bl ⟨124,1,Bk x.2⟩)
   (fun y=>y.1≤a.length∧Lb y.2∧y.2.length=N∧nth y.2 (y.1+n / 32)<2^(n % 32)∧val (y.2.take (y.1+n / 32+1))=x % 4294967296^y.1*2^n) (fun y=>a.length-y.1) (0,List.replicate N 0) ⟨by simp,Lb.rep _,by simp,by simp[Nat.pow_pos],by simp[J9,Nat.mod_one]⟩ (by simp[C4]) (by simp[-Int.natCast_add,-Int.natCast_ediv]) ?_)
  rintro⟨i,o⟩ ⟨h1,h3,h4,h6,h5⟩;simp only at h1 h3 h4 h5 h6;simp only;(repeat refine AW.seq ?_);refine AW.rg ?_;simp;(repeat refine AW.seq ?_);refine AW.cs (fun hi=>?_) (fun hi=>?_) rfl<;>simp at hi
  ·refine AW.skip ?_;try simp
   have hw4:=Ap (i+n / 32) (by omega);have hw5:=Ap (i+n / 32+1) (by omega);have hw6:=Ap (i+1) (by omega);have hm:min (n % 32) 64=n % 32:=by omega
   have q1:=hb.nth i;have q2:=h3.nth (i+n / 32);(repeat refine AW.seq ?_);refine AW.block ?_;generalize hd:nth a i=d at *;have q3:d*2^(n % 32)<18446744073709551616:=by
    have:2^(n % 32)≤2^32:=Nat.pow_le_pow_right (by omega) (by omega)
    calc d*2^(n % 32)≤d*2^32:=Nat.mul_le_mul_left _ this
     _<18446744073709551616:=by omega
   have q4:d*2^(n % 32) % 18446744073709551616=d*2^(n % 32):=Nat.mod_eq_of_lt q3;(repeat refine AW.seq ?_);refine AW.rg ?_;simp[-Int.natCast_mul,-Int.natCast_pow,-Int.natCast_emod,hi,hd,hm,q4];have q5:Gx .or .u32 (nth o (i+n / 32):Int) ((d*2^(n % 32) % 4294967296:Nat):Int)=((nth o (i+n / 32)+d*2^(n % 32) % 4294967296:Nat):Int):=by
    rw[Qjj q2 (Nat.mod_lt _ (by omega)),Ze (by omega) h6]
   have q6:i+n / 32<N:=by omega
   have q7:i+n / 32+1<N:=by omega
   (repeat refine AW.seq ?_);refine AW.rg ?_;simp[-Int.natCast_add,-Int.natCast_ediv,-Int.natCast_emod,-Int.natCast_mul,-Int.natCast_pow,hw,hw4,h4,q6,q5];(repeat refine AW.seq ?_);refine AW.rg ?_;simp[-Int.natCast_ediv,-Int.natCast_add,-Int.natCast_emod,-Int.natCast_mul,-Int.natCast_pow,hw,hw4,hw5,h4,q7];have q8:d*2^(n % 32) / 4294967296<2^(n % 32):=by
    refine Nat.div_lt_of_lt_mul ?_;exact Nat.mul_lt_mul_of_pos_right q1 (Nat.pow_pos (n:=n % 32) (show 0<2 by omega))
   have q9:nth o (i+n / 32)+d*2^(n % 32) % 4294967296<4294967296:=by
    rw[←Ze (show n % 32≤32 by omega) h6];exact Nat.or_lt_two_pow (n:=32) q2 (Nat.mod_lt _ (by omega))
   (repeat refine AW.seq ?_);refine AW.rg ?_;simp[-Int.natCast_add,-Int.natCast_ediv,-Int.natCast_emod,-Int.natCast_mul,-Int.natCast_pow,hw6];refine⟨i+1,_,⟨by omega,(h3.set _ _ q9).set _ _ (Nat.mod_lt _ (by omega)),by simpa using h4,?_,?_⟩,by omega,rfl,rfl⟩
   ·rw[show i+1+n / 32=i+n / 32+1 by omega,Nz _ (by rw[List.length_set];omega)];exact Nat.lt_of_le_of_lt (Nat.mod_le _ _) q8
   ·have q10:d*2^(n % 32) / 4294967296<4294967296:=Nat.lt_of_lt_of_le q8 (Nat.pow_le_pow_right (n:=2) (by omega) (show n % 32≤32 by omega));rw[show i+1+n / 32=i+n / 32+1 by omega,Bj _ _ _ (by rw[List.length_set];omega),Bj _ _ _ (by omega),Nat.mod_eq_of_lt q10];rw[Aw]at h5;have c:=Fz (4294967296^(i+n / 32)) (d*2^(n % 32));rw[Hy,←hnth,hd,Nat.add_mul,←h5,Nat.mul_add,Nat.pow_succ];have e:4294967296^i*d*2^n=4294967296^(i+n / 32)*(d*2^(n % 32)):=by
     rw[hn2,Nat.pow_add]
     ac_rfl
    rw[e,←c];omega
  ·refine AW.exit ?_;try simp
   refine⟨o,⟨h3,?_,by omega⟩,by simp[h4]⟩;have:i=a.length:=by omega
   subst this;rw[Aq o _ (by omega)]at h5;rw[h5,Nat.mod_eq_of_lt hx2]
 ·rintro o ⟨h1,h2,h3⟩;refine AW.toEmp [(5,Am o)] (by simp;exact C9 (e:=124) (by simp)) ?_;(repeat refine AW.seq ?_);refine AW.rg ?_;simp;refine Aa.val (Dt o (by omega)) ?_;try simp
  exact AW.ret (Ag rfl _ (.same _) ⟨by simp[Cc h1,h2],rfl⟩)
end Go.Av
end
section
namespace Go.Av
open Go.Proofs
def Fh (neg:Bool) (l:List Nat):Bool:=if 128<l.length then false else if l.length=0 then !neg else decide (nth l (l.length-1)≠0)
def Ee (neg:Bool) (l:List Nat):AV:=.agg [.bool neg,Am l]
def Au (z:Int):AV:=.agg [.bool (decide (z<0)),Am (Ao z.natAbs)]
def Bh:Nat:=4294967296^128
def fz (z:Int):Int:=if z.natAbs<Bh then z else 0
def fe (z:Int):Int:=if z.natAbs<Bh then 0 else 2
def Bv (z:Int):AV:=.tup [Au (fz z),.int .i64 (fe z)]
theorem De (z:Int):Bv z=.tup [.agg [.bool (decide (fz z<0)),Am (Ao (fz z).natAbs)],.int .i64 (fe z)]:=rfl
theorem Qpo (z:Int):(fz z).natAbs<Bh:=by
 unfold fz;split
 ·assumption
 ·decide
theorem Q6 {z:Int} (h:z.natAbs<Bh):fz z=z:=if_pos h
theorem R4 {z:Int} (h:z.natAbs<Bh):fe z=0:=if_pos h
theorem Dc {n c t b:Nat} {L:List (Nat × AV)} {m:Ac} {R:AV→Ac→Prop} {x y e:AV} (x' y':AV) (hc:look L c=.ptr b 2 0 0) (he:look L t=e) (hm:m b=some ⟨42,2,[.agg [x,y]]⟩) (hn:(Nat.blt c n&&Nat.blt t n)=true)
  (hv:D9 m Ac.emp [x,y] [x',y']) (hR:R (.tup [.agg [x',y'],e]) Ac.emp):Ou Tryz.prog [.cell c 42,.tmp t] R .ret (S n L m):=by
 rw[Bool.and_eq_true]at hn;refine Ah (vs:=[.agg [x,y],e]) [.agg [x',y'],e] ?_ ?_ hR
 ·simp only[O6,R3,Q8,T9,hn.1,hn.2,if_true,hc,he,Q0y,Option.bind_some,Ti,hm];simp
 ·simp only[Lm,Np,and_true,D4,Tf]at hv ⊢;exact hv
theorem Ha (neg:Bool) (l:List Nat):Aj Tryz.prog 77 [Ee neg l] Ac.emp fun v m=>v=.bool (Fh neg l)∧m=Ac.emp:=by
 refine Ad Tryz.func77 rfl rfl 23 rfl (Nat.le_of_ble_eq_true rfl) ?_;(repeat refine AW.seq ?_);refine AW.rgR [1] ?_;simp[Ak,Ee];(repeat refine AW.seq ?_);refine AW.rg ?_;simp;(repeat refine AW.seq ?_);refine AW.cs (fun h=>?_) (fun h=>?_) rfl<;>simp at h
 ·(repeat refine AW.seq ?_);refine AW.rg ?_;simp;exact AW.ret (Ag rfl _ (.same _) ⟨by simp[Fh,h],rfl⟩)
 ·refine AW.skip ?_;try simp
  (repeat refine AW.seq ?_);refine AW.rg ?_;simp;(repeat refine AW.seq ?_);refine AW.cs (fun h2=>?_) (fun h2=>?_) rfl<;>simp at h2
  ·(repeat refine AW.seq ?_);refine AW.rg ?_;simp;exact AW.ret (Ag rfl _ (.same _) ⟨by simp[Fh,h2],rfl⟩)
  ·refine AW.skip ?_;try simp
   have hl:0<l.length:=by
    rcases l with _|_
    ·simp at h2
    ·simp
   have hw:IntKind.i64.wrap ((l.length:Int)-1)=((l.length-1:Nat):Int):=by rw[Ok (by omega)];omega
   (repeat refine AW.seq ?_);refine AW.rg ?_;simp[hw];refine⟨by omega,?_⟩;exact AW.ret (Ag rfl _ (.same _) ⟨by simp[Fh,show ¬128<l.length by omega,h2],rfl⟩)
theorem Eh (neg:Bool) (l:List Nat) (hb:Lb l) (hl:l.length<2^40):Aj Tryz.prog 112 [.bool neg,Am l] Ac.emp fun v m=>v=Bv (if neg=true then -(val l:Int) else val l)∧m=Ac.emp:=by
 refine Ad Tryz.func112 rfl rfl 22 rfl (Nat.le_of_ble_eq_true rfl) ?_;(repeat refine AW.seq ?_);refine AW.rg ?_;simp[Ak];refine Af.intro fun b4 _=>?_;(repeat refine AW.seq ?_);refine AW.rg ?_;simp;refine Aa.val (Dt l (by omega)) ?_;simp[Cc hb];have hlen:=A1 (n:=val l) (k:=128);generalize hn:val l=n at *;(repeat refine AW.seq ?_);refine AW.rg ?_;simp;(repeat refine AW.seq ?_);refine AW.cs (fun h=>?_) (fun h=>?_) rfl<;>simp at h
 ·(repeat refine AW.seq ?_);refine AW.rg ?_;simp;have:¬n<Bh:=fun h'=>by have:=hlen.2 h';omega
  refine AW.ret (Ah (vs:=[.agg [.bool false,.nil],.int .i64 2]) [Au 0,.int .i64 2] (by simp) (by simp[Au,Be]) ⟨?_,rfl⟩);cases neg<;>simp[Bv,fz,fe,this]
 ·refine AW.skip ?_;try simp
  have hn':n<Bh:=hlen.1 h;have key:∀(t:Bool) (z:Int),z.natAbs=n→t=decide (z<0)→∀(b b':Nat) (m:Ac),b4≠b→b4≠b'→m b4=some ⟨42,2,[.agg [.bool t,.osl b' 1 0 (Ao n).length]]⟩→m b'=some ⟨124,1,Bk (Ao n)⟩→∀L,look L 4=.ptr b4 2 0 0→look L 5=.int .i64 0 →
    AW Tryz.prog .ret (Ou Tryz.prog [.cell 4 42,.tmp 5] fun v m=>v=Bv z∧m=Ac.emp) (S 22 L m):=by
   intro t z hz ht b b' m e1 e2 e3 e4 L e5 e6;refine AW.ret (Ah (vs:=[.agg [.bool t,.osl b' 1 0 (Ao n).length],.int .i64 0]) [Au z,.int .i64 0] (by simp[e5,e6,e3]) ?_ ⟨?_,rfl⟩)
   ·simp only[Lm,Np,and_true,D4,Au,Tf,ht,hz];exact⟨trivial,C9 e4⟩
   ·simp[Bv,fz,fe,hz,hn']
  (repeat refine AW.seq ?_);refine AW.rg ?_;have hr:=Qnv (Ao n);simp only[List.all_eq_true]at hr;by_cases h0:n=0
  ·subst h0;cases neg<;>simp[Be]
   all_goals
    refine Af.intro fun b hb=>?_;have e1:b4≠b:=by rintro rfl;simp at hb
    refine Af.intro fun b' hb'=>?_;have e2:b4≠b':=by rintro rfl;simp[e1]at hb'
    simp[e1,e2];exact key false 0 rfl rfl b b' _ e1 e2 (by simp[Be]) (by simp[Ne.symm e2,Be]) _ (by simp) (by simp)
  ·have h1:0<(Ao n).length:=by
    rcases hd:Ao n with _|_
    ·exact absurd (Cq.1 hd) h0
    ·simp
   have h2:decide (-(n:Int)<0)=true:=by simp;omega
   have h3:decide ((n:Int)<0)=false:=by simp
   cases neg<;>simp
   ·refine Af.intro fun b hb=>?_;have e1:b4≠b:=by rintro rfl;simp at hb
    simp[e1];refine⟨by omega,by unfold maxLen;omega,Af.intro fun b' hb'=>?_⟩;have e2:b4≠b':=by rintro rfl;simp[e1]at hb'
    simp[e2];exact key false n (by simp) h3.symm b b' _ e1 e2 (by simp) (by simp[Ne.symm e2]) _ (by simp) (by simp)
   ·refine Af.intro fun b hb=>?_;have e1:b4≠b:=by rintro rfl;simp at hb
    simp[e1];refine⟨by omega,by unfold maxLen;omega,Af.intro fun b' hb'=>?_⟩;have e2:b4≠b':=by rintro rfl;simp[e1]at hb'
    simp[e2];exact key true (-n) (by simp) h2.symm b b' _ e1 e2 (by simp[h1]) (by simp[Ne.symm e2]) _ (by simp) (by simp)
end Go.Av
end
section
namespace Go.Av
theorem Ys {k n:Nat} (h:n % 2=1):Nat.Coprime (2^k) n:=by
 apply Nat.Coprime.pow_left;rw[Nat.coprime_iff_gcd_eq_one];have h1:Nat.gcd 2 n ∣ 2:=Nat.gcd_dvd_left 2 n;have h2:Nat.gcd 2 n ∣ n:=Nat.gcd_dvd_right 2 n;have h3:Nat.gcd 2 n≤2:=Nat.le_of_dvd (by omega) h1;have h4:Nat.gcd 2 n≠0:=fun e=>by rw[e]at h1;simp at h1
 have h5:Nat.gcd 2 n≠2:=fun e=>by rw[e]at h2;omega
 omega
theorem Qny {x k y:Nat} (h:2^k ∣ x) (hy:y % 2=1):Nat.gcd (x / 2^k) y=Nat.gcd x y:=by
 obtain⟨c,rfl⟩:=h;rw[Nat.mul_div_cancel_left _ (Nat.pow_pos (by omega)),Nat.Coprime.gcd_mul_left_cancel _ (Ys hy)]
theorem Qjt {x y k i j:Nat} (hx:2^k ∣ x) (hy:2^k ∣ y) (ho:x / 2^k % 2=1∨y / 2^k % 2=1) (hi:2^i ∣ x) (hio:x / 2^i % 2=1) (hj:2^j ∣ y) (hjo:y / 2^j % 2=1) :
  Nat.gcd x y=Nat.gcd (x / 2^i) (y / 2^j)*2^k:=by
 have hp:0<2^k:=Nat.pow_pos (by omega);have pi:0<2^i:=Nat.pow_pos (by omega);have pj:0<2^j:=Nat.pow_pos (by omega);have uniq:∀{z a b:Nat},2^a ∣ z→z / 2^a % 2=1→2^b ∣ z→b≤a:=by
  intro z a b h1 h2 h3;rcases Nat.lt_or_ge a b with h | h
  ·exfalso
   obtain⟨c,rfl⟩:=h3;have e:2^b=2^a*(2*2^(b-a-1)):=by
    rw[←Nat.pow_succ',←Nat.pow_add];congr 1;omega
   rw[e,Nat.mul_assoc,Nat.mul_div_cancel_left _ (Nat.pow_pos (by omega)),Nat.mul_assoc,Nat.mul_mod_right]at h2;omega
  ·exact h
 have hki:=uniq hi hio hx;have hkj:=uniq hj hjo hy;obtain⟨a,ha⟩:=hi;obtain⟨b,hb⟩:=hj;have ea:x / 2^i=a:=by rw[ha,Nat.mul_div_cancel_left _ pi]
 have eb:y / 2^j=b:=by rw[hb,Nat.mul_div_cancel_left _ pj]
 rw[ea]at hio;rw[eb]at hjo;rw[ea,eb];have hx':x=2^k*(2^(i-k)*a):=by rw[ha,←Nat.mul_assoc,←Nat.pow_add];congr 2;omega
 have hy':y=2^k*(2^(j-k)*b):=by rw[hb,←Nat.mul_assoc,←Nat.pow_add];congr 2;omega
 rw[hx',hy',Nat.gcd_mul_left,Nat.mul_comm]
 congr 1
 rcases ho with ho|ho
 ·have hxx:x / 2^k=2^(i-k)*a:=by rw[hx',Nat.mul_div_cancel_left _ hp]
  have hik:i-k=0:=by
   rcases Nat.eq_zero_or_pos (i-k)with h|h
   ·exact h
   ·obtain⟨m,hm⟩:∃m,i-k=m+1:=⟨i-k-1,by omega⟩;rw[hxx,hm,Nat.pow_succ,Nat.mul_comm (2^m),Nat.mul_assoc,Nat.mul_mod_right]at ho;omega
  rw[hik,Nat.pow_zero,Nat.one_mul,Nat.gcd_comm,Nat.Coprime.gcd_mul_left_cancel _ (Ys hio),Nat.gcd_comm]
 ·have hyy:y / 2^k=2^(j-k)*b:=by rw[hy',Nat.mul_div_cancel_left _ hp]
  have hik:j-k=0:=by
   rcases Nat.eq_zero_or_pos (j-k)with h|h
   ·exact h
   ·obtain⟨m,hm⟩:∃m,j-k=m+1:=⟨j-k-1,by omega⟩;rw[hyy,hm,Nat.pow_succ,Nat.mul_comm (2^m),Nat.mul_assoc,Nat.mul_mod_right]at ho;omega
  rw[hik,Nat.pow_zero,Nat.one_mul,Nat.Coprime.gcd_mul_left_cancel _ (Ys hjo)]
theorem Qnj {x y:Nat} (h:y≤x):Nat.gcd (x-y) y=Nat.gcd x y:=by
 have e:x=(x-y)+y:=by omega
 generalize x-y=d at e;subst e;rw[Nat.gcd_add_self_left]
end Go.Av
end
section
namespace Go.Av
open Go.Proofs
theorem Bg {n:Nat} (h:n<Bh):(Ao n).length≤128:=A1.2 h
theorem Fe {z:Int} (h:z.natAbs<Bh):Fh (decide (z<0)) (Ao z.natAbs)=true:=by
 have h1:=Bg h;unfold Fh;rw[if_neg (by omega)];split
 ·rename_i h2
  have:=Cq.1 (List.eq_nil_of_length_eq_zero h2);simp;omega
 ·rename_i h2
  rcases List.eq_nil_or_concat (Ao z.natAbs)with h3|⟨l,x,h3⟩
  ·rw[h3]at h2;exact absurd rfl h2
  ·rw[List.concat_eq_append]at h3;have h4:=Ql4 _ l x h3;rw[h3];simp[nth,h4]
theorem Qk7 {x y:Nat}:He x y=0↔x=y:=by unfold He;split<;>(try split)<;>omega
theorem Ql {x y:Nat}:He x y<0↔x<y:=by unfold He;split<;>(try split)<;>omega
theorem Xh (x y:Int) (hx:x.natAbs<Bh) (hy:y.natAbs<Bh):Aj Tryz.prog 79 [Au x,Au y] Ac.emp fun v m=>v=.tup [Au (Nat.gcd x.natAbs y.natAbs:Nat),.int .i64 0]∧m=Ac.emp:=by
 refine Ad Tryz.func79 rfl rfl 78 rfl (Nat.le_of_ble_eq_true rfl) ?_;have vx:=Ha (decide (x<0)) (Ao x.natAbs);have vy:=Ha (decide (y<0)) (Ao y.natAbs);rw[Fe hx]at vx;rw[Fe hy]at vy;have lx:=Bg hx;have ly:=Bg hy;have bx:=Ax x.natAbs;have hg:Nat.gcd x.natAbs y.natAbs<Bh:=by
  rcases Nat.eq_zero_or_pos x.natAbs with h|h
  ·rw[h,Nat.gcd_zero_left];exact hy
  ·exact Nat.lt_of_le_of_lt (Nat.le_of_dvd h (Nat.gcd_dvd_left _ _)) hx
 (repeat refine AW.seq ?_);refine AW.rgR [2,3] ?_;simp[Ak,Au];refine Af.intro fun b4 _=>?_;generalize ha:Ao x.natAbs=a at *;generalize hb:Ao y.natAbs=b at *;(repeat refine AW.seq ?_);refine AW.rg ?_;simp;refine Aa.val vx ?_;try simp
 refine Aa.val vy ?_;simp;refine AW.no ?_ rfl;refine AW.skip ?_;try simp
 (repeat refine AW.seq ?_);refine AW.rg ?_;simp;refine Af.intro fun b6 h6=>?_;have e46:b4≠b6:=by rintro rfl;simp at h6
 refine⟨by omega,by unfold maxLen;omega,Af.intro fun b6' h6'=>?_⟩;have e46':b4≠b6':=by rintro rfl;simp[e46]at h6'
 refine AW.turn [(4,.ptr b4 2 0 0),(5,.int .i64 0),(6,Am a),(3,.rptr [.bool (decide (y<0)),Am b])] (Ac.emp.set b4 ⟨42,2,[.agg [.bool false,.nil]]⟩) (Bn.one (by simp[e46,e46']) (by simp)) ?_ ?_
 ·simp;exact E3 (e:=124) (by simp) (by simp[Ne.symm e46'])
 (repeat refine AW.seq ?_);refine AW.rg ?_;simp;refine Af.intro fun b6 h6=>?_;have e46:b4≠b6:=by rintro rfl;simp at h6
 refine⟨by omega,by unfold maxLen;omega,Af.intro fun b6' h6'=>?_⟩;have e46':b4≠b6':=by rintro rfl;simp[e46]at h6'
 refine AW.turn [(4,.ptr b4 2 0 0),(5,.int .i64 0),(6,Am a),(7,Am b)] (Ac.emp.set b4 ⟨42,2,[.agg [.bool false,.nil]]⟩) (Bn.one (by simp[e46,e46']) (by simp)) ?_ ?_
 ·simp;exact E3 (e:=124) (by simp) (by simp[Ne.symm e46'])
 have key:∀(g:Nat),g<Bh→∀L,look L 4=.ptr b4 2 0 0→look L 5=.int .i64 0→Ou Tryz.prog [.cell 4 42,.tmp 5] (fun v m=>v=.tup [Au (g:Nat),.int .i64 0]∧m=Ac.emp) .ret (S 78 L (Ac.emp.set b4 ⟨42,2,[Au (g:Nat)]⟩)):=by
  intro g hg L e4 e5;exact Ah (vs:=[Au (g:Nat),.int .i64 0]) [Au (g:Nat),.int .i64 0] (by simp[e4,e5,Au]) (by simp) ⟨rfl,rfl⟩
 have la:(Ao x.natAbs).length≤128:=by rw[ha];exact lx
 have lb:(Ao y.natAbs).length≤128:=by rw[hb];exact ly
 (repeat refine AW.seq ?_);refine AW.rg ?_;have e0:Bv (if false=true then -(val (Ao (Nat.gcd x.natAbs y.natAbs)):Int) else val (Ao (Nat.gcd x.natAbs y.natAbs)))=.tup [Au (Nat.gcd x.natAbs y.natAbs:Nat),.int .i64 0]:=by
  simp[Bv,fz,fe,Ax,hg]
 have l6:=Bg hg;have hLb:Lb a:=by rw[←ha];exact A6 _
 have hLb':Lb b:=by rw[←hb];exact A6 _
 have by':val b=y.natAbs:=by rw[←hb,Ax]
 by_cases hx0:x.natAbs=0
 ·have h1:a.length=0:=by rw[←ha,hx0,Be];rfl
  simp[h1];refine AW.yes ?_ rfl;have h2:val a+val b=Nat.gcd x.natAbs y.natAbs:=by rw[bx,by',hx0,Nat.gcd_zero_left];omega
  (repeat refine AW.seq ?_);refine AW.rg ?_;simp;refine Aa.val (J5 a b hLb hLb' (by omega) (by omega)) ?_;rw[h2];try simp
  refine Aa.val (Eh false _ (A6 _) (by omega)) ?_;rw[e0];simp[Au];refine AW.ret (key _ hg _ ?_ ?_)<;>rfl
 by_cases hy0:y.natAbs=0
 ·have h1:b.length=0:=by rw[←hb,hy0,Be];rfl
  have h1':a≠[]:=fun h=>hx0 (Cq.1 (by rw[ha,h]));simp[h1,h1'];refine AW.yes ?_ rfl;have h2:val a+val b=Nat.gcd x.natAbs y.natAbs:=by rw[bx,by',hy0,Nat.gcd_zero_right];omega
  (repeat refine AW.seq ?_);refine AW.rg ?_;simp;refine Aa.val (J5 a b hLb hLb' (by omega) (by omega)) ?_;rw[h2];try simp
  refine Aa.val (Eh false _ (A6 _) (by omega)) ?_;rw[e0];simp[Au];refine AW.ret (key _ hg _ ?_ ?_)<;>rfl
 have pa:a≠[]:=fun h=>hx0 (Cq.1 (by rw[ha,h]));have pb:b≠[]:=fun h=>hy0 (Cq.1 (by rw[hb,h]));simp[pa,pb];refine AW.no ?_ rfl;refine AW.skip ?_;try simp
 rw[←ha,←hb];generalize x.natAbs=x at *;generalize y.natAbs=y at *;(repeat refine AW.seq ?_);refine AW.rg ?_;simp;refine AW.seq_ex (ι:=Nat) (fun k=>[(4,.ptr b4 2 0 0),(6,Am (Ao x)),(7,Am (Ao y)),(8,.int .i64 k)]) (fun _=>Ac.emp.set b4 ⟨42,2,[.agg [.bool false,.nil]]⟩) (fun k=>k<4096∧2^k ∣ x∧2^k ∣ y∧(x / 2^k % 2=1∨y / 2^k % 2=1)) ?_ ?_
 ·refine AW.block (AW.loopS (ι:=Nat) (fun k=>[(4,.ptr b4 2 0 0),(6,Am (Ao x)),(7,Am (Ao y)),(8,.int .i64 k)]) (fun _=>Ac.emp.set b4 ⟨42,2,[.agg [.bool false,.nil]]⟩) (fun k=>2^k ∣ x∧2^k ∣ y) (fun k=>4096-k) 0 (by simp) rfl (by simp) ?_);rintro k ⟨h1,h2⟩;have hk:k<4096:=by
   obtain⟨K,hK1,hK2⟩:∃K,K=4096∧x<2^K:=⟨32*128,rfl,by rw[←Hn];exact hx⟩;rcases Nat.lt_or_ge k K with h|h
   ·omega
   ·have h3:2^K≤2^k:=Nat.pow_le_pow_right (by omega) h;have h4:=Nat.le_of_dvd (by omega) h1;omega
  have hw2:=Ap (k+1) (by omega);have step:∀{z:Nat},2^k ∣ z→z / 2^k % 2=0→2^(k+1) ∣ z:=by
   intro z h3 h4;rw[Nat.pow_succ];obtain⟨c,hc⟩:=h3;rw[hc,Nat.mul_div_cancel_left _ (Nat.pow_pos (by omega))]at h4;rw[hc];exact Nat.mul_dvd_mul_left _ (Nat.dvd_of_mod_eq_zero h4)
  (repeat refine AW.seq ?_);refine AW.rg ?_;simp;refine Aa.val (Pw x k (by omega) (by omega)) ?_;try simp[-Int.natCast_ediv,-Int.natCast_emod,-Int.natCast_pow]
  by_cases c1:x / 2^k % 2=0
  ·simp[c1];refine Aa.val (Pw y k (by omega) (by omega)) ?_;try simp[-Int.natCast_ediv,-Int.natCast_emod,-Int.natCast_pow]
   (repeat refine AW.seq ?_);refine AW.cs (fun c2=>?_) (fun c2=>?_) rfl<;>simp at c2
   ·refine AW.skip ?_;try simp[-Int.natCast_ediv,-Int.natCast_emod,-Int.natCast_pow]
    (repeat refine AW.seq ?_);refine AW.block ?_;(repeat refine AW.seq ?_);refine AW.rg ?_;simp[-Int.natCast_ediv,-Int.natCast_emod,-Int.natCast_pow,-Int.natCast_add,hw2];exact⟨k+1,⟨step h1 c1,step h2 c2⟩,by omega,rfl⟩
   ·refine AW.exit ?_;try simp[-Int.natCast_ediv,-Int.natCast_emod,-Int.natCast_pow]
    exact⟨k,⟨hk,h1,h2,.inr (by omega)⟩,rfl⟩
  ·simp[-Int.natCast_ediv,-Int.natCast_emod,-Int.natCast_pow,c1];refine AW.no ?_ rfl;refine AW.exit ?_;try simp[-Int.natCast_ediv,-Int.natCast_emod,-Int.natCast_pow]
   exact⟨k,⟨hk,h1,h2,.inl (by omega)⟩,rfl⟩
 ·rintro k ⟨hk,h1,h2,h3⟩;(repeat refine AW.seq ?_);refine AW.rg ?_;simp;refine Aa.pure (Uf x hx0 (by omega)) ?_;rintro _ ⟨i,i1,i2,rfl⟩;try simp
  (repeat refine AW.seq ?_);refine AW.rg ?_;simp;refine Aa.pure (Uf y hy0 (by omega)) ?_;rintro _ ⟨j,j1,j2,rfl⟩;try simp
  have hgcd:=Qjt h1 h2 h3 i1 i2 j1 j2;have hx1:x / 2^i≤x:=Nat.div_le_self _ _;have hy1:y / 2^j≤y:=Nat.div_le_self _ _;generalize x / 2^i=u at *;generalize y / 2^j=w at *;refine AW.seq_has [(4,.ptr b4 2 0 0),(6,Am (Ao (Nat.gcd u w))),(8,.int .i64 k)] (Ac.emp.set b4 ⟨42,2,[.agg [.bool false,.nil]]⟩) ?_ ?_
  ·refine AW.block (AW.loopS (ι:=Nat × Nat) (fun z=>[(4,.ptr b4 2 0 0),(6,Am (Ao z.1)),(7,Am (Ao z.2)),(8,.int .i64 k)]) (fun _=>Ac.emp.set b4 ⟨42,2,[.agg [.bool false,.nil]]⟩) (fun z=>z.1<Bh∧z.2<Bh∧z.1 % 2=1∧z.2 % 2=1∧Nat.gcd z.1 z.2=Nat.gcd u w) (fun z=>z.1+z.2) (u,w) ⟨by omega,by omega,i2,j2,rfl⟩ rfl (by simp) ?_);rintro⟨p,q⟩ ⟨p1,p2,p3,p4,p5⟩;simp only at p1 p2 p3 p4 p5;simp only;have l1:=Bg p1;have l2:=Bg p2;(repeat refine AW.seq ?_);refine AW.rg ?_;simp;refine Aa.val (Ii p q (by omega) (by omega)) ?_;simp[Qk7]
   (repeat refine AW.seq ?_);refine AW.cs (fun h4=>?_) (fun h4=>?_) rfl<;>simp at h4
   ·refine AW.skip ?_;try simp
    (repeat refine AW.seq ?_);refine AW.block ?_;refine AW.seq_ex (ι:=Nat × Nat) (fun z=>[(4,.ptr b4 2 0 0),(6,Am (Ao z.1)),(7,Am (Ao z.2)),(8,.int .i64 k)]) (fun _=>Ac.emp.set b4 ⟨42,2,[.agg [.bool false,.nil]]⟩) (fun z=>z.2<z.1∧z.1<Bh∧z.1+z.2=p+q∧z.1 % 2=1∧z.2 % 2=1∧Nat.gcd z.1 z.2=Nat.gcd u w) ?_ ?_
    ·(repeat refine AW.seq ?_);refine AW.rg ?_;simp;refine Aa.val (Ii p q (by omega) (by omega)) ?_;simp[Ql];(repeat refine AW.seq ?_);refine AW.cs (fun h5=>?_) (fun h5=>?_) rfl<;>simp at h5
     ·(repeat refine AW.seq ?_);refine AW.rg ?_;simp;(repeat refine AW.seq ?_);refine AW.rg ?_;simp;(repeat refine AW.seq ?_);refine AW.rg ?_;simp;exact⟨q,p,⟨by omega,by omega,by omega,p4,p3,by rw[Nat.gcd_comm];exact p5⟩,rfl,rfl⟩
     ·refine AW.skip ?_;try simp
      exact⟨p,q,⟨by omega,by omega,by omega,p3,p4,p5⟩,rfl,rfl⟩
    ·rintro⟨p',q'⟩ ⟨r1,r2,r3,r4,r5,r6⟩;simp only at r1 r2 r3 r4 r5 r6;simp only;have l3:=Bg r2;have l4:=Bg (show p'-q'<Bh by omega);(repeat refine AW.seq ?_);refine AW.rg ?_;simp;refine Aa.val (F2 p' q' (by omega) (by omega)) ?_;try simp
     refine Aa.pure (Uf (p'-q') (by omega) (by omega)) ?_;rintro _ ⟨i',s1,s2,rfl⟩;try simp
     have s3:(p'-q') / 2^i'≤p'-q':=Nat.div_le_self _ _;try simp
     exact⟨(p'-q') / 2^i',q',⟨by omega,by omega,s2,r5,by rw[Qny s1 r5,Qnj (by omega)];exact r6⟩,by omega,rfl,rfl⟩
   ·refine AW.exit ?_;try simp
    rw[←h4,Nat.gcd_self]at p5;rw[p5]
  ·(repeat refine AW.seq ?_);refine AW.rg ?_;simp;have hB:Nat.gcd u w<Bh:=Nat.lt_of_le_of_lt (Nat.le_of_dvd (by omega) (Nat.gcd_dvd_left u w)) (by omega);have l5:=Bg hB;refine Aa.val (Qi3 (Nat.gcd u w) k (by omega) (by omega)) ?_;try simp
   rw[←hgcd];have l6:=Bg hg;refine Aa.val (Eh false _ (A6 _) (by omega)) ?_;have e:Bv (if false=true then -(val (Ao (Nat.gcd x y)):Int) else val (Ao (Nat.gcd x y)))=.tup [Au (Nat.gcd x y:Nat),.int .i64 0]:=by
    simp[Bv,fz,fe,Ax,hg]
   rw[e];simp[Au];refine AW.ret (key _ hg _ ?_ ?_)<;>rfl
end Go.Av
end
section
namespace Go.Av
open Go.Proofs
theorem F9 {neg:Bool} {l:List Nat} (hb:Lb l) (h:Fh neg l=true):∃z:Int,z.natAbs<Bh∧neg=decide (z<0)∧l=Ao z.natAbs∧z.natAbs=val l:=by
 unfold Fh at h;split at h
 ·cases h
 ·rename_i h1
  split at h
  ·rename_i h2
   have h3:l=[]:=List.eq_nil_of_length_eq_zero h2;subst h3;refine⟨0,by decide,?_,by simp[Be],rfl⟩;simpa using h
  ·rename_i h2
   have h3:Ao (val l)=l:=Qgk hb (fun l' x e=>by
    rw[e]at h;simpa[nth]using h)
   have h4:val l≠0:=fun e=>by rw[e,Be]at h3;rw[←h3]at h2;exact h2 rfl
   have h5:val l<Bh:=Nat.lt_of_lt_of_le (Kq hb) (Nat.pow_le_pow_right (by omega) (by omega));cases neg
   ·exact⟨val l,h5,by simp,by simp[h3],by simp⟩
   ·exact⟨-(val l),by simpa using h5,by simp;omega,by simp[h3],by simp⟩
theorem Qgo {n:Nat}:((Ao n).length=1∧nth (Ao n) 0=1)↔n=1:=by
 constructor
 ·rintro⟨h1,h2⟩;have h3:=Ax n;rcases hd:Ao n with _|⟨a,_|⟨b,l⟩⟩
  ·rw[hd]at h1;cases h1
  ·rw[hd]at h2 h3;simp[nth]at h2;simp[val]at h3;omega
  ·rw[hd]at h1;simp at h1
 ·rintro rfl;rw[Kf (by omega)];simp[Be,nth]
theorem I9 (neg:Bool) (l:List Nat):Aj Tryz.prog 78 [Ee neg l] Ac.emp fun v m=>v=.bool (decide (l.length=0))∧m=Ac.emp:=by
 refine Ad Tryz.func78 rfl rfl 7 rfl (Nat.le_of_ble_eq_true rfl) ?_;(repeat refine AW.seq ?_);refine AW.rgR [1] ?_;simp[Ak,Ee];(repeat refine AW.seq ?_);refine AW.rg ?_;simp;exact AW.ret (Ag rfl _ (.same _) ⟨by simp,rfl⟩)
theorem J4 (neg:Bool) (l:List Nat):Aj Tryz.prog 86 [Ee neg l] Ac.emp fun v m=>v=.bool (decide (l.length=0))∧m=Ac.emp:=by
 refine Ad Tryz.func86 rfl rfl 7 rfl (Nat.le_of_ble_eq_true rfl) ?_;(repeat refine AW.seq ?_);refine AW.rgR [1] ?_;simp[Ak,Ee];(repeat refine AW.seq ?_);refine AW.rg ?_;simp;exact AW.ret (Ag rfl _ (.same _) ⟨by simp,rfl⟩)
theorem Qem (z:Int) (hz:z.natAbs<Bh):Aj Tryz.prog 80 [Au z] Ac.emp fun v m=>v=.bool (decide (z=1))∧m=Ac.emp:=by
 unfold Au;refine Ad Tryz.func80 rfl rfl 19 rfl (Nat.le_of_ble_eq_true rfl) ?_;have hd:=Qgo (n:=z.natAbs);have hl:=Bg hz;generalize Ao z.natAbs=l at *;(repeat refine AW.seq ?_);refine AW.rgR [1] ?_;simp[Ak];by_cases h1:z<0
 ·(repeat refine AW.seq ?_);refine AW.rg ?_;simp[h1];have:z≠1:=by omega
  exact AW.ret (Ag rfl _ (.same _) ⟨by simp[this],rfl⟩)
 ·by_cases h2:l.length=1
  ·(repeat refine AW.seq ?_);refine AW.rg ?_;simp[h1,h2];have h3:(z=1)↔nth l 0=1:=by
    constructor
    ·intro e;exact(hd.2 (by omega)).2
    ·intro e;have:=hd.1 ⟨h2,e⟩;omega
   exact AW.ret (Ag rfl _ (.same _) ⟨by simp[h3],rfl⟩)
  ·(repeat refine AW.seq ?_);refine AW.rg ?_;simp[h1,h2];have:z≠1:=fun e=>h2 ((hd.2 (by omega)).1);exact AW.ret (Ag rfl _ (.same _) ⟨by simp[this],rfl⟩)
theorem U8 (z:Int) (hz:z.natAbs<Bh):Aj Tryz.prog 87 [Au z] Ac.emp fun v m=>v=.bool (decide (z=1))∧m=Ac.emp:=by
 unfold Au;refine Ad Tryz.func87 rfl rfl 19 rfl (Nat.le_of_ble_eq_true rfl) ?_;have hd:=Qgo (n:=z.natAbs);have hl:=Bg hz;generalize Ao z.natAbs=l at *;(repeat refine AW.seq ?_);refine AW.rgR [1] ?_;simp[Ak];by_cases h1:z<0
 ·(repeat refine AW.seq ?_);refine AW.rg ?_;simp[h1];have:z≠1:=by omega
  exact AW.ret (Ag rfl _ (.same _) ⟨by simp[this],rfl⟩)
 ·by_cases h2:l.length=1
  ·(repeat refine AW.seq ?_);refine AW.rg ?_;simp[h1,h2];have h3:(z=1)↔nth l 0=1:=by
    constructor
    ·intro e;exact(hd.2 (by omega)).2
    ·intro e;have:=hd.1 ⟨h2,e⟩;omega
   exact AW.ret (Ag rfl _ (.same _) ⟨by simp[h3],rfl⟩)
  ·(repeat refine AW.seq ?_);refine AW.rg ?_;simp[h1,h2];have:z≠1:=fun e=>h2 ((hd.2 (by omega)).1);exact AW.ret (Ag rfl _ (.same _) ⟨by simp[this],rfl⟩)
def Qc2 (n1:Bool) (l1:List Nat) (n2:Bool) (l2:List Nat):AV:=.agg [.bool n1,Am l1,.bool n2,Am l2]
def Pp (n1:Bool) (l1:List Nat) (n2:Bool) (l2:List Nat):Bool:=Fh n1 l1&&Fh n2 l2&&!n2&&decide (l2.length≠0)&&decide (Nat.gcd (val l1) (val l2)=1)
theorem I4 (n1:Bool) (l1:List Nat) (n2:Bool) (l2:List Nat) (h1:Lb l1) (h2:Lb l2):Aj Tryz.prog 42 [Qc2 n1 l1 n2 l2] Ac.emp fun v m=>v=.bool (Pp n1 l1 n2 l2)∧m=Ac.emp:=by
 refine Ad Tryz.func42 rfl rfl 39 rfl (Nat.le_of_ble_eq_true rfl) ?_;(repeat refine AW.seq ?_);refine AW.rgR [1] ?_;simp[Ak,Qc2];(repeat refine AW.seq ?_);refine AW.rg ?_;simp;refine Aa.val (Ha n1 l1) ?_;try simp
 (repeat refine AW.seq ?_);refine AW.rg ?_;simp;refine Aa.val (Ha n2 l2) ?_;try simp
 unfold Pp;cases o1:Fh n1 l1
 ·(repeat refine AW.seq ?_);refine AW.rg ?_;simp[o1];refine AW.yes ?_ rfl;(repeat refine AW.seq ?_);refine AW.rg ?_;simp;exact AW.ret (Ag rfl _ (.same _) ⟨by simp,rfl⟩)
 cases o2:Fh n2 l2
 ·(repeat refine AW.seq ?_);refine AW.rg ?_;simp[o1,o2];refine AW.yes ?_ rfl;(repeat refine AW.seq ?_);refine AW.rg ?_;simp;exact AW.ret (Ag rfl _ (.same _) ⟨by simp,rfl⟩)
 cases n2
 ·(repeat refine AW.seq ?_);refine AW.rg ?_;simp[o1,o2];refine Aa.val (I9 false l2) ?_;simp;(repeat refine AW.seq ?_);refine AW.cs (fun hl=>?_) (fun hl=>?_) rfl<;>simp at hl
  ·(repeat refine AW.seq ?_);refine AW.rg ?_;simp;exact AW.ret (Ag rfl _ (.same _) ⟨by simp[hl],rfl⟩)
  ·refine AW.skip ?_;try simp
   obtain⟨z1,b1,rfl,rfl,c1⟩:=F9 h1 o1;obtain⟨z2,b2,e2,rfl,c2⟩:=F9 h2 o2;have g:=Xh z1 z2 b1 b2;unfold Au at g;rw[←e2]at g;(repeat refine AW.seq ?_);refine AW.rg ?_;simp;refine Aa.val g ?_;try simp
   have hg:Nat.gcd z1.natAbs z2.natAbs<Bh:=by
    refine Nat.lt_of_le_of_lt (Nat.le_of_dvd ?_ (Nat.gcd_dvd_right _ _)) b2;rcases Nat.eq_zero_or_pos z2.natAbs with h | h
    ·exact absurd (Cq.2 h) hl
    ·exact h
   try simp[Au]
   refine Af.intro fun b5 _=>?_;(repeat refine AW.seq ?_);refine AW.rg ?_;simp;refine Aa.val (Qem (Nat.gcd z1.natAbs z2.natAbs:Nat) (by simpa using hg)) ?_;try simp
   exact AW.ret (Ah [.bool (decide (Nat.gcd z1.natAbs z2.natAbs=1))] rfl (by simp) ⟨by simp[←c1,←c2,hl],rfl⟩)
 ·(repeat refine AW.seq ?_);refine AW.rg ?_;simp[o1,o2];refine AW.yes ?_ rfl;(repeat refine AW.seq ?_);refine AW.rg ?_;simp;exact AW.ret (Ag rfl _ (.same _) ⟨by simp,rfl⟩)
end Go.Av
end
section
namespace Go.Av
@[simp] theorem Qz1 (a b:Nat):(a:Int)=(b:Int)↔a=b:=by omega
@[simp] theorem Qqo (a:Nat):Int.fdiv (a:Int) 4294967296=((a / 4294967296:Nat):Int):=by
 rw[Int.fdiv_eq_ediv_of_nonneg _ (by omega)];rfl
@[simp] theorem Qpa (a:Nat):Int.fdiv (a:Int) 9223372036854775808=((a / 9223372036854775808:Nat):Int):=by
 rw[Int.fdiv_eq_ediv_of_nonneg _ (by omega)];rfl
@[simp] theorem Qmu (l:List Nat):(Bk l).drop l.length=[]:=List.drop_eq_nil_of_le (by simp)
@[simp] theorem Qmg (n:Nat):(Bk (List.replicate n 0)).drop n=[]:=List.drop_eq_nil_of_le (by simp)
end Go.Av
end
section
namespace Go.Av
open Go.Proofs
theorem Hb (neg:Bool) (l:List Nat):Aj Tryz.prog 85 [Ee neg l] Ac.emp fun v m=>v=.bool (Fh neg l)∧m=Ac.emp:=by
 refine Ad Tryz.func85 rfl rfl 23 rfl (Nat.le_of_ble_eq_true rfl) ?_;(repeat refine AW.seq ?_);refine AW.rgR [1] ?_;simp[Ak,Ee];(repeat refine AW.seq ?_);refine AW.rg ?_;simp;(repeat refine AW.seq ?_);refine AW.rg ?_;simp;(repeat refine AW.seq ?_);refine AW.cs (fun h2=>?_) (fun h2=>?_) rfl<;>simp at h2
 ·(repeat refine AW.seq ?_);refine AW.rg ?_;simp;exact AW.ret (Ag rfl _ (.same _) ⟨by simp[Fh,h2],rfl⟩)
 ·refine AW.skip ?_;try simp
  have hp:0<l.length:=by
   rcases l with _|_
   ·simp at h2
   ·simp
  by_cases h:l.length≤128
  ·have hw:IntKind.i64.wrap ((l.length:Int)-1)=((l.length-1:Nat):Int):=by rw[Ok (by omega)];omega
   (repeat refine AW.seq ?_);refine AW.rg ?_;simp[hw,h];refine⟨by omega,?_⟩;exact AW.ret (Ag rfl _ (.same _) ⟨by simp[Fh,show ¬128<l.length by omega,h2],rfl⟩)
  ·(repeat refine AW.seq ?_);refine AW.rg ?_;simp[h];exact AW.ret (Ag rfl _ (.same _) ⟨by simp[Fh,show 128<l.length by omega],rfl⟩)
theorem Vs (neg:Bool) (l:List Nat) (_:l.length<2^40):Aj Tryz.prog 85 [Ee neg l] Ac.emp fun v m=>v=.bool (Fh neg l)∧m=Ac.emp:=Hb neg l
theorem Qh4 (n1:Bool) (l1:List Nat) (n2:Bool) (l2:List Nat) (h1:l1.length<2^40) (h2:l2.length<2^40):Aj Tryz.prog 120 [Ee n1 l1,Ee n2 l2] Ac.emp fun v m=>v=.bool (Fh n1 l1&&Fh n2 l2)∧m=Ac.emp:=by
 refine Ad Tryz.func120 rfl rfl 11 rfl (Nat.le_of_ble_eq_true rfl) ?_;have v1:=Vs n1 l1 h1;have v2:=Vs n2 l2 h2;unfold Ee at *;(repeat refine AW.seq ?_);refine AW.rgR [2,3] ?_;simp[Ak];(repeat refine AW.seq ?_);refine AW.rg ?_;simp;refine Aa.val v1 ?_;try simp
 cases o1:Fh n1 l1
 ·simp;exact AW.ret (Ag rfl _ (.same _) ⟨by simp,rfl⟩)
 ·simp;refine Aa.val v2 ?_;try simp
  exact AW.ret (Ag rfl _ (.same _) ⟨by simp,rfl⟩)
theorem Pz (x y:Int) (hx:x.natAbs<Bh) (hy:y.natAbs<Bh):Aj Tryz.prog 120 [Au x,Au y] Ac.emp fun v m=>v=.bool true∧m=Ac.emp:=by
 have h1:=Bg hx;have h2:=Bg hy;have:=Qh4 (decide (x<0)) (Ao x.natAbs) (decide (y<0)) (Ao y.natAbs) (by omega) (by omega);rw[Fe hx,Fe hy]at this;exact this
theorem Hq (x y:Nat) (lx:(Ao x).length<2^40) (ly:(Ao y).length<2^40):Aj Tryz.prog 163 [Am (Ao x),Am (Ao y)] Ac.emp fun v m=>v=.int .i64 (He x y)∧m=Ac.emp:=by
 refine Ad Tryz.func163 rfl rfl 46 rfl (Nat.le_of_ble_eq_true rfl) ?_;generalize ha:Ao x=a at *;generalize hb:Ao y=b at *;have va:val a=x:=by rw[←ha,Ax]
 have vb:val b=y:=by rw[←hb,Ax]
 have la:Lb a:=by rw[←ha];exact A6 x
 have lb:Lb b:=by rw[←hb];exact A6 y
 (repeat refine AW.seq ?_);refine AW.rg ?_;simp[Ak];(repeat refine AW.seq ?_);refine AW.rg ?_;simp;(repeat refine AW.seq ?_);refine AW.cs (fun h=>?_) (fun h=>?_) rfl<;>simp at h
 ·(repeat refine AW.seq ?_);refine AW.rg ?_;simp;(repeat refine AW.seq ?_);refine AW.cs (fun h2=>?_) (fun h2=>?_) rfl<;>simp at h2
  ·(repeat refine AW.seq ?_);refine AW.rg ?_;simp;have:=Im (x:=x) (y:=y) (by rw[ha,hb];omega);exact AW.ret (Ag rfl _ (.same _) ⟨by simp[Sx this],rfl⟩)
  ·refine AW.skip ?_;try simp
   (repeat refine AW.seq ?_);refine AW.rg ?_;simp;have:=Im (x:=y) (y:=x) (by rw[ha,hb];omega);exact AW.ret (Ag rfl _ (.same _) ⟨by simp[S0 this],rfl⟩)
 ·have hl:a.length=b.length:=by omega
  refine AW.skip ?_;try simp
  (repeat refine AW.seq ?_);refine AW.rg ?_;simp;refine AW.block (AW.loopS (ι:=Nat) (fun k=>[(0,Am a),(1,Am b),(18,.int .i64 a.length),(19,.int .i64 k)]) (fun _=>Ac.emp) (fun k=>k≤a.length∧val a+val (b.take (a.length-k))=val b+val (a.take (a.length-k))) (fun k=>a.length-k) 0 ⟨Nat.zero_le _,by rw[Aq b _ (by omega),Aq a _ (by omega)];omega⟩ rfl (by simp[hl]) ?_);rintro k ⟨h1,h2⟩;(repeat refine AW.seq ?_);refine AW.rg ?_;simp;(repeat refine AW.seq ?_);refine AW.cs (fun h3=>?_) (fun h3=>?_) rfl<;>simp at h3
  ·obtain⟨i,hi⟩:∃i,a.length-k=i+1:=⟨a.length-k-1,by omega⟩;rw[hi]at h2;have hw:IntKind.i64.wrap ((a.length:Int)-1)=((a.length-1:Nat):Int):=by rw[Ok (by omega)];omega
   have hw2:IntKind.i64.wrap (((a.length-1:Nat):Int)-(k:Int))=(i:Int):=by rw[Ok (by omega)];omega
   have hw3:=Ap (k+1) (by omega);have i1:i<a.length:=by omega
   have i2:i<b.length:=by omega
   refine AW.skip ?_;try simp
   (repeat refine AW.seq ?_);refine AW.block ?_;(repeat refine AW.seq ?_);refine AW.rg ?_;simp;(repeat refine AW.seq ?_);refine AW.rg ?_;simp[hw,hw2];(repeat refine AW.seq ?_);refine AW.rd [0,1,2,3,4,5,6,7,8] Ds ?_;simp[i1,i2];(repeat refine AW.seq ?_);refine AW.cs (fun h4=>?_) (fun h4=>?_) rfl<;>simp at h4
   ·(repeat refine AW.seq ?_);refine AW.rd [0,1,2,3,4,5,6,7,8] Ds ?_;simp[i1,i2];(repeat refine AW.seq ?_);refine AW.cs (fun h5=>?_) (fun h5=>?_) rfl<;>simp at h5
    ·(repeat refine AW.seq ?_);refine AW.rg ?_;simp;have:=Kz la h2 h5;exact AW.ret (Ag rfl _ (.same _) ⟨by simp[Sx (show x<y by omega)],rfl⟩)
    ·refine AW.skip ?_;try simp
     (repeat refine AW.seq ?_);refine AW.rg ?_;simp;have:=Kz lb h2.symm (show nth b i<nth a i by omega);exact AW.ret (Ag rfl _ (.same _) ⟨by simp[S0 (show y<x by omega)],rfl⟩)
   ·refine AW.skip ?_;try simp
    (repeat refine AW.seq ?_);refine AW.rg ?_;simp[-Int.natCast_add,hw3];refine⟨⟨by omega,?_⟩,by omega⟩;rw[Aw,Aw,h4]at h2;rw[show a.length-(k+1)=i by omega];omega
  ·refine AW.exit ?_;try simp
   (repeat refine AW.seq ?_);refine AW.rg ?_;simp;have:a.length-k=0:=by omega
   rw[this]at h2;simp[val]at h2;exact AW.ret (Ag rfl _ (.same _) ⟨by simp[Qfx (show x=y by omega)],rfl⟩)
theorem Cv (l:List Nat) (hl:l.length<2^42):Aj Tryz.prog 165 [Am l] Ac.emp fun v m=>v=Am (E0 l)∧m=Ac.emp:=by
 refine Ad Tryz.func165 rfl rfl 21 rfl (Nat.le_of_ble_eq_true rfl) ?_;(repeat refine AW.seq ?_);refine AW.rg ?_;simp[Ak];(repeat refine AW.seq ?_);refine AW.rg ?_;simp;refine AW.seq_has [(0,Am l),(3,.int .i64 (E0 l).length)] Ac.emp ?_ ?_
 ·refine AW.block (AW.loopS (ι:=Nat) (fun k=>[(0,Am l),(3,.int .i64 k)]) (fun _=>Ac.emp) (fun k=>k≤l.length∧E0 (l.take k)=E0 l) (fun k=>k) l.length ⟨Nat.le_refl _,by simp⟩ rfl (by simp) ?_);rintro k ⟨h1,h2⟩;rcases Nat.eq_zero_or_pos k with rfl | hk
  ·(repeat refine AW.seq ?_);refine AW.rg ?_;simp;refine AW.no ?_ rfl;refine AW.exit ?_;try simp
   simp at h2;rw[←h2];rfl
  ·obtain⟨i,rfl⟩:∃i,k=i+1:=⟨k-1,by omega⟩;have hw:IntKind.i64.wrap (((i+1:Nat):Int)-1)=(i:Int):=by rw[Ok (by omega)];omega
   have e:l.take (i+1)=l.take i++[nth l i]:=by
    rw[List.take_add_one,List.getElem?_eq_getElem (by omega),Ye (by omega)];rfl
   have i1:i<l.length:=by omega
   (repeat refine AW.seq ?_);refine AW.rg ?_;simp[-Int.natCast_add,hw,i1];(repeat refine AW.seq ?_);refine AW.cs (fun h3=>?_) (fun h3=>?_) rfl<;>simp at h3
   ·refine AW.skip ?_;try simp[-Int.natCast_add]
    (repeat refine AW.seq ?_);refine AW.block ?_;(repeat refine AW.seq ?_);refine AW.rg ?_;simp[-Int.natCast_add,hw];refine⟨by omega,?_⟩;rw[e,h3,L1]at h2;exact h2
   ·refine AW.exit ?_;try simp[-Int.natCast_add]
    rw[e,Ob _ h3,←e]at h2;rw[←h2];simp;omega
 ·have h1:(E0 l).length≤l.length:=by
   unfold E0;have:=(List.dropWhile_sublist (l:=l.reverse) (·==0)).length_le;simpa using this
  have h2:l.take (E0 l).length=E0 l:=by
   have:E0 l <+: l:=by
    unfold E0;rw[←List.reverse_suffix,List.reverse_reverse];exact List.dropWhile_suffix _
   exact List.prefix_iff_eq_take.1 this |>.symm
  (repeat refine AW.seq ?_);refine AW.rg ?_;simp;refine⟨h1,?_⟩;exact AW.ret (Ag rfl _ (.same _) ⟨by simp[h2],rfl⟩)
end Go.Av
end
section
namespace Go.Av
open Go.Proofs
@[simp] theorem Qmt (l:List Nat):(Bk l).take l.length=Bk l:=by rw[Qx,List.take_length]
theorem Cx (neg:Bool) (l:List Nat) (hb:Lb l) (hl:l.length<2^40):Aj Tryz.prog 122 [.bool neg,Am l] Ac.emp fun v m=>v=Bv (if neg=true then -(val l:Int) else val l)∧m=Ac.emp:=by
 refine Ad Tryz.func122 rfl rfl 27 rfl (Nat.le_of_ble_eq_true rfl) ?_;(repeat refine AW.seq ?_);refine AW.rg ?_;simp[Ak];refine Af.intro fun b4 _=>?_;(repeat refine AW.seq ?_);refine AW.rg ?_;simp;refine Aa.val (Cv l (by omega)) ?_;simp[Cc hb];have hlen:=A1 (n:=val l) (k:=128);generalize hn:val l=n at *;(repeat refine AW.seq ?_);refine AW.rg ?_;simp;(repeat refine AW.seq ?_);refine AW.cs (fun h=>?_) (fun h=>?_) rfl<;>simp at h
 ·(repeat refine AW.seq ?_);refine AW.rg ?_;simp;have:¬n<Bh:=fun h'=>by have:=hlen.2 h';omega
  refine AW.ret (Dc (b:=b4) (.bool false) (Am []) rfl rfl (by simp;exact⟨rfl,rfl⟩) rfl ?_ ⟨?_,rfl⟩)
  ·simp
  ·cases neg<;>simp[Bv,fz,fe,this,Au,Be]
 ·refine AW.skip ?_;try simp
  have hn':n<Bh:=hlen.1 h;(repeat refine AW.seq ?_);refine AW.rg ?_;simp[-Int.natCast_mul];refine⟨by omega,Af.intro fun b6 h6=>?_⟩;have e1:b4≠b6:=by rintro rfl;simp at h6
  (repeat refine AW.seq ?_);refine AW.rg ?_;simp[C4];(repeat refine AW.seq ?_);refine AW.rg ?_;have h2:(decide (-(n:Int)<0))=decide (0<n):=by congr 1;simp
  have h3:0<(Ao n).length↔0<n:=by
   rw[List.length_pos_iff,ne_eq,Cq];omega
  cases neg
  ·simp[e1];refine AW.ret (Dc (b:=b4) (.bool false) (Am (Ao n)) rfl rfl (by simp;exact⟨rfl,rfl⟩) rfl ?_ ⟨?_,rfl⟩)
   ·simp;exact C9 (e:=124) (by simp[Ne.symm e1])
   ·simp[Bv,fz,fe,hn',Au]
  ·simp[e1,h3];refine AW.ret (Dc (b:=b4) (.bool (decide (0<n))) (Am (Ao n)) rfl rfl (by simp;exact⟨rfl,rfl⟩) rfl ?_ ⟨?_,rfl⟩)
   ·simp;exact C9 (e:=124) (by simp[Ne.symm e1])
   ·simp[Bv,fz,fe,hn',Au,h2]
theorem Ua (a b:List Nat) (ha:Lb a) (hb:Lb b) (la:a.length<2^40) (lb:b.length<2^40):Aj Tryz.prog 210 [Am a,Am b] Ac.emp fun v m=>v=Am (Ao (val a+val b))∧m=Ac.emp:=by
 refine Ad Tryz.func210 rfl rfl 62 rfl (Nat.le_of_ble_eq_true rfl) ?_;(repeat refine AW.seq ?_);refine AW.rg ?_;simp[Ak];refine AW.seq_ex (ι:=List Nat × List Nat) (fun p=>[(0,Am p.1),(1,Am p.2)]) (fun _=>Ac.emp) (fun p=>Lb p.1∧Lb p.2∧p.2.length≤p.1.length∧p.1.length<2^40∧val p.1+val p.2=val a+val b) ?_ ?_
 ·(repeat refine AW.seq ?_);refine AW.rg ?_;simp;(repeat refine AW.seq ?_);refine AW.cs (fun h=>?_) (fun h=>?_) rfl<;>simp at h
  ·(repeat refine AW.seq ?_);refine AW.rg ?_;simp;exact⟨b,a,⟨hb,ha,by omega,by omega,by omega⟩,rfl,rfl⟩
  ·refine AW.skip ?_;try simp
   exact⟨a,b,⟨ha,hb,by omega,by omega,rfl⟩,rfl,rfl⟩
 rintro⟨p,q⟩ ⟨hp,hq,hl,hl2,hv⟩;simp only at hp hq hl hl2 hv;rw[←hv];simp only;have hw:=Ap (p.length+1) (by omega);(repeat refine AW.seq ?_);refine AW.rg ?_;simp[-Int.natCast_mul,-Int.natCast_add,hw];refine⟨by omega,Af.intro fun bl _=>?_⟩;(repeat refine AW.seq ?_);refine AW.rg ?_;simp[-Int.natCast_add,C4,Qx,Qo,Rt];(repeat refine AW.seq ?_);refine AW.rg ?_;simp[-Int.natCast_add];refine AW.seq_ex (ι:=List Nat × Nat) (fun x=>[(0,Am p),(5,.osl bl 1 0 (p.length+1)),(6,.int .u64 (x.2:Nat))]) (fun x=>Ac.emp.set bl ⟨124,1,Bk x.1⟩) (fun x=>Lb x.1∧x.1.length=p.length+1∧x.2<2∧val (x.1.take p.length)+4294967296^p.length*x.2=val p+val q) ?_ ?_
 ·(repeat refine AW.seq ?_);refine AW.rg ?_;simp[-Int.natCast_add];refine AW.block (AW.loopS (ι:=Nat × Nat × List Nat) (fun x=>[(0,Am p),(1,Am q),(5,.osl bl 1 0 (p.length+1)),(6,.int .u64 (x.2.1:Nat)),(24,.int .i64 p.length),(25,.int .i64 (x.1:Nat))]) (fun x=>Ac.emp.set bl ⟨124,1,Bk x.2.2⟩)
   (fun x=>x.1≤p.length∧x.2.1<2∧Lb x.2.2∧x.2.2.length=p.length+1∧val (x.2.2.take x.1)+4294967296^x.1*x.2.1=val (p.take x.1)+val (q.take x.1)) (fun x=>p.length-x.1) (0,0,p++[0]) ⟨by simp,by simp,?_,by simp,by simp[val]⟩ ?_ (by simp[-Int.natCast_add]) ?_)
  ·intro x hx;rcases List.mem_append.1 hx with h | h
   ·exact hp x h
   ·simp at h;omega
  ·simp only[];rw[List.take_of_length_le (by omega)]
  ·rintro⟨i,c,o⟩ ⟨h1,h2,h3,h4,h5⟩;simp only at h1 h2 h3 h4 h5;simp only;(repeat refine AW.seq ?_);refine AW.rg ?_;simp;(repeat refine AW.seq ?_);refine AW.cs (fun hi=>?_) (fun hi=>?_) rfl<;>simp at hi
   ·refine AW.skip ?_;try simp
    have qa:=hp.nth i;have qb:=hq.nth i;have hw2:=Ap (i+1) (by omega);have m1:nth p i % 18446744073709551616=nth p i:=by omega
    have m2:nth q i % 18446744073709551616=nth q i:=by omega
    have m3:(nth p i+c) % 18446744073709551616=nth p i+c:=by omega
    have m4:(nth p i+c+nth q i) % 18446744073709551616=nth p i+c+nth q i:=by omega
    (repeat refine AW.seq ?_);refine AW.block ?_;(repeat refine AW.seq ?_);refine AW.rg ?_;simp;(repeat refine AW.seq ?_);refine AW.rg ?_;simp[-Int.natCast_add,hi,m1,m3];refine AW.seq_has [(0,Am p),(1,Am q),(5,.osl bl 1 0 (p.length+1)),(7,.int .i64 (i:Nat)),(8,.int .u64 (nth p i+c+nth q i:Nat)),(24,.int .i64 p.length),(25,.int .i64 (i:Nat))] (Ac.emp.set bl ⟨124,1,Bk o⟩) ?_ ?_
    ·(repeat refine AW.seq ?_);refine AW.rg ?_;simp[-Int.natCast_add];(repeat refine AW.seq ?_);refine AW.cs (fun hl=>?_) (fun hl=>?_) rfl<;>simp at hl
     ·(repeat refine AW.seq ?_);refine AW.rg ?_;simp[-Int.natCast_add,hl,m2,m4]
     ·refine AW.skip ?_;try simp[-Int.natCast_add]
      simp[Mc hl]
    generalize hs:nth p i+c+nth q i=s at *;have hi2:i<p.length+1:=by omega
    (repeat refine AW.seq ?_);refine AW.rg ?_;simp[-Int.natCast_add,-Int.natCast_emod,hi2,h4];(repeat refine AW.seq ?_);refine AW.rg ?_;simp[-Int.natCast_ediv,-Int.natCast_emod];(repeat refine AW.seq ?_);refine AW.rg ?_;simp[-Int.natCast_add,-Int.natCast_emod,-Int.natCast_ediv,hw2];refine⟨i+1,_,_,⟨by omega,by omega,h3.set i _ (by omega),by simpa using h4,?_⟩,by omega,rfl,rfl,rfl⟩;rw[Bj _ _ _ (by omega),Aw,Aw,Nat.pow_succ];have q:=Fz (4294967296^i) s;rw[←hs,Nat.mul_add,Nat.mul_add,hs]at q;omega
   ·refine AW.exit ?_;try simp
    have:i=p.length:=by omega
    subst this;rw[Aq p _ (by omega),Aq q _ (by omega)]at h5;exact⟨o,⟨h3,h4,h2,h5⟩,rfl⟩
 ·rintro⟨o,c⟩ ⟨h3,h4,h2,h5⟩;simp only at h2 h3 h4 h5;simp only;have m1:c % 4294967296=c:=by omega
  have hi2:p.length<p.length+1:=by omega
  (repeat refine AW.seq ?_);refine AW.rg ?_;simp[-Int.natCast_add,h4,m1];have hv2:val (o.set p.length c)=val p+val q:=by
   rw[←Aq (o.set p.length c) (p.length+1) (by simp[h4]),Bj _ _ _ (by omega),h5]
  refine AW.toEmp [(5,Am (o.set p.length c))] ?_ ?_
  ·simp;have:=C9 (m:=Ac.emp.set bl ⟨124,1,Bk (o.set p.length c)⟩) (b:=bl) (e:=124) (l:=o.set p.length c) (by simp);rw[List.length_set,h4]at this;exact this
  (repeat refine AW.seq ?_);refine AW.rg ?_;simp;refine Aa.val (Cv _ (by simp[h4];omega)) ?_;rw[Cc (h3.set _ _ (by omega)),hv2];try simp
  exact AW.ret (Ag rfl _ (.same _) ⟨by simp,rfl⟩)
theorem El (x y:Nat) (hxy:y≤x) (lx:(Ao x).length<2^40):Aj Tryz.prog 211 [Am (Ao x),Am (Ao y)] Ac.emp fun v m=>v=Am (Ao (x-y))∧m=Ac.emp:=by
 refine Ad Tryz.func211 rfl rfl 48 rfl (Nat.le_of_ble_eq_true rfl) ?_;have hlen:=K2 hxy;generalize ha:Ao x=a at *;generalize hb:Ao y=b at *;have va:val a=x:=by rw[←ha,Ax]
 have vb:val b=y:=by rw[←hb,Ax]
 have la:Lb a:=by rw[←ha];exact A6 x
 have lb:Lb b:=by rw[←hb];exact A6 y
 (repeat refine AW.seq ?_);refine AW.rg ?_;simp[Ak];(repeat refine AW.seq ?_);refine AW.rg ?_;simp[-Int.natCast_mul];refine⟨by omega,Af.intro fun bl _=>?_⟩;(repeat refine AW.seq ?_);refine AW.rg ?_;simp[C4];(repeat refine AW.seq ?_);refine AW.rg ?_;simp;refine AW.seq_ex (ι:=List Nat) (fun o=>[(5,.osl bl 1 0 o.length)]) (fun o=>Ac.emp.set bl ⟨124,1,Bk o⟩) (fun o=>Lb o∧val o=x-y∧o.length<2^41) ?_ ?_
 ·(repeat refine AW.seq ?_);refine AW.rg ?_;simp;refine AW.block (AW.loopS (ι:=Nat × Nat × List Nat) (fun x=>[(0,Am a),(1,Am b),(5,.osl bl 1 0 a.length),(6,.int .u64 (x.2.1:Nat)),(16,.int .i64 a.length),(17,.int .i64 (x.1:Nat))]) (fun x=>Ac.emp.set bl ⟨124,1,Bk x.2.2⟩)
   (fun x=>x.1≤a.length∧x.2.1<2∧Lb x.2.2∧x.2.2.length=a.length∧val (x.2.2.take x.1)+val (b.take x.1)=val (a.take x.1)+4294967296^x.1*x.2.1) (fun x=>a.length-x.1) (0,0,a) ⟨by simp,by simp,la,rfl,by simp[val]⟩ (by simp) (by simp) ?_)
  rintro⟨i,c,o⟩ ⟨h1,h2,h3,h4,h5⟩;simp only at h1 h2 h3 h4 h5;simp only;(repeat refine AW.seq ?_);refine AW.rg ?_;simp;(repeat refine AW.seq ?_);refine AW.cs (fun hi=>?_) (fun hi=>?_) rfl<;>simp at hi
  ·refine AW.skip ?_;try simp
   have qa:=la.nth i;have qb:=lb.nth i;have hw2:=Ap (i+1) (by omega);have m1:nth a i % 18446744073709551616=nth a i:=by omega
   have m2:nth b i % 18446744073709551616=nth b i:=by omega
   (repeat refine AW.seq ?_);refine AW.block ?_;(repeat refine AW.seq ?_);refine AW.rg ?_;simp;(repeat refine AW.seq ?_);refine AW.rg ?_;simp[hi,m1];refine AW.seq_has [(0,Am a),(1,Am b),(5,.osl bl 1 0 a.length),(7,.int .i64 (i:Nat)),(8,.int .u64 ((18446744073709551616+nth a i-c-nth b i) % 18446744073709551616:Nat)),(16,.int .i64 a.length),(17,.int .i64 (i:Nat))] (Ac.emp.set bl ⟨124,1,Bk o⟩) ?_ ?_
   ·(repeat refine AW.seq ?_);refine AW.rg ?_;simp[-Int.natCast_emod];(repeat refine AW.seq ?_);refine AW.cs (fun hl=>?_) (fun hl=>?_) rfl<;>simp at hl
    ·(repeat refine AW.seq ?_);refine AW.rg ?_;simp[-Int.natCast_emod,hl,m2];omega
    ·refine AW.skip ?_;try simp[-Int.natCast_emod]
     simp[-Int.natCast_emod,Mc hl];omega
   generalize hs:(18446744073709551616+nth a i-c-nth b i) % 18446744073709551616=s at *;(repeat refine AW.seq ?_);refine AW.rg ?_;simp[-Int.natCast_emod,hi,h4];(repeat refine AW.seq ?_);refine AW.rg ?_;simp[-Int.natCast_ediv,-Int.natCast_emod];(repeat refine AW.seq ?_);refine AW.rg ?_;simp[-Int.natCast_add,-Int.natCast_ediv,-Int.natCast_emod,hw2];refine⟨i+1,_,_,⟨by omega,by omega,h3.set i _ (by omega),by simpa using h4,?_⟩,by omega,rfl,rfl,rfl⟩;rw[Bj _ _ _ (by omega),Aw,Aw,Nat.pow_succ];by_cases hc:nth a i<c+nth b i
   ·have s1:s / 9223372036854775808=1:=by omega
    have s2:s % 4294967296=nth a i+4294967296-(c+nth b i):=by omega
    rw[s1,s2];have q:4294967296^i*(nth a i+4294967296-(c+nth b i))+4294967296^i*(c+nth b i)=4294967296^i*(nth a i)+4294967296^i*4294967296:=by
     rw[←Nat.mul_add,←Nat.mul_add];congr 1;omega
    rw[Nat.mul_add _ c]at q;omega
   ·have s1:s / 9223372036854775808=0:=by omega
    have s2:s % 4294967296=nth a i-(c+nth b i):=by omega
    rw[s1,s2];have q:4294967296^i*(nth a i-(c+nth b i))+4294967296^i*(c+nth b i)=4294967296^i*(nth a i):=by
     rw[←Nat.mul_add];congr 1;omega
    rw[Nat.mul_add _ c]at q;omega
  ·refine AW.exit ?_;try simp
   refine⟨o,⟨h3,?_,by omega⟩,rfl,h4.symm⟩;have:i=a.length:=by omega
   subst this;rw[Aq o _ (by omega),Aq a _ (by omega),Aq b _ (by omega)]at h5;have q1:=K3 h3 (k:=a.length) (by omega);have q4:c=0:=by
    rcases Nat.eq_zero_or_pos c with h|h
    ·exact h
    ·have:=Nat.le_mul_of_pos_right (4294967296^a.length) h;omega
   subst q4;omega
 ·rintro o ⟨h1,h2,h3⟩;refine AW.toEmp [(5,Am o)] (by simp;exact C9 (e:=124) (by simp)) ?_;(repeat refine AW.seq ?_);refine AW.rg ?_;simp;refine Aa.val (Cv o (by omega)) ?_;rw[Cc h1,h2];try simp
  exact AW.ret (Ag rfl _ (.same _) ⟨by simp,rfl⟩)
end Go.Av
end
section
namespace Go.Av
open Go.Proofs
theorem Yn (a b:List Nat) (ha:Lb a) (hb:Lb b) (la:a.length<2^39) (lb:b.length<2^39):Aj Tryz.prog 200 [Am a,Am b] Ac.emp fun v m=>v=Am (Ao (val a*val b))∧m=Ac.emp:=by
 refine Ad Tryz.func200 rfl rfl 68 rfl (Nat.le_of_ble_eq_true rfl) ?_;(repeat refine AW.seq ?_);refine AW.rg ?_;simp[Ak];generalize hN:a.length+b.length=N;have hw:IntKind.i64.wrap (N:Int)=N:=wi (by omega);(repeat refine AW.seq ?_);refine AW.rg ?_;simp[-Int.natCast_mul,hN,hw];refine⟨by omega,Af.intro fun bl _=>?_⟩;simp only[C4];refine AW.seq_ex (ι:=List Nat) (fun o=>[(5,.osl bl 1 0 o.length)]) (fun o=>Ac.emp.set bl ⟨124,1,Bk o⟩) (fun o=>Lb o∧val o=val a*val b∧o.length<2^41) ?_ ?_
 ·(repeat refine AW.seq ?_);refine AW.rg ?_;simp;refine AW.block (AW.loopS (ι:=Nat × List Nat) (fun x=>[(0,Am a),(1,Am b),(5,.osl bl 1 0 N),(18,.int .i64 (x.1:Nat)),(17,.int .i64 a.length)]) (fun x=>Ac.emp.set bl ⟨124,1,Bk x.2⟩)
   (fun x=>x.1≤a.length∧Lb x.2∧x.2.length=N∧val (x.2.take (x.1+b.length))=val (a.take x.1)*val b) (fun x=>a.length-x.1) (0,List.replicate N 0) ⟨by simp,Lb.rep _,by simp,by simp[val,J9]⟩ (by simp) (by simp) ?_)
  rintro⟨i,o0⟩ ⟨h1,h3,h4,h5⟩;simp only at h1 h3 h4 h5;simp only;have hw2:=Ap (i+1) (by omega);(repeat refine AW.seq ?_);refine AW.rg ?_;simp;(repeat refine AW.seq ?_);refine AW.cs (fun hi=>?_) (fun hi=>?_) rfl<;>simp at hi
  ·refine AW.skip ?_;try simp
   (repeat refine AW.seq ?_);refine AW.block ?_;(repeat refine AW.seq ?_);refine AW.rg ?_;simp;(repeat refine AW.seq ?_);refine AW.rg ?_;simp;refine AW.seq_ex (ι:=Nat × List Nat) (fun x=>[(0,Am a),(1,Am b),(5,.osl bl 1 0 N),(6,.int .i64 (i:Nat)),(7,.int .u64 (x.1:Nat)),(17,.int .i64 a.length),(18,.int .i64 (i:Nat))]) (fun x=>Ac.emp.set bl ⟨124,1,Bk x.2⟩)
    (fun x=>x.1<4294967296∧Lb x.2∧x.2.length=N∧val (x.2.take (i+b.length))+4294967296^(i+b.length)*x.1=val (o0.take (i+b.length))+4294967296^i*nth a i*val b) ?_ ?_
   ·(repeat refine AW.seq ?_);refine AW.rg ?_;simp;refine AW.block (AW.loopS (ι:=Nat × Nat × List Nat) (fun x=>[(0,Am a),(1,Am b),(5,.osl bl 1 0 N),(6,.int .i64 (i:Nat)),(7,.int .u64 (x.2.1:Nat)),(23,.int .i64 (x.1:Nat)),(22,.int .i64 b.length),(17,.int .i64 a.length),(18,.int .i64 (i:Nat))]) (fun x=>Ac.emp.set bl ⟨124,1,Bk x.2.2⟩)
     (fun x=>x.1≤b.length∧x.2.1<4294967296∧Lb x.2.2∧x.2.2.length=N∧(∀j,i+x.1≤j→nth x.2.2 j=nth o0 j)∧val (x.2.2.take (i+x.1))+4294967296^(i+x.1)*x.2.1=val (o0.take (i+x.1))+4294967296^i*nth a i*val (b.take x.1)) (fun x=>b.length-x.1) (0,0,o0) ⟨by simp,by simp,h3,h4,fun _ _=>rfl,by simp[val]⟩ rfl (by simp) ?_)
    rintro⟨k,c,o⟩ ⟨g1,g2,g3,g4,g5,g6⟩;simp only at g1 g2 g3 g4 g5 g6;simp only;(repeat refine AW.seq ?_);refine AW.rg ?_;simp;(repeat refine AW.seq ?_);refine AW.cs (fun hk=>?_) (fun hk=>?_) rfl<;>simp at hk
    ·refine AW.skip ?_;try simp
     (repeat refine AW.seq ?_);refine AW.block ?_;(repeat refine AW.seq ?_);refine AW.rg ?_;simp;have qa:=ha.nth i;have qb:=hb.nth k;have qo:=g3.nth (i+k);have hik:=Ap (i+k) (by omega);have hk2:=Ap (k+1) (by omega);have ik:i+k<N:=by omega
     have m0:nth a i*nth b k≤4294967295*4294967295:=Nat.mul_le_mul (by omega) (by omega);have m1:nth a i % 18446744073709551616=nth a i:=by omega
     have m2:nth b k % 18446744073709551616=nth b k:=by omega
     have m3:nth o (i+k) % 18446744073709551616=nth o (i+k):=by omega
     have m4:nth a i*nth b k % 18446744073709551616=nth a i*nth b k:=by omega
     have m5:(nth a i*nth b k+nth o (i+k)) % 18446744073709551616=nth a i*nth b k+nth o (i+k):=by omega
     have m6:(nth a i*nth b k+nth o (i+k)+c) % 18446744073709551616=nth a i*nth b k+nth o (i+k)+c:=by omega
     (repeat refine AW.seq ?_);refine AW.rdA bl [0,1,2,3,4,5,6,7,8,9,10,11,12,13,14,15,16,17,18,19,20,21] Ds (by simp) ?_;simp[-Int.natCast_add,-Int.natCast_mul,hi,hk,hik,g4,ik,m1,m2,m3,m4,m5,m6];generalize hs:nth a i*nth b k+nth o (i+k)+c=s at *;(repeat refine AW.seq ?_);refine AW.rg ?_;simp[-Int.natCast_emod,-Int.natCast_add,-Int.natCast_mul,hik,g4,ik];have m7:s / 4294967296 % 18446744073709551616=s / 4294967296:=by omega
     (repeat refine AW.seq ?_);refine AW.rg ?_;simp[-Int.natCast_ediv,-Int.natCast_mul,-Int.natCast_add,-Int.natCast_emod,m7];(repeat refine AW.seq ?_);refine AW.rg ?_;simp[-Int.natCast_mul,-Int.natCast_add,-Int.natCast_emod,-Int.natCast_ediv,hk2];refine⟨k+1,_,_,⟨by omega,?_,g3.set (i+k) _ (Nat.mod_lt s (by omega)),by simpa using g4,?_,?_⟩,by omega,rfl,rfl,rfl⟩
     ·omega
     ·intro j hj;rw[Ny _ (by omega)];exact g5 j (by omega)
     ·rw[show i+(k+1)=i+k+1 by omega,Bj _ _ _ (by omega),Aw,Aw,Nat.pow_succ];have q:=Fz (4294967296^(i+k)) s;rw[←hs,Nat.mul_add,Nat.mul_add,hs,g5 _ (Nat.le_refl _)]at q;have e:4294967296^i*nth a i*(val (b.take k)+4294967296^k*nth b k)=4294967296^i*nth a i*val (b.take k)+4294967296^(i+k)*(nth a i*nth b k):=by
       rw[Nat.mul_add,Nat.pow_add]
       congr 1
       ac_rfl
      rw[e];omega
    ·refine AW.exit ?_;try simp
     have:k=b.length:=by omega
     subst this;rw[Aq b _ (Nat.le_refl _)]at g6;exact⟨c,o,⟨g2,g3,g4,g6⟩,rfl,rfl⟩
   ·rintro⟨c,o⟩ ⟨g2,g3,g4,g6⟩;simp only at g2 g3 g4 g6;simp only;have hil:=Ap (i+b.length) (by omega);have il:i+b.length<N:=by omega
    have m1:c % 4294967296=c:=by omega
    (repeat refine AW.seq ?_);refine AW.rg ?_;simp[-Int.natCast_add,hil,il,g4,m1];(repeat refine AW.seq ?_);refine AW.rg ?_;simp[-Int.natCast_add,hw2];refine⟨i+1,_,⟨by omega,g3.set (i+b.length) c g2,by simpa using g4,?_⟩,by omega,rfl,rfl⟩;rw[show i+1+b.length=i+b.length+1 by omega,Bj _ _ _ (by omega),g6,h5,Aw,Nat.add_mul]
  ·refine AW.exit ?_;try simp
   have:i=a.length:=by omega
   subst this;refine⟨o0,⟨h3,?_,by omega⟩,rfl,h4.symm⟩;rw[Aq _ _ (by omega),Aq a _ (by omega)]at h5;exact h5
 ·rintro o ⟨h1,h2,h3⟩;refine AW.toEmp [(5,Am o)] (by simp;exact C9 (e:=124) (by simp)) ?_;(repeat refine AW.seq ?_);refine AW.rg ?_;simp;refine Aa.val (Cv o (by omega)) ?_;rw[Cc h1,h2];try simp
  exact AW.ret (Ag rfl _ (.same _) ⟨by simp,rfl⟩)
theorem Qep (a b:List Nat) (ha:Lb a) (hb:Lb b) (la:a.length<2^39) (lb:b.length<2^39):Aj Tryz.prog 177 [Am a,Am b] Ac.emp fun v m=>v=Am (Ao (val a*val b))∧m=Ac.emp:=by
 refine Ad Tryz.func177 rfl rfl 68 rfl (Nat.le_of_ble_eq_true rfl) ?_;(repeat refine AW.seq ?_);refine AW.rg ?_;simp[Ak];generalize hN:a.length+b.length=N;have hw:IntKind.i64.wrap (N:Int)=N:=wi (by omega);(repeat refine AW.seq ?_);refine AW.rg ?_;simp[-Int.natCast_mul,hN,hw];refine⟨by omega,Af.intro fun bl _=>?_⟩;simp only[C4];refine AW.seq_ex (ι:=List Nat) (fun o=>[(5,.osl bl 1 0 o.length)]) (fun o=>Ac.emp.set bl ⟨124,1,Bk o⟩) (fun o=>Lb o∧val o=val a*val b∧o.length<2^41) ?_ ?_
 ·(repeat refine AW.seq ?_);refine AW.rg ?_;simp;refine AW.block (AW.loopS (ι:=Nat × List Nat) (fun x=>[(0,Am a),(1,Am b),(5,.osl bl 1 0 N),(6,.int .i64 (x.1:Nat))]) (fun x=>Ac.emp.set bl ⟨124,1,Bk x.2⟩)
   (fun x=>x.1≤a.length∧Lb x.2∧x.2.length=N∧val (x.2.take (x.1+b.length))=val (a.take x.1)*val b) (fun x=>a.length-x.1) (0,List.replicate N 0) ⟨by simp,Lb.rep _,by simp,by simp[val,J9]⟩ (by simp) (by simp) ?_)
  rintro⟨i,o0⟩ ⟨h1,h3,h4,h5⟩;simp only at h1 h3 h4 h5;simp only;have hw2:=Ap (i+1) (by omega);(repeat refine AW.seq ?_);refine AW.rg ?_;simp;(repeat refine AW.seq ?_);refine AW.cs (fun hi=>?_) (fun hi=>?_) rfl<;>simp at hi
  ·refine AW.skip ?_;try simp
   (repeat refine AW.seq ?_);refine AW.block ?_;(repeat refine AW.seq ?_);refine AW.rg ?_;simp;refine AW.seq_ex (ι:=Nat × List Nat) (fun x=>[(0,Am a),(1,Am b),(5,.osl bl 1 0 N),(6,.int .i64 (i:Nat)),(7,.int .u64 (x.1:Nat))]) (fun x=>Ac.emp.set bl ⟨124,1,Bk x.2⟩)
    (fun x=>x.1<4294967296∧Lb x.2∧x.2.length=N∧val (x.2.take (i+b.length))+4294967296^(i+b.length)*x.1=val (o0.take (i+b.length))+4294967296^i*nth a i*val b) ?_ ?_
   ·(repeat refine AW.seq ?_);refine AW.rg ?_;simp;refine AW.block (AW.loopS (ι:=Nat × Nat × List Nat) (fun x=>[(0,Am a),(1,Am b),(5,.osl bl 1 0 N),(6,.int .i64 (i:Nat)),(7,.int .u64 (x.2.1:Nat)),(8,.int .i64 (x.1:Nat))]) (fun x=>Ac.emp.set bl ⟨124,1,Bk x.2.2⟩)
     (fun x=>x.1≤b.length∧x.2.1<4294967296∧Lb x.2.2∧x.2.2.length=N∧(∀j,i+x.1≤j→nth x.2.2 j=nth o0 j)∧val (x.2.2.take (i+x.1))+4294967296^(i+x.1)*x.2.1=val (o0.take (i+x.1))+4294967296^i*nth a i*val (b.take x.1)) (fun x=>b.length-x.1) (0,0,o0) ⟨by simp,by simp,h3,h4,fun _ _=>rfl,by simp[val]⟩ rfl (by simp) ?_)
    rintro⟨k,c,o⟩ ⟨g1,g2,g3,g4,g5,g6⟩;simp only at g1 g2 g3 g4 g5 g6;simp only;(repeat refine AW.seq ?_);refine AW.rg ?_;simp;(repeat refine AW.seq ?_);refine AW.cs (fun hk=>?_) (fun hk=>?_) rfl<;>simp at hk
    ·refine AW.skip ?_;try simp
     (repeat refine AW.seq ?_);refine AW.block ?_;have qa:=ha.nth i;have qb:=hb.nth k;have qo:=g3.nth (i+k);have hik:=Ap (i+k) (by omega);have hk2:=Ap (k+1) (by omega);have ik:i+k<N:=by omega
     have m0:nth a i*nth b k≤4294967295*4294967295:=Nat.mul_le_mul (by omega) (by omega);have m1:nth a i % 18446744073709551616=nth a i:=by omega
     have m2:nth b k % 18446744073709551616=nth b k:=by omega
     have m3:nth o (i+k) % 18446744073709551616=nth o (i+k):=by omega
     have m4:nth a i*nth b k % 18446744073709551616=nth a i*nth b k:=by omega
     have m5:(nth a i*nth b k+nth o (i+k)) % 18446744073709551616=nth a i*nth b k+nth o (i+k):=by omega
     have m6:(nth a i*nth b k+nth o (i+k)+c) % 18446744073709551616=nth a i*nth b k+nth o (i+k)+c:=by omega
     (repeat refine AW.seq ?_);refine AW.rdA bl [0,1,2,3,4,5,6,7,8,9,10,11,12,13,14,15,16,17,18,19,20,21] Ds (by simp) ?_;simp[-Int.natCast_add,-Int.natCast_mul,hi,hk,hik,g4,ik,m1,m2,m3,m4,m5,m6];generalize hs:nth a i*nth b k+nth o (i+k)+c=s at *;(repeat refine AW.seq ?_);refine AW.rg ?_;simp[-Int.natCast_emod,-Int.natCast_add,-Int.natCast_mul,hik,g4,ik];have m7:s / 4294967296 % 18446744073709551616=s / 4294967296:=by omega
     (repeat refine AW.seq ?_);refine AW.rg ?_;simp[-Int.natCast_ediv,-Int.natCast_mul,-Int.natCast_add,-Int.natCast_emod,m7];(repeat refine AW.seq ?_);refine AW.rg ?_;simp[-Int.natCast_mul,-Int.natCast_add,-Int.natCast_emod,-Int.natCast_ediv,hk2];refine⟨k+1,_,_,⟨by omega,?_,g3.set (i+k) _ (Nat.mod_lt s (by omega)),by simpa using g4,?_,?_⟩,by omega,rfl,rfl,rfl⟩
     ·omega
     ·intro j hj;rw[Ny _ (by omega)];exact g5 j (by omega)
     ·rw[show i+(k+1)=i+k+1 by omega,Bj _ _ _ (by omega),Aw,Aw,Nat.pow_succ];have q:=Fz (4294967296^(i+k)) s;rw[←hs,Nat.mul_add,Nat.mul_add,hs,g5 _ (Nat.le_refl _)]at q;have e:4294967296^i*nth a i*(val (b.take k)+4294967296^k*nth b k)=4294967296^i*nth a i*val (b.take k)+4294967296^(i+k)*(nth a i*nth b k):=by
       rw[Nat.mul_add,Nat.pow_add]
       congr 1
       ac_rfl
      rw[e];omega
    ·refine AW.exit ?_;try simp
     have:k=b.length:=by omega
     subst this;rw[Aq b _ (Nat.le_refl _)]at g6;exact⟨c,o,⟨g2,g3,g4,g6⟩,rfl,rfl⟩
   ·rintro⟨c,o⟩ ⟨g2,g3,g4,g6⟩;simp only at g2 g3 g4 g6;simp only;have hil:=Ap (i+b.length) (by omega);have il:i+b.length<N:=by omega
    have m1:c % 4294967296=c:=by omega
    (repeat refine AW.seq ?_);refine AW.rg ?_;simp[-Int.natCast_add,hil,il,g4,m1];(repeat refine AW.seq ?_);refine AW.rg ?_;simp[-Int.natCast_add,hw2];refine⟨i+1,_,⟨by omega,g3.set (i+b.length) c g2,by simpa using g4,?_⟩,by omega,rfl,rfl⟩;rw[show i+1+b.length=i+b.length+1 by omega,Bj _ _ _ (by omega),g6,h5,Aw,Nat.add_mul]
  ·refine AW.exit ?_;try simp
   have:i=a.length:=by omega
   subst this;refine⟨o0,⟨h3,?_,by omega⟩,rfl,h4.symm⟩;rw[Aq _ _ (by omega),Aq a _ (by omega)]at h5;exact h5
 ·rintro o ⟨h1,h2,h3⟩;refine AW.toEmp [(5,Am o)] (by simp;exact C9 (e:=124) (by simp)) ?_;(repeat refine AW.seq ?_);refine AW.rg ?_;simp;refine Aa.val (Dt o (by omega)) ?_;rw[Cc h1,h2];try simp
  exact AW.ret (Ag rfl _ (.same _) ⟨by simp,rfl⟩)
end Go.Av
end
section
namespace Go.Av
open Go.Proofs
theorem Qft {x y:Int} (hx:x.natAbs<Bh) (hy:y.natAbs<Bh):(Ao (x.natAbs+y.natAbs)).length≤129:=by
 rw[A1,Nat.pow_succ];have:Bh=4294967296^128:=rfl;omega
theorem S4 {a b:Nat} (h:a<Bh):(Ao (a-b)).length≤128:=Bg (by omega)
theorem Qbh (x y:Int) (hx:x.natAbs<Bh) (hy:y.natAbs<Bh):Aj Tryz.prog 201 [.bool (decide (x<0)),Am (Ao x.natAbs),.bool (decide (y<0)),Am (Ao y.natAbs)] Ac.emp fun v m=>v=Bv (x+y)∧m=Ac.emp:=by
 have lx:=Bg hx;have ly:=Bg hy;have s1:=Qft hx hy;have s2:=S4 (b:=y.natAbs) hx;have s3:=S4 (b:=x.natAbs) hy;by_cases cx:x<0
 ·by_cases cy:y<0
  ·simp only[cx,cy,decide_true,decide_false];refine Ad Tryz.func201 rfl rfl 38 rfl (Nat.le_of_ble_eq_true rfl) ?_;(repeat refine AW.seq ?_);refine AW.rg ?_;simp[Ak];refine Af.intro fun b8 _=>?_;(repeat refine AW.seq ?_);refine AW.rg ?_;simp;refine AW.yes ?_ rfl;(repeat refine AW.seq ?_);refine AW.rg ?_;simp;refine Aa.val (Ua _ _ (A6 _) (A6 _) (by omega) (by omega)) ?_;try simp
   rw[Ax,Ax];try simp
   refine Aa.val (Cx true _ (A6 _) (by omega)) ?_;have e:Bv (if true=true then -(val (Ao (x.natAbs+y.natAbs)):Int) else val (Ao (x.natAbs+y.natAbs)))=Bv (x+y):=by
    rw[Ax,if_pos rfl];congr 1;omega
   rw[e,De];simp;refine AW.ret (Dc (b:=b8) (.bool (decide (fz (x+y)<0))) (Am (Ao (fz (x+y)).natAbs)) rfl rfl (by simp;exact⟨rfl,rfl⟩) rfl ?_ ⟨?_,rfl⟩)
   ·simp
   ·rfl
  ·simp only[cx,cy,decide_true,decide_false];refine Ad Tryz.func201 rfl rfl 38 rfl (Nat.le_of_ble_eq_true rfl) ?_;(repeat refine AW.seq ?_);refine AW.rg ?_;simp[Ak];refine Af.intro fun b8 _=>?_;(repeat refine AW.seq ?_);refine AW.rg ?_;simp;refine AW.no ?_ rfl;refine AW.skip ?_;try simp
   (repeat refine AW.seq ?_);refine AW.rg ?_;simp;refine Aa.val (Hq _ _ (by omega) (by omega)) ?_;simp[Ql];(repeat refine AW.seq ?_);refine AW.cs (fun h=>?_) (fun h=>?_) rfl<;>simp at h
   ·(repeat refine AW.seq ?_);refine AW.rg ?_;simp;refine Aa.val (El _ _ (by omega) (by omega)) ?_;try simp
    try simp
    refine Aa.val (Cx false _ (A6 _) (by omega)) ?_;have e:Bv (if false=true then -(val (Ao (y.natAbs-x.natAbs)):Int) else val (Ao (y.natAbs-x.natAbs)))=Bv (x+y):=by
     rw[Ax,if_neg (by simp)];congr 1;omega
    rw[e,De];simp;refine AW.ret (Dc (b:=b8) (.bool (decide (fz (x+y)<0))) (Am (Ao (fz (x+y)).natAbs)) rfl rfl (by simp;exact⟨rfl,rfl⟩) rfl ?_ ⟨?_,rfl⟩)
    ·simp
    ·rfl
   ·refine AW.skip ?_;try simp
    (repeat refine AW.seq ?_);refine AW.rg ?_;simp;refine Aa.val (El _ _ (by omega) (by omega)) ?_;try simp
    try simp
    refine Aa.val (Cx true _ (A6 _) (by omega)) ?_;have e:Bv (if true=true then -(val (Ao (x.natAbs-y.natAbs)):Int) else val (Ao (x.natAbs-y.natAbs)))=Bv (x+y):=by
     rw[Ax,if_pos rfl];congr 1;omega
    rw[e,De];simp;refine AW.ret (Dc (b:=b8) (.bool (decide (fz (x+y)<0))) (Am (Ao (fz (x+y)).natAbs)) rfl rfl (by simp;exact⟨rfl,rfl⟩) rfl ?_ ⟨?_,rfl⟩)
    ·simp
    ·rfl
 ·by_cases cy:y<0
  ·simp only[cx,cy,decide_true,decide_false];refine Ad Tryz.func201 rfl rfl 38 rfl (Nat.le_of_ble_eq_true rfl) ?_;(repeat refine AW.seq ?_);refine AW.rg ?_;simp[Ak];refine Af.intro fun b8 _=>?_;(repeat refine AW.seq ?_);refine AW.rg ?_;simp;refine AW.no ?_ rfl;refine AW.skip ?_;try simp
   (repeat refine AW.seq ?_);refine AW.rg ?_;simp;refine Aa.val (Hq _ _ (by omega) (by omega)) ?_;simp[Ql];(repeat refine AW.seq ?_);refine AW.cs (fun h=>?_) (fun h=>?_) rfl<;>simp at h
   ·(repeat refine AW.seq ?_);refine AW.rg ?_;simp;refine Aa.val (El _ _ (by omega) (by omega)) ?_;try simp
    try simp
    refine Aa.val (Cx true _ (A6 _) (by omega)) ?_;have e:Bv (if true=true then -(val (Ao (y.natAbs-x.natAbs)):Int) else val (Ao (y.natAbs-x.natAbs)))=Bv (x+y):=by
     rw[Ax,if_pos rfl];congr 1;omega
    rw[e,De];simp;refine AW.ret (Dc (b:=b8) (.bool (decide (fz (x+y)<0))) (Am (Ao (fz (x+y)).natAbs)) rfl rfl (by simp;exact⟨rfl,rfl⟩) rfl ?_ ⟨?_,rfl⟩)
    ·simp
    ·rfl
   ·refine AW.skip ?_;try simp
    (repeat refine AW.seq ?_);refine AW.rg ?_;simp;refine Aa.val (El _ _ (by omega) (by omega)) ?_;try simp
    try simp
    refine Aa.val (Cx false _ (A6 _) (by omega)) ?_;have e:Bv (if false=true then -(val (Ao (x.natAbs-y.natAbs)):Int) else val (Ao (x.natAbs-y.natAbs)))=Bv (x+y):=by
     rw[Ax,if_neg (by simp)];congr 1;omega
    rw[e,De];simp;refine AW.ret (Dc (b:=b8) (.bool (decide (fz (x+y)<0))) (Am (Ao (fz (x+y)).natAbs)) rfl rfl (by simp;exact⟨rfl,rfl⟩) rfl ?_ ⟨?_,rfl⟩)
    ·simp
    ·rfl
  ·simp only[cx,cy,decide_true,decide_false];refine Ad Tryz.func201 rfl rfl 38 rfl (Nat.le_of_ble_eq_true rfl) ?_;(repeat refine AW.seq ?_);refine AW.rg ?_;simp[Ak];refine Af.intro fun b8 _=>?_;(repeat refine AW.seq ?_);refine AW.rg ?_;simp;refine AW.yes ?_ rfl;(repeat refine AW.seq ?_);refine AW.rg ?_;simp;refine Aa.val (Ua _ _ (A6 _) (A6 _) (by omega) (by omega)) ?_;try simp
   rw[Ax,Ax];try simp
   refine Aa.val (Cx false _ (A6 _) (by omega)) ?_;have e:Bv (if false=true then -(val (Ao (x.natAbs+y.natAbs)):Int) else val (Ao (x.natAbs+y.natAbs)))=Bv (x+y):=by
    rw[Ax,if_neg (by simp)];congr 1;omega
   rw[e,De];simp;refine AW.ret (Dc (b:=b8) (.bool (decide (fz (x+y)<0))) (Am (Ao (fz (x+y)).natAbs)) rfl rfl (by simp;exact⟨rfl,rfl⟩) rfl ?_ ⟨?_,rfl⟩)
   ·simp
   ·rfl
theorem Qg6 (x y:Int) (hx:x.natAbs<Bh) (hy:y.natAbs<Bh):Aj Tryz.prog 184 [Au x,Au y] Ac.emp fun v m=>v=Bv (x+y)∧m=Ac.emp:=by
 have hb:=Pz x y hx hy;have hs:=Qbh x y hx hy;unfold Au at *;refine Ad Tryz.func184 rfl rfl 22 rfl (Nat.le_of_ble_eq_true rfl) ?_;(repeat refine AW.seq ?_);refine AW.rgR [2,3] ?_;simp[Ak];refine Af.intro fun b4 _=>?_;(repeat refine AW.seq ?_);refine AW.rg ?_;simp;refine Aa.val hb ?_;try simp
 refine AW.no ?_ rfl;refine AW.skip ?_;try simp
 (repeat refine AW.seq ?_);refine AW.rg ?_;simp;refine Aa.val hs ?_;rw[De];simp;refine AW.ret (Dc (b:=b4) (.bool (decide (fz (x+y)<0))) (Am (Ao (fz (x+y)).natAbs)) rfl rfl (by simp;exact⟨rfl,rfl⟩) rfl ?_ ⟨?_,rfl⟩)
 ·simp
 ·rfl
theorem Q9 (x y:Int):val (Ao x.natAbs)*val (Ao y.natAbs)=(x*y).natAbs:=by rw[Ax,Ax,Int.natAbs_mul]
theorem Qfd {x y:Int} (hx:x.natAbs<Bh) (hy:y.natAbs<Bh):(Ao (x*y).natAbs).length≤256:=by
 rw[A1,Int.natAbs_mul,show 256=128+128 by rfl,Nat.pow_add];exact Nat.mul_lt_mul'' hx hy
theorem Qay (x y:Int):Bv (if (decide (x<0) != decide (y<0))=true then -((x*y).natAbs:Int) else (x*y).natAbs)=Bv (x*y):=by
 congr 1
 by_cases cx:x<0<;>by_cases cy:y<0<;>simp[cx,cy]
 ·have:=Int.mul_nonneg_of_nonpos_of_nonpos (Int.le_of_lt cx) (Int.le_of_lt cy);omega
 ·have:=Int.mul_nonpos_of_nonpos_of_nonneg (Int.le_of_lt cx) (Int.not_lt.1 cy);omega
 ·have:=Int.mul_nonpos_of_nonneg_of_nonpos (Int.not_lt.1 cx) (Int.le_of_lt cy);omega
 ·have:=Int.mul_nonneg (Int.not_lt.1 cx) (Int.not_lt.1 cy);omega
theorem G4 (x y:Int) (hx:x.natAbs<Bh) (hy:y.natAbs<Bh):Aj Tryz.prog 183 [Au x,Au y] Ac.emp fun v m=>v=Bv (x*y)∧m=Ac.emp:=by
 have hb:=Pz x y hx hy;have lx:=Bg hx;have ly:=Bg hy;have lm:=Qfd hx hy;have hp:=Yn (Ao x.natAbs) (Ao y.natAbs) (A6 _) (A6 _) (by omega) (by omega);rw[Q9]at hp;have hr:=Cx (decide (x<0) != decide (y<0)) (Ao (x*y).natAbs) (A6 _) (by omega);rw[Ax,Qay,bne]at hr;unfold Au at *;refine Ad Tryz.func183 rfl rfl 24 rfl (Nat.le_of_ble_eq_true rfl) ?_;(repeat refine AW.seq ?_);refine AW.rgR [2,3] ?_;simp[Ak];refine Af.intro fun b4 _=>?_;(repeat refine AW.seq ?_);refine AW.rg ?_;simp;refine Aa.val hb ?_
 try simp
 refine AW.no ?_ rfl;refine AW.skip ?_;try simp
 (repeat refine AW.seq ?_);refine AW.rd [0,1,2,3,4,5,6,7,8,9,10,11,12,13,14] Ds ?_;simp;refine Aa.val hp ?_;try simp
 refine Aa.val hr ?_;rw[De];simp;refine AW.ret (Dc (b:=b4) (.bool (decide (fz (x*y)<0))) (Am (Ao (fz (x*y)).natAbs)) rfl rfl (by simp;exact⟨rfl,rfl⟩) rfl ?_ ⟨?_,rfl⟩)
 ·simp
 ·rfl
end Go.Av
end
section
namespace Go.Av
open Go.Proofs
theorem Ga {x:Int} (hx:x.natAbs<Bh):Aj Tryz.prog 77 [Au x] Ac.emp fun v m=>v=.bool true∧m=Ac.emp:=by
 have:=Ha (decide (x<0)) (Ao x.natAbs);rw[Fe hx]at this;exact this
theorem Qr (x y:Int) (hx:x.natAbs<Bh) (hy:y.natAbs<Bh):Aj Tryz.prog 140 [Au x,Au y] Ac.emp fun v m=>v=Bv (x*y)∧m=Ac.emp:=by
 have v1:=Ga hx;have v2:=Ga hy;have lx:=Bg hx;have ly:=Bg hy;have lm:=Qfd hx hy;have hp:=Qep (Ao x.natAbs) (Ao y.natAbs) (A6 _) (A6 _) (by omega) (by omega);rw[Q9]at hp;have hr:=Eh (decide (x<0) != decide (y<0)) (Ao (x*y).natAbs) (A6 _) (by omega);rw[Ax,Qay,bne]at hr;unfold Au at *;refine Ad Tryz.func140 rfl rfl 28 rfl (Nat.le_of_ble_eq_true rfl) ?_;(repeat refine AW.seq ?_);refine AW.rgR [2,3] ?_;simp[Ak];refine Af.intro fun b4 _=>?_;(repeat refine AW.seq ?_);refine AW.rg ?_;simp
 refine Aa.val v1 ?_;simp;refine Aa.val v2 ?_;simp;refine AW.no ?_ rfl;refine AW.skip ?_;try simp
 (repeat refine AW.seq ?_);refine AW.rd [0,1,2,3,4,5,6,7,8,9,10,11,12,13,14] Ds ?_;simp;refine Aa.val hp ?_;try simp
 refine Aa.val hr ?_;rw[De];simp;refine AW.ret (Dc (b:=b4) (.bool (decide (fz (x*y)<0))) (Am (Ao (fz (x*y)).natAbs)) rfl rfl (by simp;exact⟨rfl,rfl⟩) rfl ?_ ⟨?_,rfl⟩)
 ·simp
 ·rfl
theorem Uu {x y:Nat}:0≤He x y↔y≤x:=by unfold He;split<;>(try split)<;>omega
theorem Qhf (x y:Int) (hx:x.natAbs<Bh) (hy:y.natAbs<Bh):Aj Tryz.prog 142 [Au x,Au y] Ac.emp fun v m=>v=Bv (x+y)∧m=Ac.emp:=by
 have v1:=Ga hx;have v2:=Ga hy;have lx:=Bg hx;have ly:=Bg hy;have s1:=Qft hx hy;have s2:=S4 (b:=y.natAbs) hx;have s3:=S4 (b:=x.natAbs) hy;unfold Au at *;by_cases cx:x<0
 ·by_cases cy:y<0
  ·simp only[cx,cy,decide_true,decide_false]at v1 v2 ⊢;refine Ad Tryz.func142 rfl rfl 56 rfl (Nat.le_of_ble_eq_true rfl) ?_;(repeat refine AW.seq ?_);refine AW.rgR [2,3] ?_;simp[Ak];refine Af.intro fun b4 _=>?_;(repeat refine AW.seq ?_);refine AW.rg ?_;simp;refine Aa.val v1 ?_;simp;refine Aa.val v2 ?_;simp;refine AW.no ?_ rfl;refine AW.skip ?_;try simp
   (repeat refine AW.seq ?_);refine AW.rg ?_;simp;refine AW.yes ?_ rfl;(repeat refine AW.seq ?_);refine AW.rd [0,1,2,3,4,5,6,7,8,9,10,11] Ds ?_;simp;refine Aa.val (J5 _ _ (A6 _) (A6 _) (by omega) (by omega)) ?_;try simp
   rw[Ax,Ax];try simp
   refine Aa.val (Eh true _ (A6 _) (by omega)) ?_;have e:Bv (if true=true then -(val (Ao (x.natAbs+y.natAbs)):Int) else val (Ao (x.natAbs+y.natAbs)))=Bv (x+y):=by
    rw[Ax,if_pos rfl];congr 1;omega
   rw[e,De];simp;refine AW.ret (Dc (b:=b4) (.bool (decide (fz (x+y)<0))) (Am (Ao (fz (x+y)).natAbs)) rfl rfl (by simp;exact⟨rfl,rfl⟩) rfl ?_ ⟨?_,rfl⟩)
   ·simp
   ·rfl
  ·simp only[cx,cy,decide_true,decide_false]at v1 v2 ⊢;refine Ad Tryz.func142 rfl rfl 56 rfl (Nat.le_of_ble_eq_true rfl) ?_;(repeat refine AW.seq ?_);refine AW.rgR [2,3] ?_;simp[Ak];refine Af.intro fun b4 _=>?_;(repeat refine AW.seq ?_);refine AW.rg ?_;simp;refine Aa.val v1 ?_;simp;refine Aa.val v2 ?_;simp;refine AW.no ?_ rfl;refine AW.skip ?_;try simp
   (repeat refine AW.seq ?_);refine AW.rg ?_;simp;refine AW.no ?_ rfl;refine AW.skip ?_;try simp
   (repeat refine AW.seq ?_);refine AW.rg ?_;simp;refine Aa.val (Ii _ _ (by omega) (by omega)) ?_;simp[Uu];(repeat refine AW.seq ?_);refine AW.cs (fun h=>?_) (fun h=>?_) rfl<;>simp at h
   ·(repeat refine AW.seq ?_);refine AW.rd [0,1,2,3,4,5,6,7,8,9,10,11] Ds ?_;simp;refine Aa.val (F2 _ _ (by omega) (by omega)) ?_;try simp
    try simp
    refine Aa.val (Eh true _ (A6 _) (by omega)) ?_;have e:Bv (if true=true then -(val (Ao (x.natAbs-y.natAbs)):Int) else val (Ao (x.natAbs-y.natAbs)))=Bv (x+y):=by
     rw[Ax,if_pos rfl];congr 1;omega
    rw[e,De];simp;refine AW.ret (Dc (b:=b4) (.bool (decide (fz (x+y)<0))) (Am (Ao (fz (x+y)).natAbs)) rfl rfl (by simp;exact⟨rfl,rfl⟩) rfl ?_ ⟨?_,rfl⟩)
    ·simp
    ·rfl
   ·refine AW.skip ?_;try simp
    (repeat refine AW.seq ?_);refine AW.rd [0,1,2,3,4,5,6,7,8,9,10,11] Ds ?_;simp;refine Aa.val (F2 _ _ (by omega) (by omega)) ?_;try simp
    try simp
    refine Aa.val (Eh false _ (A6 _) (by omega)) ?_;have e:Bv (if false=true then -(val (Ao (y.natAbs-x.natAbs)):Int) else val (Ao (y.natAbs-x.natAbs)))=Bv (x+y):=by
     rw[Ax,if_neg (by simp)];congr 1;omega
    rw[e,De];simp;refine AW.ret (Dc (b:=b4) (.bool (decide (fz (x+y)<0))) (Am (Ao (fz (x+y)).natAbs)) rfl rfl (by simp;exact⟨rfl,rfl⟩) rfl ?_ ⟨?_,rfl⟩)
    ·simp
    ·rfl
 ·by_cases cy:y<0
  ·simp only[cx,cy,decide_true,decide_false]at v1 v2 ⊢;refine Ad Tryz.func142 rfl rfl 56 rfl (Nat.le_of_ble_eq_true rfl) ?_;(repeat refine AW.seq ?_);refine AW.rgR [2,3] ?_;simp[Ak];refine Af.intro fun b4 _=>?_;(repeat refine AW.seq ?_);refine AW.rg ?_;simp;refine Aa.val v1 ?_;simp;refine Aa.val v2 ?_;simp;refine AW.no ?_ rfl;refine AW.skip ?_;try simp
   (repeat refine AW.seq ?_);refine AW.rg ?_;simp;refine AW.no ?_ rfl;refine AW.skip ?_;try simp
   (repeat refine AW.seq ?_);refine AW.rg ?_;simp;refine Aa.val (Ii _ _ (by omega) (by omega)) ?_;simp[Uu];(repeat refine AW.seq ?_);refine AW.cs (fun h=>?_) (fun h=>?_) rfl<;>simp at h
   ·(repeat refine AW.seq ?_);refine AW.rd [0,1,2,3,4,5,6,7,8,9,10,11] Ds ?_;simp;refine Aa.val (F2 _ _ (by omega) (by omega)) ?_;try simp
    try simp
    refine Aa.val (Eh false _ (A6 _) (by omega)) ?_;have e:Bv (if false=true then -(val (Ao (x.natAbs-y.natAbs)):Int) else val (Ao (x.natAbs-y.natAbs)))=Bv (x+y):=by
     rw[Ax,if_neg (by simp)];congr 1;omega
    rw[e,De];simp;refine AW.ret (Dc (b:=b4) (.bool (decide (fz (x+y)<0))) (Am (Ao (fz (x+y)).natAbs)) rfl rfl (by simp;exact⟨rfl,rfl⟩) rfl ?_ ⟨?_,rfl⟩)
    ·simp
    ·rfl
   ·refine AW.skip ?_;try simp
    (repeat refine AW.seq ?_);refine AW.rd [0,1,2,3,4,5,6,7,8,9,10,11] Ds ?_;simp;refine Aa.val (F2 _ _ (by omega) (by omega)) ?_;try simp
    try simp
    refine Aa.val (Eh true _ (A6 _) (by omega)) ?_;have e:Bv (if true=true then -(val (Ao (y.natAbs-x.natAbs)):Int) else val (Ao (y.natAbs-x.natAbs)))=Bv (x+y):=by
     rw[Ax,if_pos rfl];congr 1;omega
    rw[e,De];simp;refine AW.ret (Dc (b:=b4) (.bool (decide (fz (x+y)<0))) (Am (Ao (fz (x+y)).natAbs)) rfl rfl (by simp;exact⟨rfl,rfl⟩) rfl ?_ ⟨?_,rfl⟩)
    ·simp
    ·rfl
  ·simp only[cx,cy,decide_true,decide_false]at v1 v2 ⊢;refine Ad Tryz.func142 rfl rfl 56 rfl (Nat.le_of_ble_eq_true rfl) ?_;(repeat refine AW.seq ?_);refine AW.rgR [2,3] ?_;simp[Ak];refine Af.intro fun b4 _=>?_;(repeat refine AW.seq ?_);refine AW.rg ?_;simp;refine Aa.val v1 ?_;simp;refine Aa.val v2 ?_;simp;refine AW.no ?_ rfl;refine AW.skip ?_;try simp
   (repeat refine AW.seq ?_);refine AW.rg ?_;simp;refine AW.yes ?_ rfl;(repeat refine AW.seq ?_);refine AW.rd [0,1,2,3,4,5,6,7,8,9,10,11] Ds ?_;simp;refine Aa.val (J5 _ _ (A6 _) (A6 _) (by omega) (by omega)) ?_;try simp
   rw[Ax,Ax];try simp
   refine Aa.val (Eh false _ (A6 _) (by omega)) ?_;have e:Bv (if false=true then -(val (Ao (x.natAbs+y.natAbs)):Int) else val (Ao (x.natAbs+y.natAbs)))=Bv (x+y):=by
    rw[Ax,if_neg (by simp)];congr 1;omega
   rw[e,De];simp;refine AW.ret (Dc (b:=b4) (.bool (decide (fz (x+y)<0))) (Am (Ao (fz (x+y)).natAbs)) rfl rfl (by simp;exact⟨rfl,rfl⟩) rfl ?_ ⟨?_,rfl⟩)
   ·simp
   ·rfl
end Go.Av
end
section
namespace Go.Av
open Go.Proofs
theorem Oz {l:List Nat} {i:Nat} (x:Nat) (h:i<l.length):val ((l.set i x).drop i)=x+4294967296*val (l.drop (i+1)):=by
 have e:(l.set i x).drop i=x::l.drop (i+1):=by
  rw[List.drop_eq_getElem_cons (by simpa using h),List.getElem_set_self,List.drop_set_of_lt (by omega)]
 rw[e,val]
theorem Tu (x d j:Nat) (hd:d≠0):x / 4294967296^j / d=(x / 4294967296^(j+1) % d*4294967296+x / 4294967296^j % 4294967296) / d+4294967296*(x / 4294967296^(j+1) / d) ∧
  x / 4294967296^j % d=(x / 4294967296^(j+1) % d*4294967296+x / 4294967296^j % 4294967296) % d:=by
 rw[Nat.pow_succ,←Nat.div_div_eq_div_mul];generalize x / 4294967296^j=y;have h1:y=y / 4294967296*4294967296+y % 4294967296:=by omega
 have h2:y / 4294967296=d*(y / 4294967296 / d)+y / 4294967296 % d:=(Nat.div_add_mod _ _).symm;generalize y / 4294967296 / d=q at *;generalize y / 4294967296 % d=r at *;generalize y % 4294967296=l at *;have h3:y=r*4294967296+l+d*(q*4294967296):=by
  rw[h1,h2,Nat.add_mul,Nat.mul_assoc];omega
 rw[h3];constructor
 ·rw[Nat.add_mul_div_left _ _ (by omega)];omega
 ·rw[Nat.add_mul_mod_self_left]
theorem Yq {r l:Nat} (hl:l<4294967296):r*4294967296 ||| l=r*4294967296+l:=by
 have:=Nat.two_pow_add_eq_or_of_lt (i:=32) (b:=l) hl r;rw[show 2^32=4294967296 by rfl,Nat.mul_comm]at this;exact this.symm
theorem Qe9 (x d:Nat) (hd:d≠0) (hd2:d<4294967296) (lx:(Ao x).length<2^39):Aj Tryz.prog 164 [Am (Ao x),.int .u32 (d:Nat)] Ac.emp fun v m=>v=.tup [Am (Ao (x / d)),.int .u32 ((x % d:Nat):Int)]∧m=Ac.emp:=by
 refine Ad Tryz.func164 rfl rfl 49 rfl (Nat.le_of_ble_eq_true rfl) ?_;have hx:=Ax x;have hb:=A6 x;have hnth:=E9 x;have hx2:x<4294967296^(Ao x).length:=A1.1 (Nat.le_refl _);generalize ha:Ao x=a at *;have dm:d % 18446744073709551616=d:=by omega
 (repeat refine AW.seq ?_);refine AW.rg ?_;simp[-Int.natCast_emod,Ak];(repeat refine AW.seq ?_);refine AW.rg ?_;simp[-Int.natCast_mul,-Int.natCast_emod];refine⟨by omega,Af.intro fun bl _=>?_⟩;simp only[C4];(repeat refine AW.seq ?_);refine AW.rg ?_;simp[-Int.natCast_emod];refine AW.seq_ex (ι:=List Nat) (fun o=>[(6,.osl bl 1 0 o.length),(7,.int .u64 ((x % d:Nat):Int))]) (fun o=>Ac.emp.set bl ⟨124,1,Bk o⟩) (fun o=>Lb o∧val o=x / d∧o.length<2^41) ?_ ?_
 ·(repeat refine AW.seq ?_);refine AW.rg ?_;simp[-Int.natCast_emod];refine AW.block (AW.loopS (ι:=Nat × List Nat) (fun z=>[(0,Am a),(1,.int .u32 (d:Nat)),(6,.osl bl 1 0 a.length),(7,.int .u64 ((x / 4294967296^(a.length-z.1) % d:Nat):Int)),(15,.int .i64 a.length),(16,.int .i64 (z.1:Nat))]) (fun z=>Ac.emp.set bl ⟨124,1,Bk z.2⟩)
   (fun z=>z.1≤a.length∧Lb z.2∧z.2.length=a.length∧val (z.2.drop (a.length-z.1))=x / 4294967296^(a.length-z.1) / d) (fun z=>a.length-z.1) (0,List.replicate a.length 0) ⟨by simp,Lb.rep _,by simp,?_⟩ rfl ?_ ?_)
  ·simp only[Nat.sub_zero];rw[List.drop_eq_nil_of_le (by simp),Nat.div_eq_of_lt hx2];simp[val]
  ·simp[Nat.div_eq_of_lt hx2]
  rintro⟨k,o⟩ ⟨h1,h3,h4,h5⟩;simp only at h1 h3 h4 h5;simp only;(repeat refine AW.seq ?_);refine AW.rg ?_;simp[-Int.natCast_ediv,-Int.natCast_emod,-Int.natCast_pow];(repeat refine AW.seq ?_);refine AW.cs (fun hk=>?_) (fun hk=>?_) rfl<;>simp at hk
  ·obtain⟨i,hi⟩:∃i,a.length-k=i+1:=⟨a.length-k-1,by omega⟩;have hi2:a.length-(k+1)=i:=by omega
   have hw:IntKind.i64.wrap ((a.length:Int)-1)=((a.length-1:Nat):Int):=by rw[Ok (by omega)];omega
   have hw2:IntKind.i64.wrap (((a.length-1:Nat):Int)-(k:Int))=(i:Int):=by rw[Ok (by omega)];omega
   have hw3:=Ap (k+1) (by omega);have i1:i<a.length:=by omega
   rw[hi]at h5 ⊢;obtain⟨st1,st2⟩:=Tu x d i hd;have qn:=hnth i;have ql:=hb.nth i;rw[←qn]at st1 st2;have qr:x / 4294967296^(i+1) % d<d:=Nat.mod_lt _ (by omega);generalize x / 4294967296^(i+1) % d=r at *;have m1:r*4294967296 % 18446744073709551616=r*4294967296:=by omega
   have m2:nth a i % 18446744073709551616=nth a i:=by omega
   have m3:Gx .or .u64 ((r*4294967296:Nat):Int) (nth a i:Int)=((r*4294967296+nth a i:Nat):Int):=by
    rw[Yi (by omega) (by omega),Yq ql]
   have m4:(r*4294967296+nth a i) / d<4294967296:=by
    refine Nat.div_lt_of_lt_mul ?_;have:(r+1)*4294967296≤d*4294967296:=Nat.mul_le_mul_right _ qr;omega
   have m5:(r*4294967296+nth a i) / d % 18446744073709551616=(r*4294967296+nth a i) / d:=Nat.mod_eq_of_lt (Nat.lt_of_lt_of_le m4 (by omega));have m6:(r*4294967296+nth a i) / d % 4294967296=(r*4294967296+nth a i) / d:=Nat.mod_eq_of_lt m4;refine AW.skip ?_;try simp[-Int.natCast_ediv,-Int.natCast_emod,-Int.natCast_pow]
   (repeat refine AW.seq ?_);refine AW.block ?_;(repeat refine AW.seq ?_);refine AW.rg ?_;simp[-Int.natCast_ediv,-Int.natCast_emod,-Int.natCast_pow];(repeat refine AW.seq ?_);refine AW.rg ?_;simp[-Int.natCast_ediv,-Int.natCast_emod,-Int.natCast_pow,hw,hw2];(repeat refine AW.seq ?_);refine AW.rg ?_;simp[-Int.natCast_add,-Int.natCast_mul,-Int.natCast_ediv,-Int.natCast_emod,-Int.natCast_pow,i1,m1,m2,m3];(repeat refine AW.seq ?_);refine AW.rg ?_;simp[-Int.natCast_ediv,-Int.natCast_emod,-Int.natCast_pow,-Int.natCast_add,-Int.natCast_mul,i1,h4,dm,hd,m5,m6];(repeat refine AW.seq ?_)
   refine AW.rg ?_;simp[-Int.natCast_emod,-Int.natCast_add,-Int.natCast_ediv,-Int.natCast_mul,dm,hd];(repeat refine AW.seq ?_);refine AW.rg ?_;simp[-Int.natCast_ediv,-Int.natCast_add,-Int.natCast_emod,-Int.natCast_mul,hw3];refine⟨k+1,_,⟨by omega,h3.set i _ m4,by simpa using h4,?_⟩,by omega,rfl,?_,rfl⟩
   ·rw[hi2,Oz _ (by omega),h5,st1]
   ·rw[hi2,st2]
  ·refine AW.exit ?_;try simp[-Int.natCast_ediv,-Int.natCast_emod,-Int.natCast_pow]
   have:a.length-k=0:=by omega
   rw[this]at h5 ⊢;simp at h5 ⊢;exact⟨o,⟨h3,h5,by omega⟩,rfl,h4.symm⟩
 ·rintro o ⟨h1,h2,h3⟩;refine AW.toEmp [(6,Am o),(7,.int .u64 ((x % d:Nat):Int))] (by simp[-Int.natCast_emod];exact C9 (e:=124) (by simp)) ?_;(repeat refine AW.seq ?_);refine AW.rg ?_;simp[-Int.natCast_emod];refine Aa.val (Cv o (by omega)) ?_;rw[Cc h1,h2];have:x % d<d:=Nat.mod_lt _ (by omega);have m:x % d % 4294967296=x % d:=by omega
  simp[-Int.natCast_emod,m];exact AW.ret (Ah [Am (Ao (x / d)),.int .u32 ((x % d:Nat):Int)] rfl (by simp[-Int.natCast_emod]) ⟨rfl,rfl⟩)
end Go.Av
end
section
namespace Go.Av
open Go.Proofs
theorem Quo {r d l:Nat} (h1:r<d) (h2:d<4294967296) (h3:l<4294967296):r*4294967296+l<18446744073709551616:=by omega
theorem Qyr {q:Nat} (h:q<4294967296):q % 18446744073709551616=q:=by omega
theorem Qdf (x d:Nat) (hd:d≠0) (hd2:d<4294967296) (lx:(Ao x).length<2^39):Aj Tryz.prog 207 [Am (Ao x),.int .u32 (d:Nat)] Ac.emp fun v m=>v=.tup [Am (Ao (x / d)),.int .u32 ((x % d:Nat):Int)]∧m=Ac.emp:=by
 refine Ad Tryz.func207 rfl rfl 43 rfl (Nat.le_of_ble_eq_true rfl) ?_;have hx:=Ax x;have hb:=A6 x;have hnth:=E9 x;have hx2:x<4294967296^(Ao x).length:=A1.1 (Nat.le_refl _);generalize ha:Ao x=a at *;have dm:d % 18446744073709551616=d:=by omega
 have hw0:IntKind.i64.wrap ((a.length:Int)-1)=(a.length:Int)-1:=by rw[Ok (by omega)]
 (repeat refine AW.seq ?_);refine AW.rg ?_;simp[-Int.natCast_emod,Ak];(repeat refine AW.seq ?_);refine AW.rg ?_;simp[-Int.natCast_mul,-Int.natCast_emod];refine⟨by omega,Af.intro fun bl _=>?_⟩;simp only[C4];(repeat refine AW.seq ?_);refine AW.rg ?_;simp[-Int.natCast_emod];refine AW.seq_ex (ι:=List Nat) (fun o=>[(6,.osl bl 1 0 o.length),(7,.int .u64 ((x % d:Nat):Int))]) (fun o=>Ac.emp.set bl ⟨124,1,Bk o⟩) (fun o=>Lb o∧val o=x / d∧o.length<2^41) ?_ ?_
 ·(repeat refine AW.seq ?_);refine AW.rg ?_;simp[-Int.natCast_emod,hw0];refine AW.block (AW.loopS (ι:=Nat × List Nat) (fun z=>[(0,Am a),(1,.int .u32 (d:Nat)),(6,.osl bl 1 0 a.length),(7,.int .u64 ((x / 4294967296^z.1 % d:Nat):Int)),(8,.int .i64 ((z.1:Int)-1))]) (fun z=>Ac.emp.set bl ⟨124,1,Bk z.2⟩)
   (fun z=>z.1≤a.length∧Lb z.2∧z.2.length=a.length∧val (z.2.drop z.1)=x / 4294967296^z.1 / d) (fun z=>z.1) (a.length,List.replicate a.length 0) ⟨by simp,Lb.rep _,by simp,?_⟩ rfl ?_ ?_)
  ·simp only[];rw[List.drop_eq_nil_of_le (by simp),Nat.div_eq_of_lt hx2];simp[val]
  ·simp[Nat.div_eq_of_lt hx2]
  rintro⟨k,o⟩ ⟨h1,h3,h4,h5⟩;simp only at h1 h3 h4 h5;simp only;rcases Nat.eq_zero_or_pos k with rfl|hk
  ·(repeat refine AW.seq ?_);refine AW.rg ?_;simp[-Int.natCast_emod];refine AW.no ?_ rfl;refine AW.exit ?_;try simp[-Int.natCast_emod]
   simp at h5;exact⟨o,⟨h3,h5,by omega⟩,rfl,h4.symm⟩
  ·obtain⟨i,rfl⟩:∃i,k=i+1:=⟨k-1,by omega⟩;have ei:((i+1:Nat):Int)-1=(i:Int):=by omega
   rw[ei];have hw2:IntKind.i64.wrap ((i:Int)-1)=(i:Int)-1:=by rw[Ok (by omega)]
   have i1:i<a.length:=by omega
   obtain⟨st1,st2⟩:=Tu x d i hd;have qn:=hnth i;have ql:=hb.nth i;rw[←qn]at st1 st2;have qr:x / 4294967296^(i+1) % d<d:=Nat.mod_lt _ (by omega);generalize x / 4294967296^(i+1) % d=r at *;have m1:r*4294967296 % 18446744073709551616=r*4294967296:=by omega
   have m2:nth a i % 18446744073709551616=nth a i:=by omega
   have m3:(r*4294967296+nth a i) % 18446744073709551616=r*4294967296+nth a i:=Nat.mod_eq_of_lt (Quo qr hd2 ql);have m4:(r*4294967296+nth a i) / d<4294967296:=by
    refine Nat.div_lt_of_lt_mul ?_;have:(r+1)*4294967296≤d*4294967296:=Nat.mul_le_mul_right _ qr;omega
   have m5:(r*4294967296+nth a i) / d % 18446744073709551616=(r*4294967296+nth a i) / d:=Qyr m4;have m6:(r*4294967296+nth a i) / d % 4294967296=(r*4294967296+nth a i) / d:=Nat.mod_eq_of_lt m4;(repeat refine AW.seq ?_);refine AW.rg ?_;simp[-Int.natCast_ediv,-Int.natCast_emod,-Int.natCast_pow];refine AW.yes ?_ rfl;refine AW.skip ?_;try simp[-Int.natCast_ediv,-Int.natCast_emod,-Int.natCast_pow]
   (repeat refine AW.seq ?_);refine AW.block ?_;(repeat refine AW.seq ?_);refine AW.rg ?_;simp[-Int.natCast_add,-Int.natCast_mul,-Int.natCast_ediv,-Int.natCast_emod,-Int.natCast_pow,i1,m1,m2,m3];(repeat refine AW.seq ?_);refine AW.rg ?_;simp[-Int.natCast_ediv,-Int.natCast_emod,-Int.natCast_pow,-Int.natCast_add,-Int.natCast_mul,i1,h4,dm,hd,m5,m6];(repeat refine AW.seq ?_);refine AW.rg ?_;simp[-Int.natCast_emod,-Int.natCast_add,-Int.natCast_ediv,-Int.natCast_mul,dm,hd];(repeat refine AW.seq ?_);refine AW.rg ?_;simp[-Int.natCast_ediv,-Int.natCast_add,-Int.natCast_emod,-Int.natCast_mul,hw2]
   refine⟨i,_,⟨by omega,h3.set i _ m4,by simpa using h4,?_⟩,by omega,rfl,?_,rfl⟩
   ·rw[Oz _ (by omega),h5,st1]
   ·rw[st2]
 ·rintro o ⟨h1,h2,h3⟩;refine AW.toEmp [(6,Am o),(7,.int .u64 ((x % d:Nat):Int))] (by simp[-Int.natCast_emod];exact C9 (e:=124) (by simp)) ?_;(repeat refine AW.seq ?_);refine AW.rg ?_;simp[-Int.natCast_emod];refine Aa.val (Dt o (by omega)) ?_;rw[Cc h1,h2];have:x % d<d:=Nat.mod_lt _ (by omega);have m:x % d % 4294967296=x % d:=by omega
  simp[-Int.natCast_emod,m];exact AW.ret (Ah [Am (Ao (x / d)),.int .u32 ((x % d:Nat):Int)] rfl (by simp[-Int.natCast_emod]) ⟨rfl,rfl⟩)
theorem Wm (x:Nat) (hx:x<18446744073709551616):Aj Tryz.prog 123 [Am (Ao x)] Ac.emp fun v m=>v=.int .u64 (x:Nat)∧m=Ac.emp:=by
 refine Ad Tryz.func123 rfl rfl 22 rfl (Nat.le_of_ble_eq_true rfl) ?_;have lx:(Ao x).length≤2:=A1.2 (by omega);have hnth:=E9 x;have hb:=A6 x;have h2:=Ax x;generalize ha:Ao x=a at *;(repeat refine AW.seq ?_);refine AW.rg ?_;simp[Ak];(repeat refine AW.seq ?_);refine AW.rg ?_;simp;refine AW.seq_has [(3,.int .u64 (x:Nat))] Ac.emp ?_ ?_
 ·(repeat refine AW.seq ?_);refine AW.rg ?_;simp;refine AW.block (AW.loopS (ι:=Nat) (fun k=>[(0,Am a),(3,.int .u64 ((val (a.take k):Nat):Int)),(6,.int .i64 a.length),(7,.int .i64 (k:Nat))]) (fun _=>Ac.emp) (fun k=>k≤a.length) (fun k=>a.length-k) 0 (by simp) rfl (by simp[val]) ?_);rintro k h1;(repeat refine AW.seq ?_);refine AW.rg ?_;simp;(repeat refine AW.seq ?_);refine AW.cs (fun hk=>?_) (fun hk=>?_) rfl<;>simp at hk
  ·have hw1:=Ap (32*k) (by omega);have hw2:=Ap (k+1) (by omega);have q:=hb.nth k;have m1:nth a k % 18446744073709551616=nth a k:=by omega
   have m0:min (32*k) 64=32*k:=by omega
   have v1:=I8 hb k;have v2:=Aw a k;have hp:2^(32*k)=4294967296^k:=(Hn k).symm;have m2:nth a k*2^(32*k) % 18446744073709551616=nth a k*2^(32*k):=by
    rcases(show k=0∨k=1 by omega)with rfl|rfl
    ·simp;omega
    ·simp;omega
   have m3:Gx .or .u64 ((val (a.take k):Nat):Int) ((nth a k*2^(32*k):Nat):Int)=((val (a.take (k+1)):Nat):Int):=by
    have l1:val (a.take k)<18446744073709551616:=by
     rcases(show k=0∨k=1 by omega)with rfl|rfl
     ·simp[val]
     ·simp at v1;omega
    have l2:nth a k*2^(32*k)<18446744073709551616:=by
     rw[←m2];exact Nat.mod_lt _ (by omega)
    rw[Yi l1 l2,v2,←hp];have:=Nat.two_pow_add_eq_or_of_lt (i:=32*k) (b:=val (a.take k)) (by rw[hp];exact v1) (nth a k);rw[Nat.mul_comm (nth a k),Nat.or_comm,←this,Nat.add_comm]
   refine AW.skip ?_;try simp
   (repeat refine AW.seq ?_);refine AW.block ?_;(repeat refine AW.seq ?_);refine AW.rg ?_;simp;(repeat refine AW.seq ?_);refine AW.rg ?_;simp[-Int.natCast_mul,hk,m1,hw1,m0,m2,m3];(repeat refine AW.seq ?_);refine AW.rg ?_;simp[-Int.natCast_add,-Int.natCast_mul,-Int.natCast_pow,hw2];exact⟨k+1,by omega,by omega,rfl,rfl⟩
  ·refine AW.exit ?_;try simp
   rw[Aq a k (by omega),h2]
 ·(repeat refine AW.seq ?_);refine AW.rg ?_;simp;exact AW.ret (Ag rfl _ (.same _) ⟨by simp,rfl⟩)
end Go.Av
end
section
namespace Go.Av
open Go.Proofs
theorem Qnh {a:List Nat} (h:0<a.length):val a=val (a.take (a.length-1))+4294967296^(a.length-1)*nth a (a.length-1):=by
 rw[←Aw,show a.length-1+1=a.length by omega,List.take_length]
theorem Qb6 (x:Nat) (lx:(Ao x).length<2^39):Aj Tryz.prog 208 [Am (Ao x)] Ac.emp fun v m=>(∃n:Nat,n≤32*(Ao x).length∧x<2^n∧v=.int .i64 (n:Nat))∧m=Ac.emp:=by
 refine Ad Tryz.func208 rfl rfl 25 rfl (Nat.le_of_ble_eq_true rfl) ?_;have hx:=Ax x;have hb:=A6 x;generalize ha:Ao x=a at *;(repeat refine AW.seq ?_);refine AW.rg ?_;simp[Ak];(repeat refine AW.seq ?_);refine AW.rg ?_;simp;(repeat refine AW.seq ?_);refine AW.cs (fun h=>?_) (fun h=>?_) rfl<;>simp at h
 ·(repeat refine AW.seq ?_);refine AW.rg ?_;simp;have:x=0:=by rw[←hx,h];rfl
  exact AW.ret (Ah [.int .i64 0] rfl (by simp) ⟨⟨0,by omega,by omega,rfl⟩,rfl⟩)
 ·have hl:0<a.length:=by
   rcases a with _|_
   ·simp at h
   ·simp
  have hw:IntKind.i64.wrap ((a.length:Int)-1)=((a.length-1:Nat):Int):=by rw[Ok (by omega)];omega
  have hw1:=Ap (32*(a.length-1)) (by omega);have hl1:a.length-1<a.length:=by omega
  have ht:=Qnh hl;have q:=hb.nth (a.length-1);have hlow:=I8 hb (a.length-1);refine AW.skip ?_;try simp
  (repeat refine AW.seq ?_);refine AW.rg ?_;simp[-Int.natCast_mul,hw,hw1];refine AW.seq_ex (ι:=Nat) (fun n=>[(3,.int .i64 (n:Nat))]) (fun _=>Ac.emp) (fun n=>n≤32*a.length∧x<2^n) ?_ ?_
  ·(repeat refine AW.seq ?_);refine AW.rg ?_;simp[-Int.natCast_mul,hw,hl1];generalize hT:nth a (a.length-1)=T at *;refine AW.block (AW.loopS (ι:=Nat) (fun j=>[(3,.int .i64 (32*(a.length-1)+j:Nat)),(4,.int .u32 (T / 2^j:Nat))]) (fun _=>Ac.emp) (fun j=>j≤32) (fun j=>32-j) 0 (by simp) rfl (by simp[-Int.natCast_mul]) ?_);rintro j hj;(repeat refine AW.seq ?_);refine AW.rg ?_;simp[-Int.natCast_ediv,-Int.natCast_pow,-Int.natCast_add,-Int.natCast_mul];(repeat refine AW.seq ?_);refine AW.cs (fun h1=>?_) (fun h1=>?_) rfl<;>simp at h1
   ·have hj2:j<32:=by
     rcases Nat.lt_or_ge j 32 with h2|h2
     ·exact h2
     ·have:j=32:=by omega
      subst this;have:=h1.2;omega
    have hw2:=Ap (32*(a.length-1)+j+1) (by omega);have hT2:T / 2^j≤T:=Nat.div_le_self _ _;have m1:T / 2^j / 2 % 4294967296=T / 2^(j+1):=by
     rw[Nat.pow_succ,←Nat.div_div_eq_div_mul];exact Nat.mod_eq_of_lt (Nat.lt_of_le_of_lt (Nat.div_le_self _ _) (by omega))
    refine AW.skip ?_;try simp[-Int.natCast_ediv,-Int.natCast_pow,-Int.natCast_add,-Int.natCast_mul]
    (repeat refine AW.seq ?_);refine AW.block ?_;(repeat refine AW.seq ?_);refine AW.rg ?_;simp[-Int.natCast_ediv,-Int.natCast_pow,-Int.natCast_add,-Int.natCast_mul,hw2];(repeat refine AW.seq ?_);refine AW.rg ?_;simp[-Int.natCast_ediv,-Int.natCast_pow,-Int.natCast_add,-Int.natCast_mul,m1];exact⟨j+1,by omega,by omega,by omega,rfl⟩
   ·refine AW.exit ?_;try simp[-Int.natCast_ediv,-Int.natCast_pow,-Int.natCast_add,-Int.natCast_mul]
    refine⟨by omega,?_⟩;have h2:T<2^j:=by
     rcases Nat.lt_or_ge T (2^j)with h3|h3
     ·exact h3
     ·exact absurd h3 (by have:=h1 (Nat.pow_pos (by omega));omega)
    rw[Nat.pow_add,←Hn,←hx,ht];have h3:4294967296^(a.length-1)*(T+1)≤4294967296^(a.length-1)*2^j:=Nat.mul_le_mul_left _ h2;rw[Nat.mul_add]at h3;omega
  ·rintro n ⟨h1,h2⟩;(repeat refine AW.seq ?_);refine AW.rg ?_;simp;exact AW.ret (U9 [.int .i64 (n:Nat)] rfl (by simp) ⟨⟨n,h1,h2,rfl⟩,rfl⟩)
end Go.Av
end
section
namespace Go.Av
open Go.Proofs
theorem Qac (x c0:Nat) (hc0:c0<2) (lx:(Ao x).length<2^39):Aj Tryz.prog 209 [Am (Ao x),.int .u32 (c0:Nat)] Ac.emp fun v m=>v=Am (Ao (2*x+c0))∧m=Ac.emp:=by
 refine Ad Tryz.func209 rfl rfl 39 rfl (Nat.le_of_ble_eq_true rfl) ?_;have hx:=Ax x;have hb:=A6 x;generalize ha:Ao x=a at *;have hw:=Ap (a.length+1) (by omega);(repeat refine AW.seq ?_);refine AW.rg ?_;simp[Ak];(repeat refine AW.seq ?_);refine AW.rg ?_;simp[-Int.natCast_mul,-Int.natCast_add,hw];refine⟨by omega,Af.intro fun bl _=>?_⟩;simp only[C4];refine AW.seq_ex (ι:=Nat × List Nat) (fun z=>[(0,Am a),(1,.int .u32 (z.1:Nat)),(5,.osl bl 1 0 (a.length+1))]) (fun z=>Ac.emp.set bl ⟨124,1,Bk z.2⟩) (fun z=>z.1<2∧Lb z.2∧z.2.length=a.length+1∧val (z.2.take a.length)+4294967296^a.length*z.1=2*x+c0) ?_ ?_
 ·(repeat refine AW.seq ?_);refine AW.rg ?_;simp[-Int.natCast_add];refine AW.block (AW.loopS (ι:=Nat × Nat × List Nat) (fun z=>[(0,Am a),(1,.int .u32 (z.2.1:Nat)),(5,.osl bl 1 0 (a.length+1)),(6,.int .i64 (z.1:Nat))]) (fun z=>Ac.emp.set bl ⟨124,1,Bk z.2.2⟩)
   (fun z=>z.1≤a.length∧z.2.1<2∧Lb z.2.2∧z.2.2.length=a.length+1∧val (z.2.2.take z.1)+4294967296^z.1*z.2.1=2*val (a.take z.1)+c0) (fun z=>a.length-z.1) (0,c0,List.replicate (a.length+1) 0) ⟨by simp,hc0,Lb.rep _,by simp,by simp[val]⟩ rfl (by simp[-Int.natCast_add]) ?_)
  rintro⟨i,c,o⟩ ⟨h1,h2,h3,h4,h5⟩;simp only at h1 h2 h3 h4 h5;simp only;(repeat refine AW.seq ?_);refine AW.rg ?_;simp;(repeat refine AW.seq ?_);refine AW.cs (fun hi=>?_) (fun hi=>?_) rfl<;>simp at hi
  ·have q:=hb.nth i;have hw2:=Ap (i+1) (by omega);have hi2:i<a.length+1:=by omega
   have m1:(nth a i*2 % 4294967296+c) % 4294967296=(nth a i*2+c) % 4294967296:=by omega
   have m2:nth a i / 2147483648<2:=by omega
   refine AW.skip ?_;try simp
   (repeat refine AW.seq ?_);refine AW.block ?_;(repeat refine AW.seq ?_);refine AW.rg ?_;simp[-Int.natCast_add,-Int.natCast_emod,-Int.natCast_mul,hi,hi2,h4,m1];(repeat refine AW.seq ?_);refine AW.rg ?_;simp[-Int.natCast_add,-Int.natCast_emod,-Int.natCast_mul,hi];have e:Int.fdiv (nth a i:Int) 2147483648=((nth a i / 2147483648:Nat):Int):=by
    rw[Int.fdiv_eq_ediv_of_nonneg _ (by omega)];rfl
   (repeat refine AW.seq ?_);refine AW.rg ?_;simp[-Int.natCast_add,-Int.natCast_ediv,-Int.natCast_emod,-Int.natCast_mul,hw2,e];refine⟨i+1,_,_,⟨by omega,m2,h3.set i _ (Nat.mod_lt (nth a i*2+c) (by omega)),by simpa using h4,?_⟩,by omega,rfl,rfl,rfl⟩;rw[Bj _ _ _ (by omega),Aw,Nat.pow_succ];have s1:nth a i / 2147483648=(nth a i*2+c) / 4294967296:=by omega
   rw[s1];have cs:=Fz (4294967296^i) (nth a i*2+c);have e2:4294967296^i*(nth a i*2+c)=2*(4294967296^i*nth a i)+4294967296^i*c:=by
    rw[Nat.mul_add,←Nat.mul_assoc,Nat.mul_comm (4294967296^i*nth a i) 2]
   rw[e2]at cs;omega
  ·refine AW.exit ?_;try simp
   have:i=a.length:=by omega
   subst this;rw[Aq a _ (by omega),hx]at h5;exact⟨c,o,⟨h2,h3,h4,h5⟩,rfl,rfl⟩
 ·rintro⟨c,o⟩ ⟨h2,h3,h4,h5⟩;simp only at h2 h3 h4 h5;simp only;(repeat refine AW.seq ?_);refine AW.rg ?_;simp[-Int.natCast_add,h4];have hv2:val (o.set a.length c)=2*x+c0:=by
   rw[←Aq (o.set a.length c) (a.length+1) (by simp[h4]),Bj _ _ _ (by omega),h5]
  refine AW.toEmp [(5,Am (o.set a.length c))] ?_ ?_
  ·simp;have:=C9 (m:=Ac.emp.set bl ⟨124,1,Bk (o.set a.length c)⟩) (b:=bl) (e:=124) (l:=o.set a.length c) (by simp);rw[List.length_set,h4]at this;exact this
  (repeat refine AW.seq ?_);refine AW.rg ?_;simp;refine Aa.val (Dt _ (by simp[h4];omega)) ?_;rw[Cc (h3.set _ _ (by omega)),hv2];try simp
  exact AW.ret (Ag rfl _ (.same _) ⟨by simp,rfl⟩)
end Go.Av
end
section
namespace Go.Av
theorem Wq (l:List Nat) (i:Nat) (h:i<l.length):val l=val (l.take i)+4294967296^i*(nth l i+4294967296*val (l.drop (i+1))):=by
 have e:l=l.take i++(nth l i::l.drop (i+1)):=by
  rw[Ye h,←List.drop_eq_getElem_cons h,List.take_append_drop]
 have h2:(l.take i).length=i:=by rw[List.length_take];omega
 calc val l=val (l.take i++(nth l i::l.drop (i+1))):=by rw[←e]
  _=_:=by rw[G3,h2,val]
theorem Zp (l:List Nat) (i z:Nat) (h:i<l.length):val (l.set i (nth l i+z))=val l+4294967296^i*z:=by
 have h1:=Wq l i h;have h2:=Wq (l.set i (nth l i+z)) i (by simpa using h);rw[Nz _ h,List.take_set_of_le (by omega),List.drop_set_of_lt (by omega)]at h2;rw[h2,h1];rw[Nat.mul_add,Nat.mul_add,Nat.mul_add];omega
theorem Qh9 {v i:Nat} (h:2^(i+1) ∣ v):v / 4294967296^(i / 32) % 4294967296+2^(i % 32)<4294967296:=by
 obtain⟨c,rfl⟩:=h;have hr:i % 32<32:=Nat.mod_lt _ (by omega);have e:2^(i+1)=4294967296^(i / 32)*2^(i % 32+1):=by
  rw[Hn,←Nat.pow_add];congr 1;omega
 rw[e,Nat.mul_assoc,Nat.mul_div_cancel_left _ (Nat.pow_pos (by omega))];generalize i % 32=r at *;have e2:(4294967296:Nat)=2^(r+1)*2^(31-r):=by
  rw[←Nat.pow_add,show r+1+(31-r)=32 by omega]
 have e3:2^(r+1)*c % 4294967296=2^(r+1)*(c % 2^(31-r)):=by
  conv=>lhs;rw[e2]
  rw[Nat.mul_mod_mul_left]
 rw[e3];have h1:c % 2^(31-r)+1≤2^(31-r):=Nat.mod_lt _ (Nat.pow_pos (by omega));have h2:2^(r+1)*(c % 2^(31-r)+1)≤2^(r+1)*2^(31-r):=Nat.mul_le_mul_left _ h1;rw[←e2,Nat.mul_add]at h2;have h3:2^r<2^(r+1):=by rw[Nat.pow_succ];have:=Nat.pow_pos (n:=r) (show 0<2 by omega);omega
 omega
theorem Qlp (x y j:Nat) (hy:0<y):x / 2^j=2*(x / 2^(j+1))+x / 2^j % 2:=by
 rw[Nat.pow_succ,←Nat.div_div_eq_div_mul];omega
theorem Ql0 {h y b:Nat} (hy:0<y):(2*h+b) / y=2*(h / y)+(2*(h % y)+b) / y∧(2*h+b) % y=(2*(h % y)+b) % y:=by
 have e:2*h+b=(2*(h % y)+b)+y*(2*(h / y)):=by
  have:=Nat.div_add_mod h y;have e2:y*(2*(h / y))=2*(y*(h / y)):=by ac_rfl
  omega
 rw[e,Nat.add_mul_div_left _ _ hy,Nat.add_mul_mod_self_left];omega
end Go.Av
end
section
namespace Go.Av
open Go.Proofs
theorem Zf (x y:Nat) (hy:y≠0) (lx:(Ao x).length<2^30) (ly:(Ao y).length<2^30):Aj Tryz.prog 197 [Am (Ao x),Am (Ao y)] Ac.emp fun v m=>v=.tup [Am (Ao (x / y)),Am (Ao (x % y))]∧m=Ac.emp:=by
 refine Ad Tryz.func197 rfl rfl 64 rfl (Nat.le_of_ble_eq_true rfl) ?_;have hdy:=E9 y;have hby:=A6 y;have hvy:=Ax y;(repeat refine AW.seq ?_);refine AW.rg ?_;simp[Ak];(repeat refine AW.seq ?_);refine AW.rg ?_;simp;(repeat refine AW.seq ?_);refine AW.cs (fun h=>?_) (fun h=>?_) rfl<;>simp at h
 ·have h0:nth (Ao y) 0=y:=by
   rcases hd:Ao y with _|⟨p,_|⟨q,l⟩⟩
   ·rw[hd]at h;cases h
   ·rw[hd]at hvy;simp[val]at hvy;simp[nth,hvy]
   ·rw[hd]at h;simp at h
  have y1:y<4294967296:=by rw[←h0];exact hby.nth 0
  have hr:x % y<y:=Nat.mod_lt _ (by omega);(repeat refine AW.seq ?_);refine AW.rg ?_;simp[h,h0];refine Aa.val (Qdf x y hy y1 (by omega)) ?_;try simp[-Int.natCast_emod]
  (repeat refine AW.seq ?_);refine AW.rgR [24] ?_;simp[-Int.natCast_emod];refine Aa.val (Dt [x % y] (by simp)) ?_;have e:E0 [x % y]=Ao (x % y):=by
   rw[Cc (fun z hz=>by simp at hz;omega)];simp[val]
  rw[e];try simp[-Int.natCast_emod]
  exact AW.ret (Ah [Am (Ao (x / y)),Am (Ao (x % y))] rfl (by simp[-Int.natCast_emod]) ⟨rfl,rfl⟩)
 ·refine AW.skip ?_;try simp
  (repeat refine AW.seq ?_);refine AW.rg ?_;simp;refine AW.toEmp [(0,Am (Ao x)),(1,Am (Ao y)),(8,Am [])] (by simp) ?_;(repeat refine AW.seq ?_);refine AW.rg ?_;simp[-Int.natCast_mul];refine⟨by omega,Af.intro fun bl _=>?_⟩;simp only[C4];generalize hL:(Ao x).length=L at *;refine AW.seq_ex (ι:=List Nat) (fun o=>[(8,Am (Ao (x % y))),(9,.osl bl 1 0 o.length)]) (fun o=>Ac.emp.set bl ⟨124,1,Bk o⟩) (fun o=>Lb o∧val o=x / y∧o.length<2^41) ?_ ?_
  ·(repeat refine AW.seq ?_);refine AW.rg ?_;simp;refine Aa.pure (Qb6 x (by omega)) ?_;rintro _ ⟨n,n1,n2,rfl⟩;rw[hL]at n1;have hw:IntKind.i64.wrap ((n:Int)-1)=(n:Int)-1:=by rw[Ok (by omega)]
   simp[hw];have hz:x / 2^n=0:=Nat.div_eq_of_lt n2;refine AW.block (AW.loopS (ι:=Nat × List Nat) (fun z=>[(0,Am (Ao x)),(1,Am (Ao y)),(8,Am (Ao (x / 2^z.1 % y))),(9,.osl bl 1 0 L),(10,.int .i64 ((z.1:Int)-1))]) (fun z=>Ac.emp.set bl ⟨124,1,Bk z.2⟩)
    (fun z=>z.1≤32*L∧Lb z.2∧z.2.length=L∧val z.2=x / 2^z.1 / y*2^z.1) (fun z=>z.1) (n,List.replicate L 0) ⟨n1,Lb.rep _,by simp,by simp[hz,J9]⟩ rfl (by simp[hz,Be]) ?_)
   rintro⟨j,o⟩ ⟨h1,h3,h4,h5⟩;simp only at h1 h3 h4 h5;simp only;rcases Nat.eq_zero_or_pos j with rfl|hj
   ·(repeat refine AW.seq ?_);refine AW.rg ?_;simp;refine AW.no ?_ rfl;refine AW.exit ?_;try simp
    simp at h5;exact⟨o,⟨h3,h5,by omega⟩,rfl,h4.symm⟩
   ·obtain⟨i,rfl⟩:∃i,j=i+1:=⟨j-1,by omega⟩;have ei:((i+1:Nat):Int)-1=(i:Int):=by omega
    rw[ei];have hyp:0<y:=by omega
    have hH:=Qlp x y i hyp;obtain⟨d1,d2⟩:=Ql0 (h:=x / 2^(i+1)) (b:=x / 2^i % 2) hyp;rw[←hH]at d1 d2;have hb2:x / 2^i % 2<2:=Nat.mod_lt _ (by omega);have hr1:x / 2^(i+1) % y<y:=Nat.mod_lt _ hyp;have ldig:∀z,z<2*y→(Ao z).length<2^31:=by
     intro z hz2;have q1:y<4294967296^(Ao y).length:=A1.1 (Nat.le_refl _);have q2:(Ao z).length≤(Ao y).length+1:=by
      rw[A1,Nat.pow_succ];omega
     omega
    have hw2:IntKind.i64.wrap ((i:Int)-1)=(i:Int)-1:=by rw[Ok (by omega)]
    generalize hb:x / 2^i % 2=b at *;generalize hr:x / 2^(i+1) % y=r at *;have l1:=ldig r (by omega);have l2:=ldig (2*r+b) (by omega);(repeat refine AW.seq ?_);refine AW.rg ?_;simp;refine AW.yes ?_ rfl;refine AW.skip ?_;try simp
    (repeat refine AW.seq ?_);refine AW.block ?_;have hbit:=Pw x i (by omega) (by omega);rw[hb]at hbit;(repeat refine AW.seq ?_);refine AW.rg ?_;simp;refine Aa.val hbit ?_;try simp
    refine Aa.val (Qac r b hb2 (by omega)) ?_;try simp
    (repeat refine AW.seq ?_);refine AW.rg ?_;simp;refine Aa.val (Ii (2*r+b) y (by omega) (by omega)) ?_;simp[Uu];(repeat refine AW.seq ?_);refine AW.cs (fun hge=>?_) (fun hge=>?_) rfl<;>simp at hge
    ·have e1:(2*r+b) / y=1:=Nat.div_eq_of_lt_le (by omega) (by omega);have e2:(2*r+b) % y=2*r+b-y:=by
      rw[Nat.mod_eq_sub_mod hge,Nat.mod_eq_of_lt (by omega)]
     rw[e1]at d1;rw[e2]at d2;have hq:i / 32<L:=by omega
     have hwq:=Ap (i / 32) (by omega);have hm:min (i % 32) 32=i % 32:=by omega
     have hp2:(2:Int)^(i % 32)=((2^(i % 32):Nat):Int):=by simp[Int.natCast_pow]
     have hroom:nth o (i / 32)+2^(i % 32)<4294967296:=by
      rw[Kt h3];exact Qh9 ⟨_,by rw[h5,Nat.mul_comm]⟩
     have m1:2^(i % 32) % 4294967296=2^(i % 32):=Nat.mod_eq_of_lt (by omega);have m2:(nth o (i / 32)+2^(i % 32)) % 4294967296=nth o (i / 32)+2^(i % 32):=Nat.mod_eq_of_lt hroom;(repeat refine AW.seq ?_);refine AW.rg ?_;simp;refine Aa.val (F2 (2*r+b) y hge (by omega)) ?_;try simp
     (repeat refine AW.seq ?_);refine AW.rdA bl [0,1,2,3,4,5,6,7,8,9,10,11,12,13] Ds (by simp) ?_;simp[-Int.natCast_add,-Int.natCast_pow,-Int.natCast_emod,-Int.natCast_ediv,hq,hwq,hm,hp2,m1,m2,h4];(repeat refine AW.seq ?_);refine AW.rg ?_;simp[-Int.natCast_ediv,-Int.natCast_add,-Int.natCast_emod,-Int.natCast_pow,hw2];refine⟨i,_,⟨by omega,h3.set _ _ hroom,by simpa using h4,?_⟩,by omega,rfl,by rw[d2],rfl⟩;generalize x / 2^(i+1) / y=Q at *;rw[Zp _ _ _ (by omega),h5,d1,Nat.add_mul,Hn,←Nat.pow_add,Nat.div_add_mod,Nat.pow_succ];have:2*Q*2^i=Q*(2^i*2):=by ac_rfl
     omega
    ·have e1:(2*r+b) / y=0:=Nat.div_eq_of_lt (by omega);have e2:(2*r+b) % y=2*r+b:=Nat.mod_eq_of_lt (by omega);rw[e1]at d1;rw[e2]at d2;refine AW.skip ?_;try simp
     (repeat refine AW.seq ?_);refine AW.rg ?_;simp[hw2];refine⟨i,_,⟨by omega,h3,h4,?_⟩,by omega,rfl,by rw[d2],rfl⟩;generalize x / 2^(i+1) / y=Q at *;rw[h5,d1,Nat.pow_succ,Nat.add_zero]
     ac_rfl
  ·rintro o ⟨h1,h2,h3⟩;refine AW.toEmp [(8,Am (Ao (x % y))),(9,Am o)] (by simp;exact C9 (e:=124) (by simp)) ?_;(repeat refine AW.seq ?_);refine AW.rg ?_;simp;refine Aa.val (Dt o (by omega)) ?_;rw[Cc h1,h2];try simp
   exact AW.ret (Ah [Am (Ao (x / y)),Am (Ao (x % y))] rfl (by simp) ⟨rfl,rfl⟩)
end Go.Av
end
section
namespace Go.Av
theorem Qjd {B q v1 v2 r top u2 P vl ul V U:Nat} (hV:V=(v1*B+v2)*P+vl) (hU:U=(top*B+u2)*P+ul) (hul:ul<P)
  (hq:q*v1+r=top) (hc:r*B+u2<q*v2):U<q*V:=by
 have h1:top*B+u2<q*(v1*B+v2):=by
  rw[←hq,Nat.mul_add,←Nat.mul_assoc,Nat.add_mul];omega
 have h2:(top*B+u2+1)*P≤q*(v1*B+v2)*P:=Nat.mul_le_mul_right _ (Nat.succ_le_of_lt h1);have h3:q*V=q*(v1*B+v2)*P+q*vl:=by rw[hV,Nat.mul_add,Nat.mul_assoc]
 rw[Nat.add_mul,Nat.one_mul]at h2;omega
theorem Qf4 {B q v1 v2 r top u2 P vl ul V U:Nat} (hV:V=(v1*B+v2)*P+vl) (hU:U=(top*B+u2)*P+ul) (hvl:vl<P) (h1:1≤v1)
  (hq:q*v1+r=top) (hb:q<B) (hc:q*v2≤r*B+u2):q*V<U+V:=by
 have g1:q*(v1*B+v2)≤top*B+u2:=by
  rw[←hq,Nat.mul_add,←Nat.mul_assoc,Nat.add_mul];omega
 have g2:q*(v1*B+v2)*P≤(top*B+u2)*P:=Nat.mul_le_mul_right _ g1;have g3:q*V=q*(v1*B+v2)*P+q*vl:=by rw[hV,Nat.mul_add,Nat.mul_assoc]
 have g4:1*B*P≤(v1*B+v2)*P:=Nat.mul_le_mul_right _ (Nat.le_trans (Nat.mul_le_mul_right B h1) (Nat.le_add_right _ _));rw[Nat.one_mul]at g4;have g5:q*vl≤q*P:=Nat.mul_le_mul_left _ (by omega);have g6:(q+1)*P≤B*P:=Nat.mul_le_mul_right _ (Nat.succ_le_of_lt hb);rw[Nat.add_mul,Nat.one_mul]at g6;have g7:0<P:=by omega
 omega
theorem Qh6 {B q v1 v2 r top u2:Nat} (hq:q*v1+r=top) (ht:top<v1*B+B) (hr:B≤r) (h2:v2<B):q<B∧q*v2≤r*B+u2:=by
 have h3:q*v1<B*v1:=by
  rw[Nat.mul_comm B];omega
 have h4:q<B:=Nat.lt_of_mul_lt_mul_right h3;refine⟨h4,?_⟩;have h5:q*v2≤B*B:=Nat.mul_le_mul (by omega) (by omega);have h6:B*B≤r*B:=Nat.mul_le_mul_right _ hr;omega
theorem Qh (V k:Nat):V / 4294967296^k=V / 4294967296^(k+1)*4294967296+V / 4294967296^k % 4294967296:=by
 rw[Nat.pow_succ,←Nat.div_div_eq_div_mul];omega
theorem Mo (V k:Nat):V=V / 4294967296^k*4294967296^k+V % 4294967296^k:=by
 rw[Nat.mul_comm];exact(Nat.div_add_mod V _).symm
theorem Pe {X k:Nat} (h:X<4294967296^(k+1)):X / 4294967296^k % 4294967296=X / 4294967296^k:=by
 refine Nat.mod_eq_of_lt (Nat.div_lt_of_lt_mul ?_);rw[←Nat.pow_succ];exact h
theorem Ia (l:List Nat) (i x:Nat) (h:i<l.length):val (l.set i x)+4294967296^i*nth l i=val l+4294967296^i*x:=by
 induction l generalizing i with
 |nil=>simp at h
 |cons a l ih =>
  cases i with
  |zero=>simp[val,nth];omega
  |succ i =>
   have h':i<l.length:=by simpa using h
   have h2:=ih i h';have e1:nth (a::l) (i+1)=nth l i:=rfl;rw[List.set_cons_succ,val,val,e1,Nat.pow_succ,Nat.mul_comm (4294967296^i) 4294967296,Nat.mul_assoc,Nat.mul_assoc];generalize 4294967296^i*nth l i=p at *;generalize 4294967296^i*x=r at *;omega
theorem Qfl {U V q:Nat} (h1:q*V≤U) (h2:U<(q+1)*V):U / V=q:=Nat.div_eq_of_lt_le h1 h2
end Go.Av
end
section
namespace Go.Av
open Go.Proofs
@[simp] theorem ti9:Ai Tryz.prog 9=some {size:=1,bytes:=16,cls:=.str,zero:=.str ⟨#[]⟩,fields:=[]}:=by kernel_rfl
def Qa6 (P:Program) (t:TypeId) (b:ByteArray) (v:AV) (k:AV→Prop):Prop:=D0 ((Ai P t).bind fun ti=>Mk ti (.str b) v) k
@[congr] theorem Qqu {P:Program} {t:TypeId} {b:ByteArray} {v v':AV} {k:AV→Prop} (h:v=v'):Qa6 P t b v k=Qa6 P t b v' k:=by rw[h]
@[simp high] theorem Qtn (P:Program) (cf:D7) (K:St→Prop) (s:St) (d:Option Tmp) (ty:TypeId) (p:String) (a:Array Edge) (g:Option (Nat × Bool)) (t:TypeId) (b:ByteArray) (i:Operand) :
  E5 P cf ⟨d,.index t (.const (.string b)) i,ty,p,a,g⟩ K s↔Qa6 P t b (s.ev i) (Fp K s d):=Iff.rfl
def Qpd (b:ByteArray):Bool:=b.size==256&&(List.range 256).all fun i=>Nat.ble (b.get! i).toNat 8&&Nat.blt i (2^(b.get! i).toNat)
theorem Xp {b:ByteArray} (hb:Qpd b=true) {n:Nat} (hn:n<256) {k:AV→Prop} (hk:∀y:Nat,y≤8→n<2^y→k (.int .u8 (y:Nat))):Qa6 Tryz.prog 9 b (.int .u8 (n:Nat)) k:=by
 unfold Qpd at hb;simp only[Bool.and_eq_true,List.all_eq_true,List.mem_range,beq_iff_eq]at hb;obtain⟨h1,h2⟩:=hb;have h3:=h2 n hn;rw[Nat.ble_eq,Nat.blt_eq]at h3;have hs:n<b.size:=by omega
 have e:b.get! n=b[n]:=by
  cases b with | mk d =>
  have hs':n<d.size:=hs;simp[ByteArray.get!,ByteArray.getElem_eq_getElem_data,hs']
 rw[e]at h3;unfold Qa6;simp only[ti9,Option.bind_some,Mk];rw[dif_pos ⟨by omega,by simpa using hs⟩];exact⟨_,rfl,hk _ h3.1 h3.2⟩
theorem Qa4 (a n:Nat) (h:0<n):Int.fdiv (a:Int) (n:Int)=((a / n:Nat):Int):=by
 rw[Int.fdiv_eq_ediv_of_nonneg _ (by omega)];rfl
@[simp] theorem Qp5 (a:Nat):Int.fdiv (a:Int) 65536=((a / 65536:Nat):Int):=Qa4 a 65536 (by omega)
@[simp] theorem Qrn (a:Nat):Int.fdiv (a:Int) 256=((a / 256:Nat):Int):=Qa4 a 256 (by omega)
@[simp] theorem Qr0 (a:Nat):(a:Int)+8=((a+8:Nat):Int):=by omega
@[simp] theorem Qz7 (x:Int):IntKind.u8.wrap x=x % 256:=by simp[IntKind.wrap,IntKind.bits,IntKind.signed]
@[simp] theorem Qnu (a:Nat):(a:Int) % 256=((a % 256:Nat):Int):=rfl
set_option maxRecDepth 100000 in
theorem Qdv (x:Nat) (hx:x<4294967296):Aj Tryz.prog 134 [.int .u32 x] Ac.emp fun v m=>(∃y:Nat,y≤32∧x<2^y∧v=.int .i64 y)∧m=Ac.emp:=by
 refine Ad Tryz.func134 rfl rfl 19 rfl (Nat.le_of_ble_eq_true rfl) ?_;(repeat refine AW.seq_k fun K hK=>?_);refine AW.rg ?_;simp[Ak];try (refine hK _ rfl ?_;clear hK K)
 refine AW.seq_ex (ι:=Nat) (fun y=>[(0,.int .u32 (x / 2^y:Nat)),(2,.int .i64 (y:Nat))]) (fun _=>Ac.emp) (fun y=>y≤16∧x / 2^y<65536) ?_ ?_
 ·(repeat refine AW.seq_k fun K hK=>?_);refine AW.rg ?_;simp[-Int.natCast_ediv,-Int.natCast_pow];try (refine hK _ rfl ?_;clear hK K)
  (repeat refine AW.seq ?_);refine AW.cs (fun h=>?_) (fun h=>?_) rfl<;>simp at h
  ·(repeat refine AW.seq_k fun K hK=>?_);refine AW.rg ?_;simp[-Int.natCast_ediv,-Int.natCast_pow];try (refine hK _ rfl ?_;clear hK K)
   (repeat refine AW.seq_k fun K hK=>?_);refine AW.rg ?_;simp[-Int.natCast_ediv,-Int.natCast_pow];try (refine hK _ rfl ?_;clear hK K)
   exact⟨16,⟨by omega,by omega⟩,rfl,rfl⟩
  ·refine AW.skip ?_;try simp[-Int.natCast_ediv,-Int.natCast_pow]
   exact⟨0,⟨by omega,by omega⟩,by simp,by simp⟩
 rintro y ⟨h1,h2⟩;generalize hz:x / 2^y=z at *;refine AW.seq_ex (ι:=Nat) (fun y=>[(0,.int .u32 (x / 2^y:Nat)),(2,.int .i64 (y:Nat))]) (fun _=>Ac.emp) (fun y=>y≤24∧x / 2^y<256) ?_ ?_
 ·(repeat refine AW.seq_k fun K hK=>?_);refine AW.rg ?_;simp[-Int.natCast_ediv,-Int.natCast_pow];try (refine hK _ rfl ?_;clear hK K)
  (repeat refine AW.seq ?_);refine AW.cs (fun h=>?_) (fun h=>?_) rfl<;>simp at h
  ·(repeat refine AW.seq_k fun K hK=>?_);refine AW.rg ?_;simp[-Int.natCast_ediv,-Int.natCast_pow];try (refine hK _ rfl ?_;clear hK K)
   have e:x / 2^(y+8)=z / 256:=by rw[←hz,Nat.pow_add,Nat.div_div_eq_div_mul]
   have hw:=Ap (y+8) (by omega);(repeat refine AW.seq_k fun K hK=>?_);refine AW.rg ?_;simp[-Int.natCast_add,-Int.natCast_ediv,-Int.natCast_pow,hw];try (refine hK _ rfl ?_;clear hK K)
   exact⟨⟨by omega,by omega⟩,e.symm⟩
  ·refine AW.skip ⟨y,⟨by omega,by omega⟩,rfl,rfl,by simp[hz]⟩
 clear hz h2 h1;clear z y;rintro y ⟨h1,h2⟩;generalize hz:x / 2^y=z at *;have hm:z % 256=z:=Nat.mod_eq_of_lt h2;(repeat refine AW.seq_k fun K hK=>?_);refine AW.rg ?_;simp[hm];try (refine hK _ rfl ?_;clear hK K)
 refine Xp (by kernel_rfl) h2 fun t t1 t2=>?_;have hw:=Ap (y+t) (by omega);have hw2:=Ap (t) (by omega);simp[-Int.natCast_add,hw,hw2];refine hK _ rfl ?_;refine AW.ret (Ag rfl _ (.same _) ⟨⟨y+t,by omega,?_,rfl⟩,rfl⟩);rw[Nat.pow_add];rw[←hz]at t2;rw[Nat.mul_comm];exact(Nat.div_lt_iff_lt_mul (Nat.pow_pos (by omega))).1 t2
theorem Qou (x:Nat) (hx:x<4294967296):Aj Tryz.prog 166 [.int .u32 x] Ac.emp fun v m=>(∃s:Nat,s≤32∧x*2^s<4294967296∧(0<x→s<32)∧v=.int .i64 s)∧m=Ac.emp:=by
 refine Ad Tryz.func166 rfl rfl 6 rfl (Nat.le_of_ble_eq_true rfl) ?_;(repeat refine AW.seq_k fun K hK=>?_);refine AW.rg ?_;simp[Ak];try (refine hK _ rfl ?_;clear hK K)
 (repeat refine AW.seq_k fun K hK=>?_);refine AW.rg ?_;simp;try (refine hK _ rfl ?_;clear hK K)
 refine Aa.pure (Qdv x hx) ?_;rintro _ ⟨y,y1,y2,rfl⟩;have hw:IntKind.i64.wrap (32-(y:Int))=((32-y:Nat):Int):=by rw[Ok (by omega)];omega
 simp[hw];refine hK _ rfl ?_;clear hK K;refine AW.ret (Ag rfl _ (.same _) ⟨⟨32-y,by omega,?_,?_,rfl⟩,rfl⟩)
 ·calc x*2^(32-y)<2^y*2^(32-y):=Nat.mul_lt_mul_of_pos_right y2 (Nat.pow_pos (by omega))
   _=4294967296:=by rw[←Nat.pow_add,show y+(32-y)=32 by omega]
 ·intro h;have:y≠0:=by rintro rfl;omega
  omega
end Go.Av
end
section
namespace Go.Av
open Go.Proofs
theorem Qky {a b:Nat} (ha:a<4294967296) (hb:b<4294967296):Gx .or .u64 ((a*4294967296:Nat):Int) (b:Int)=((a*4294967296+b:Nat):Int):=by
 rw[Yi (by omega) (by omega),Yq hb]
theorem Qf9 {a:Nat} (ha:a<4294967296):a*4294967296 % 18446744073709551616=a*4294967296:=by omega
theorem Qui {a b:Nat} (ha:a<4294967296) (hb:b<4294967296):a*4294967296+b<18446744073709551616:=by omega
theorem Wb {a:Nat} (ha:a<4294967296):a % 18446744073709551616=a:=by omega
theorem Qrg {a b:Nat} (ha:a<4294967296) (hb:b<4294967296):(a+b) % 18446744073709551616=a+b:=by omega
theorem Qp1 {a b:Nat} (ha:a<4294967296) (hb:b<4294967296):a*b % 18446744073709551616=a*b:=by
 refine Nat.mod_eq_of_lt ?_
 calc a*b≤4294967296*b:=Nat.mul_le_mul_right _ (by omega)
  _<18446744073709551616:=by omega
theorem Qdr {u v:List Nat} {j n:Nat} (hbu:Lb u) (hbv:Lb v) (hn:v.length=n+2) (hv1:nth v (n+1)≠0) (hlt:val u<val v*4294967296^(j+1)) :
  ∃P vl ul:Nat,val v=(nth v (n+1)*4294967296+nth v n)*P+vl∧val u / 4294967296^j=((nth u (j+(n+2))*4294967296+nth u (j+(n+1)))*4294967296+nth u (j+n))*P+ul∧vl<P∧ul<P ∧
   nth u (j+(n+2))*4294967296+nth u (j+(n+1))<nth v (n+1)*4294967296+4294967296∧val u / 4294967296^j<val v*4294967296 ∧
   val u / 4294967296^j<((nth u (j+(n+2))*4294967296+nth u (j+(n+1))) / nth v (n+1)+1)*val v:=by
 have hV:val v<4294967296^(n+2):=by rw[←hn];exact Kq hbv
 have e1:nth v (n+1)=val v / 4294967296^(n+1):=by rw[Kt hbv,Pe hV]
 have e2:val v=(nth v (n+1)*4294967296+nth v n)*4294967296^n+val v % 4294967296^n:=by
  rw[e1,Kt hbv n,←Qh];exact Mo _ _
 have l1:=hbv.nth (n+1);have l2:=hbv.nth n;have hU:val u<4294967296^(j+(n+2)+1):=by
  calc val u<val v*4294967296^(j+1):=hlt
   _≤4294967296^(n+2)*4294967296^(j+1):=Nat.mul_le_mul_right _ (Nat.le_of_lt hV)
   _=4294967296^(j+(n+2)+1):=by rw[←Nat.pow_add];congr 1;omega
 have f0:nth u (j+(n+2))=val u / 4294967296^(j+(n+2)):=by rw[Kt hbu,Pe hU]
 have f1:nth u (j+(n+2))*4294967296+nth u (j+(n+1))=val u / 4294967296^(j+(n+1)):=by
  rw[f0,Kt hbu (j+(n+1)),←Nat.add_assoc j n 2,←Nat.add_assoc j n 1];exact(Qh _ _).symm
 have f2:val u / 4294967296^(j+(n+1))*4294967296+nth u (j+n)=val u / 4294967296^(j+n):=by
  rw[Kt hbu (j+n),←Nat.add_assoc j n 1];exact(Qh _ _).symm
 have dd:∀k,val u / 4294967296^(j+k)=val u / 4294967296^j / 4294967296^k:=fun k=>by rw[Nat.pow_add,Nat.div_div_eq_div_mul]
 have k0:=hbu.nth (j+(n+2));have k1:=hbu.nth (j+(n+1));have k2:=hbu.nth (j+n);have hUV:val u / 4294967296^j<val v*4294967296:=by
  refine Nat.div_lt_of_lt_mul ?_;rw[Nat.pow_succ]at hlt
  calc val u<_:=hlt
   _=_:=by ac_rfl
 generalize hx1:nth v (n+1)=v1 at *;generalize hx2:nth v n=v2 at *;generalize hy0:nth u (j+(n+2))=u0 at *;generalize hy1:nth u (j+(n+1))=u1 at *;generalize hy2:nth u (j+n)=u2 at *;rw[dd]at f1 f2;rw[dd]at f2;generalize hUU:val u / 4294967296^j=U at *;generalize hVV:val v=V at *;have f3:U=((u0*4294967296+u1)*4294967296+u2)*4294967296^n+U % 4294967296^n:=by
  rw[f1,f2];exact Mo _ _
 have f4:U=(u0*4294967296+u1)*4294967296^(n+1)+U % 4294967296^(n+1):=by
  rw[f1];exact Mo _ _
 have f5:V=v1*4294967296^(n+1)+V % 4294967296^(n+1):=by
  rw[e1];exact Mo _ _
 have p1:0<4294967296^n:=Nat.pow_pos (by omega);have p2:0<4294967296^(n+1):=Nat.pow_pos (by omega);have r1:U % 4294967296^n<4294967296^n:=Nat.mod_lt _ p1;have r2:V % 4294967296^n<4294967296^n:=Nat.mod_lt _ p1;have r3:U % 4294967296^(n+1)<4294967296^(n+1):=Nat.mod_lt _ p2;have r4:V % 4294967296^(n+1)<4294967296^(n+1):=Nat.mod_lt _ p2;generalize U % 4294967296^n=ul at *;generalize V % 4294967296^n=vl at *;generalize U % 4294967296^(n+1)=ul1 at *;generalize V % 4294967296^(n+1)=vl1 at *;generalize 4294967296^(n+1)=P1 at *
 generalize 4294967296^n=P at *;have ht:u0*4294967296+u1<v1*4294967296+4294967296:=by
  have h1:(u0*4294967296+u1)*P1<(v1*4294967296+4294967296)*P1:=by
   have h2:(v1*4294967296+4294967296)*P1=(v1*P1+P1)*4294967296:=by
    rw[Nat.add_mul,Nat.add_mul];ac_rfl
   rw[h2];omega
  exact Nat.lt_of_mul_lt_mul_right h1
 refine⟨P,vl,ul,e2,f3,r2,r1,ht,hUV,?_⟩;have hdm:(u0*4294967296+u1) / v1*v1+(u0*4294967296+u1) % v1=u0*4294967296+u1:=by rw[Nat.mul_comm];exact Nat.div_add_mod _ _
 have hmod:(u0*4294967296+u1) % v1<v1:=Nat.mod_lt _ (by omega)
 revert f4 hdm hmod
 generalize u0*4294967296+u1=top;intro f4 hdm hmod;have g1:top+1≤(top / v1+1)*v1:=by rw[Nat.add_mul,Nat.one_mul];omega
 have g2:(top+1)*P1≤(top / v1+1)*v1*P1:=Nat.mul_le_mul_right _ g1;have g3:(top / v1+1)*v1*P1≤(top / v1+1)*V:=by rw[Nat.mul_assoc];exact Nat.mul_le_mul_left _ (by omega)
 rw[Nat.add_mul,Nat.one_mul]at g2;omega
theorem Qd6 (u v:List Nat) (j n:Nat) (hbu:Lb u) (hbv:Lb v) (hn:v.length=n+2) (hj:j+(n+2)<u.length) (hl:u.length<2^40) (hv1:nth v (n+1)≠0) (hlt:val u<val v*4294967296^(j+1)) :
  Aj Tryz.prog 169 [Am u,.int .i64 j,Am v] Ac.emp fun r m=>(∃q:Nat,q<4294967296∧val u / 4294967296^j<(q+1)*val v∧q*val v<val u / 4294967296^j+val v∧r=.int .u64 q)∧m=Ac.emp:=by
 refine Ad Tryz.func169 rfl rfl 83 rfl (Nat.le_of_ble_eq_true rfl) ?_;obtain⟨P,vl,ul,e2,f3,r2,r1,ht,hUV,hq0⟩:=Qdr hbu hbv hn hv1 hlt;have l1:=hbv.nth (n+1);have l2:=hbv.nth n;have k0:=hbu.nth (j+(n+2));have k1:=hbu.nth (j+(n+1));have k2:=hbu.nth (j+n);clear hlt;generalize hx1:nth v (n+1)=v1 at *;generalize hx2:nth v n=v2 at *;generalize hy0:nth u (j+(n+2))=u0 at *;generalize hy1:nth u (j+(n+1))=u1 at *;generalize hy2:nth u (j+n)=u2 at *;have o1:=Qky k0 k1;have ht2:=Qui k0 k1;have m5:=Qf9 k0;obtain⟨top,hT⟩:∃top,u0*4294967296+u1=top:=⟨_,rfl⟩
 rw[hT]at f3 ht hq0 ht2 o1;obtain⟨U,hUU⟩:∃U,val u / 4294967296^j=U:=⟨_,rfl⟩;obtain⟨V,hVV⟩:∃V,val v=V:=⟨_,rfl⟩;rw[hVV]at e2 hUV hq0 ⊢;rw[hUU]at f3 hUV hq0 ⊢;have w1:=Ap (j+(n+2)) (by omega);have w2:IntKind.i64.wrap (((j+(n+2):Nat):Int)-1)=((j+(n+1):Nat):Int):=by rw[Ok (by omega)];omega
 have w3:IntKind.i64.wrap (((j+(n+2):Nat):Int)-2)=((j+n:Nat):Int):=by rw[Ok (by omega)];omega
 have w4:IntKind.i64.wrap (((n+2:Nat):Int)-1)=((n+1:Nat):Int):=by rw[Ok (by omega)];omega
 have w5:IntKind.i64.wrap (((n+2:Nat):Int)-2)=((n:Nat):Int):=by rw[Ok (by omega)];omega
 have m0:=Wb k0;have m1:=Wb k1;have m2:=Wb k2;have m3:=Wb l1;have m4:=Wb l2;have i1:j+(n+1)<u.length:=by omega
 have i2:j+n<u.length:=by omega
 have i3:n+1<n+2:=by omega
 have i4:n<n+2:=by omega
 have hdm:top / v1*v1+top % v1=top:=by rw[Nat.mul_comm];exact Nat.div_add_mod _ _
 have hmod:top % v1<v1:=Nat.mod_lt _ (by omega);have m6:top / v1 % 18446744073709551616=top / v1:=Nat.mod_eq_of_lt (Nat.lt_of_le_of_lt (Nat.div_le_self _ _) ht2);(repeat refine AW.seq_k fun K hK=>?_);refine AW.rg ?_;simp[Ak];try (refine hK _ rfl ?_;clear hK K)
 (repeat refine AW.seq_k fun K hK=>?_);refine AW.rg ?_;simp[-Int.natCast_add,hn];try (refine hK _ rfl ?_;clear hK K)
 (repeat refine AW.seq_k fun K hK=>?_);refine AW.rd [0,1,2,3,4,5,6,7,8,9,10,11,12,13,14,15,16,17] Ds ?_;simp[-Int.natCast_mul,-Int.natCast_add,w1,w2,hy0,hy1,m0,m1,m5,o1,hj,i1];try (refine hK _ rfl ?_;clear hK K)
 (repeat refine AW.seq_k fun K hK=>?_);refine AW.rg ?_;simp[-Int.natCast_ediv,-Int.natCast_mul,-Int.natCast_add,w4,hn,i3,hx1,m3,hv1,m6];try (refine hK _ rfl ?_;clear hK K)
 (repeat refine AW.seq_k fun K hK=>?_);refine AW.rg ?_;simp[-Int.natCast_emod,-Int.natCast_mul,-Int.natCast_add,-Int.natCast_ediv,w4,hn,i3,hx1,m3,hv1];try (refine hK _ rfl ?_;clear hK K)
 refine AW.seq_ex (ι:=Nat) (fun q=>[(9,.int .u64 (q:Nat))]) (fun _=>Ac.emp) (fun q=>q<4294967296∧U<(q+1)*V∧q*V<U+V) ?_ ?_
 ·refine AW.block (AW.loopS (ι:=Nat × Nat) (fun z=>[(0,Am u),(1,.int .i64 j),(2,Am v),(7,.int .i64 (n+2:Nat)),(9,.int .u64 (z.1:Nat)),(10,.int .u64 (z.2:Nat))]) (fun _=>Ac.emp)
   (fun z=>z.1*v1+z.2=top∧z.2<4294967296∧U<(z.1+1)*V) (fun z=>z.1) (top / v1,top % v1) ⟨hdm,by omega,hq0⟩ rfl (by simp[-Int.natCast_mul,-Int.natCast_emod,-Int.natCast_ediv,-Int.natCast_add]) ?_)
  rintro⟨q,r⟩ ⟨h1,h2,h3⟩;simp only at h1 h2 h3;simp only;have m8:=Qf9 h2;have o2:=Qky h2 k2
  -- the round that makes q less
  have less:U<q*V→1≤q:=by
   intro h;rcases Nat.eq_zero_or_pos q with rfl | h'
   ·simp at h
   ·exact h'
  refine AW.seq_ex (ι:=Unit) (fun _=>[(0,Am u),(1,.int .i64 j),(2,Am v),(7,.int .i64 (n+2:Nat)),(9,.int .u64 (q:Nat)),(10,.int .u64 (r:Nat))]) (fun _=>Ac.emp) (fun _=>U<q*V) ?_ ?_
  ·by_cases hq:4294967296≤q
   ·have hd:U<q*V:=by
     calc U<V*4294967296:=hUV
      _≤V*q:=Nat.mul_le_mul_left _ hq
      _=q*V:=Nat.mul_comm _ _
    (repeat refine AW.seq_k fun K hK=>?_);refine AW.rd [0,1,2,3,4,5,6,7,8,9,10,11,12,13,14,15,16,17,18,19,20,21,22,23] Ds ?_;simp[-Int.natCast_add,hq];try (refine hK _ rfl ?_;clear hK K)
    refine AW.yes ?_ rfl;refine AW.skip ?_;try simp[-Int.natCast_add]
    exact hd
   ·have hq':q<4294967296:=Nat.lt_of_not_le hq;have m7:=Qp1 (a:=q) (b:=v2) hq' l2;(repeat refine AW.seq_k fun K hK=>?_);refine AW.rd [0,1,2,3,4,5,6,7,8,9,10,11,12,13,14,15,16,17,18,19,20,21,22,23] Ds ?_;simp[-Int.natCast_mul,-Int.natCast_add,hq,w1,w3,w5,hn,hx2,hy2,m4,m2,m7,m8,o2,i2,i4];try (refine hK _ rfl ?_;clear hK K)
    (repeat refine AW.seq ?_);refine AW.cs (fun h=>?_) (fun h=>?_) rfl<;>simp at h
    ·refine AW.skip ?_;try simp[-Int.natCast_mul,-Int.natCast_add]
     exact Qjd e2 f3 r1 h1 h
    ·refine AW.exit ?_;try simp[-Int.natCast_mul,-Int.natCast_add]
     exact⟨hq',h3,Qf4 e2 f3 r2 (Nat.one_le_iff_ne_zero.2 hv1) h1 hq' h⟩
  ·rintro _ hd;have q1:=less hd;obtain⟨q,rfl⟩:∃p,q=p+1:=⟨q-1,(Nat.sub_add_cancel q1).symm⟩;have w6:((q+1:Nat):Int)-1=(q:Int):=by rw[Int.natCast_add];exact Int.add_sub_cancel _ _
   have hqt:q≤top:=by
    rw[←h1,Nat.add_mul];exact Nat.le_trans (Nat.le_mul_of_pos_right q (Nat.pos_of_ne_zero hv1)) (Nat.le_trans (Nat.le_add_right _ _) (Nat.le_add_right _ _))
   have m9:q % 18446744073709551616=q:=Nat.mod_eq_of_lt (Nat.lt_of_le_of_lt hqt ht2);have m10:(r+v1) % 18446744073709551616=r+v1:=Qrg h2 l1;have hs:q*v1+(r+v1)=top:=by rw[←h1,Nat.add_mul,Nat.one_mul];ac_rfl
   (repeat refine AW.seq ?_);refine AW.block ?_;(repeat refine AW.seq_k fun K hK=>?_);refine AW.rg ?_;simp[-Int.natCast_add,w6,m9];try (refine hK _ rfl ?_;clear hK K)
   (repeat refine AW.seq_k fun K hK=>?_);refine AW.rg ?_;simp[-Int.natCast_add,w4,hn,i3,hx1,m3,m10];try (refine hK _ rfl ?_;clear hK K)
   (repeat refine AW.seq_k fun K hK=>?_);refine AW.rg ?_;simp[-Int.natCast_add];try (refine hK _ rfl ?_;clear hK K)
   (repeat refine AW.seq ?_);refine AW.cs (fun hr=>?_) (fun hr=>?_) rfl<;>simp at hr
   ·refine AW.exit ?_;try simp[-Int.natCast_add]
    obtain⟨b1,b2⟩:=Qh6 (u2:=u2) hs ht hr l2;exact⟨b1,hd,Qf4 e2 f3 r2 (Nat.one_le_iff_ne_zero.2 hv1) hs b1 b2⟩
   ·refine AW.skip ?_;try simp[-Int.natCast_add]
    exact⟨q,r+v1,⟨hs,hr,hd⟩,Nat.lt_succ_self _,rfl,rfl⟩
 ·rintro q ⟨h1,h2,h3⟩;(repeat refine AW.seq_k fun K hK=>?_);refine AW.rg ?_;simp;try (refine hK _ rfl ?_;clear hK K)
  exact AW.ret (Ag rfl _ (.same _) ⟨⟨q,h1,h2,h3,rfl⟩,rfl⟩)
end Go.Av
end
section
namespace Go.Av
open Go.Proofs
theorem Wy {B W Q Uv X c bo W' x d r bo' p c' qv:Nat} (h1:W+Q=Uv+X*(c+bo)) (h2:W'+X*x=W+X*d) (h3:d+r+bo=x+B*bo') (h4:p=B*c'+r) (h5:p=qv+c) :
  W'+(Q+qv*X)=Uv+X*B*(c'+bo'):=by
 have g1:X*d+X*r+X*bo=X*x+X*B*bo':=by rw[←Nat.mul_add,←Nat.mul_add,h3,Nat.mul_add,Nat.mul_assoc]
 have g2:X*qv+X*c=X*B*c'+X*r:=by rw[←Nat.mul_add,←h5,h4,Nat.mul_add,Nat.mul_assoc]
 rw[Nat.mul_add]at h1;rw[Nat.mul_add,Nat.mul_comm qv X];omega
theorem Xd {B W Q X c W' x s c' vi:Nat} (h1:W+X*c=Q) (h2:W'+X*x=W+X*(s % B)) (h3:s=x+vi+c) (h4:c'=s / B) :
  W'+X*B*c'=Q+vi*X:=by
 have g1:X*(s % B)+X*B*c'=X*x+X*vi+X*c:=by
  rw[h4,Nat.mul_assoc,←Nat.mul_add,Nat.mod_add_div,h3,Nat.mul_add,Nat.mul_add]
 rw[Nat.mul_comm vi X];omega
theorem Mb {w u:List Nat} {K:Nat} (hw:Lb w) (hd:w.drop K=u.drop K) (hu:val u<4294967296^K) (hK:K≤w.length) (hl:w.length=u.length):val w<4294967296^K:=by
 have h1:val w=val (w.take K)+4294967296^(w.take K).length*val (w.drop K):=by rw[←G3,List.take_append_drop]
 have h2:val u=val (u.take K)+4294967296^(u.take K).length*val (u.drop K):=by rw[←G3,List.take_append_drop]
 rw[List.length_take,Nat.min_eq_left (by omega)]at h1 h2;have h3:val (u.drop K)=0:=by
  rcases Nat.eq_zero_or_pos (val (u.drop K))with h|h
  ·exact h
  ·have:4294967296^K*1≤4294967296^K*val (u.drop K):=Nat.mul_le_mul_left _ h;omega
 rw[h1,hd,h3];have:=I8 hw K;omega
theorem Qgs {B u W V q:Nat} (hB:0<B) (h1:W+q*V*B=u) (h2:u / B<(q+1)*V):u / B / V=q∧W=u % (V*B):=by
 have h3:q*V≤u / B:=by rw[Nat.le_div_iff_mul_le hB];omega
 have e1:u / B / V=q:=Qfl h3 h2;refine⟨e1,?_⟩;rw[Nat.div_div_eq_div_mul]at e1;have h4:=Nat.div_add_mod u (V*B);rw[Nat.mul_comm V B,e1]at h4;rw[Nat.mul_comm V B];have:B*V*q=q*V*B:=by ac_rfl
 omega
theorem Qi1 {B XB u W1 W2 V q e:Nat} (hB:0<B) (h1:W1+q*V*B=u+XB) (h2:W1<XB) (h3:q*V<u / B+V) (h4:W2+XB*e=W1+V*B) (h5:W2<XB) (he:e≤1) (hV:V*B≤XB) :
  1≤q∧u / B / V=q-1∧W2=u % (V*B):=by
 have h6:u<q*V*B:=by omega
 have h7:u / B<q*V:=(Nat.div_lt_iff_lt_mul hB).2 h6;have h8:1≤q:=by
  rcases Nat.eq_zero_or_pos q with rfl|h
  ·simp at h7
  ·exact h
 obtain⟨q,rfl⟩:∃p,q=p+1:=⟨q-1,(Nat.sub_add_cancel h8).symm⟩;have e1:u / B / V=q:=by
  refine Qfl ?_ h7;rw[Nat.add_mul]at h3;omega
 refine⟨h8,e1,?_⟩;rw[Nat.div_div_eq_div_mul]at e1;have h9:=Nat.div_add_mod u (V*B);rw[Nat.mul_comm V B,e1]at h9;rw[Nat.mul_comm V B];have a1:B*V*q=q*V*B:=by ac_rfl
 have a2:(q+1)*V*B=q*V*B+V*B:=by rw[Nat.add_mul,Nat.add_mul,Nat.one_mul]
 have hVB:0<B*V:=by
  rcases Nat.eq_zero_or_pos V with rfl|h
  ·simp at h7
  ·exact Nat.mul_pos hB h
 have a3:=Nat.mod_lt u hVB;have a4:V*B=B*V:=Nat.mul_comm _ _;rcases Nat.le_one_iff_eq_zero_or_eq_one.1 he with rfl | rfl
 ·omega
 ·omega
theorem Qjf {p:Nat} (hp:p<18446744073709551616):Gx .and .u64 (p:Int) 4294967295=((p % 4294967296:Nat):Int):=by
 have:=Qoj (a:=p) (b:=4294967295) hp (by omega);rw[show((4294967295:Nat):Int)=4294967295 from rfl]at this;rw[this,show(4294967295:Nat)=2^32-1 from rfl,Nat.and_two_pow_sub_one_eq_mod]
theorem Q5 {x r bo:Nat} (hx:x<4294967296) (hr:r<4294967296) (hb:bo≤1):∃t d bo':Nat,((x:Int)-(r:Int)-(bo:Int)) % 18446744073709551616=(t:Int)∧t % 4294967296=d∧t / 9223372036854775808=bo'∧bo'≤1∧d<4294967296∧d+r+bo=x+4294967296*bo':=by
 by_cases h:r+bo≤x
 ·exact⟨x-r-bo,x-r-bo,0,by omega,by omega,by omega,by omega,by omega,by omega⟩
 ·exact⟨x+18446744073709551616-r-bo,x+4294967296-r-bo,1,by omega,by omega,by omega,by omega,by omega,by omega⟩
end Go.Av
end
section
namespace Go.Av
open Go.Proofs
theorem Tw {bl:Nat} {x:Fi} (h:∀v∈x.l,v.cells.all AV.one=true):∀(b:Nat) (y:Fi),(Ac.emp.set bl x) b=some y→∀v∈y.l,v.cells.all AV.one=true:=by
 intro b y hy;simp only[A9]at hy;split at hy
 ·cases hy;exact h
 ·cases hy
theorem Wj (bl:Nat) (w:List Nat):∀(b:Nat) (x:Fi),(Ac.emp.set bl ⟨124,1,Bk w⟩) b=some x→∀v∈x.l,v.cells.all AV.one=true :=
 Tw fun v hv=>by
  obtain⟨n,_,rfl⟩:=List.mem_map.1 hv;rfl
theorem Qid (u v:List Nat) (j n q bl:Nat) (hbu:Lb u) (hbv:Lb v) (hn:v.length=n) (hj:j+n<u.length) (hl:u.length<2^40) (hq:q<4294967296) (hlt:val u<val v*4294967296^(j+1))
  (hq1:val u / 4294967296^j<(q+1)*val v) (hq2:q*val v<val u / 4294967296^j+val v) :
  Aj Tryz.prog 168 [.osl bl 1 0 u.length,.int .i64 j,Am v,.int .u64 q] (Ac.emp.set bl ⟨124,1,Bk u⟩) fun r m=>∃u':List Nat,r=.int .u32 ((val u / 4294967296^j / val v:Nat))∧m=Ac.emp.set bl ⟨124,1,Bk u'⟩∧Lb u'∧u'.length=u.length∧val u'=val u % (val v*4294967296^j):=by
 refine Ad Tryz.func168 rfl rfl 124 rfl (Nat.le_of_ble_eq_true rfl) ?_;have hV:val v<4294967296^n:=by rw[←hn];exact Kq hbv
 have hU:val u<4294967296^(j+n+1):=by
  calc val u<val v*4294967296^(j+1):=hlt
   _≤4294967296^n*4294967296^(j+1):=Nat.mul_le_mul_right _ (Nat.le_of_lt hV)
   _=4294967296^(j+n+1):=by rw[←Nat.pow_add];congr 1;omega
 have hVB:val v*4294967296^j≤4294967296^(j+n+1):=by
  calc val v*4294967296^j≤4294967296^n*4294967296^j:=Nat.mul_le_mul_right _ (Nat.le_of_lt hV)
   _=4294967296^(j+n):=by rw[←Nat.pow_add];congr 1;omega
   _≤4294967296^(j+n+1):=Nat.pow_le_pow_right (by omega) (by omega)
 have hB:0<4294967296^j:=Nat.pow_pos (by omega);have hq3:q % 4294967296=q:=Nat.mod_eq_of_lt hq;have wn:=Ap (j+n) (by omega);clear hlt;(repeat refine AW.seq_k fun K hK=>?_);refine AW.rg ?_;simp[-Int.natCast_ediv,-Int.natCast_pow,Ak];try (refine hK _ rfl ?_;clear hK K)
 (repeat refine AW.seq_k fun K hK=>?_);refine AW.rg ?_;simp[-Int.natCast_ediv,-Int.natCast_pow];try (refine hK _ rfl ?_;clear hK K)
 refine AW.seq_ex (ι:=List Nat × Nat × Nat) (fun z=>[(0,.osl bl 1 0 u.length),(1,.int .i64 j),(2,Am v),(3,.int .u64 (q:Nat)),(9,.int .u64 (z.2.1:Nat)),(10,.int .u64 (z.2.2:Nat))]) (fun z=>Ac.emp.set bl ⟨124,1,Bk z.1⟩)
  (fun z=>Lb z.1∧z.1.length=u.length∧z.2.1<4294967296∧z.2.2≤1∧z.1.drop (j+n+1)=u.drop (j+n+1)∧val z.1+q*val v*4294967296^j=val u+4294967296^(j+n)*(z.2.1+z.2.2)) ?_ ?_
 ·(repeat refine AW.seq_k fun K hK=>?_);refine AW.rg ?_;simp[-Int.natCast_ediv,-Int.natCast_pow,hn];try (refine hK _ rfl ?_;clear hK K)
  refine AW.block (AW.loopS (ι:=Nat × List Nat × Nat × Nat) (fun z=>[(0,.osl bl 1 0 u.length),(1,.int .i64 j),(2,Am v),(3,.int .u64 (q:Nat)),(9,.int .u64 (z.2.2.1:Nat)),(10,.int .u64 (z.2.2.2:Nat)),(18,.int .i64 (n:Nat)),(19,.int .i64 (z.1:Nat))]) (fun z=>Ac.emp.set bl ⟨124,1,Bk z.2.1⟩)
   (fun z=>z.1≤n∧Lb z.2.1∧z.2.1.length=u.length∧z.2.2.1<4294967296∧z.2.2.2≤1∧z.2.1.drop (j+n+1)=u.drop (j+n+1)∧val z.2.1+q*val (v.take z.1)*4294967296^j=val u+4294967296^(j+z.1)*(z.2.2.1+z.2.2.2)) (fun z=>n-z.1) (0,u,0,0) ⟨by simp,hbu,rfl,by simp,by simp,rfl,by simp[val]⟩ rfl (by simp) ?_)
  rintro⟨i,w,c,bo⟩ ⟨h1,h2,h3,h4,h5,h6,h7⟩;simp only at h1 h2 h3 h4 h5 h6 h7;simp only;(repeat refine AW.seq_k fun K hK=>?_);refine AW.rg ?_;simp[-Int.natCast_ediv,-Int.natCast_pow];try (refine hK _ rfl ?_;clear hK K)
  (repeat refine AW.seq ?_);refine AW.cs (fun hi=>?_) (fun hi=>?_) rfl<;>simp at hi
  ·refine AW.skip ?_;try simp[-Int.natCast_ediv,-Int.natCast_pow]
   have wji:=Ap (j+i) (by omega);have wi1:=Ap (i+1) (by omega);have k1:=hbv.nth i;have k2:=h2.nth (j+i);have iv:i<v.length:=by omega
   have iu:j+i<w.length:=by omega
   have iu2:j+i<u.length:=by omega
   have hset:=Ia w (j+i);have ht:=Aw v i;generalize hvi:nth v i=vi at *;generalize hx:nth w (j+i)=x at *;have m1:=Wb k1;have m2:=Qp1 hq k1;have p1:q*vi+c<18446744073709551616:=by
    have:q*vi≤4294967295*4294967295:=Nat.mul_le_mul (by omega) (by omega);omega
   have m3:(q*vi+c) % 18446744073709551616=q*vi+c:=Nat.mod_eq_of_lt p1;have m4:=Wb k2;have m5:=Qjf p1;obtain⟨t,d,bo',b1,b2,b3,b4,b5,b6⟩:=Q5 k2 (r:=(q*vi+c) % 4294967296) (Nat.mod_lt _ (by omega)) h5;(repeat refine AW.seq ?_);refine AW.block ?_;(repeat refine AW.seq_k fun K hK=>?_);refine AW.rg ?_;simp[-Int.natCast_ediv,-Int.natCast_pow];try (refine hK _ rfl ?_;clear hK K)
   (repeat refine AW.seq_k fun K hK=>?_);refine AW.rg ?_;simp[-Int.natCast_add,-Int.natCast_ediv,-Int.natCast_pow,-Int.natCast_mul,iv,hvi,m1,m2,m3];try (refine hK _ rfl ?_;clear hK K)
   (repeat refine AW.seq_k fun K hK=>?_);refine AW.rg ?_;simp[-Int.natCast_ediv,-Int.natCast_pow,-Int.natCast_add,-Int.natCast_mul];try (refine hK _ rfl ?_;clear hK K)
   (repeat refine AW.seq_k fun K hK=>?_);refine AW.rg ?_;simp[-Int.natCast_emod,-Int.natCast_add,-Int.natCast_ediv,-Int.natCast_mul,wji,hx,m4,m5,b1,iu,iu2];try (refine hK _ rfl ?_;clear hK K)
   (repeat refine AW.seq_k fun K hK=>?_);refine AW.rg ?_;simp[-Int.natCast_ediv,-Int.natCast_add,-Int.natCast_emod,-Int.natCast_mul,wji,b2,iu,iu2];try (refine hK _ rfl ?_;clear hK K)
   (repeat refine AW.seq_k fun K hK=>?_);refine AW.rg ?_;simp[-Int.natCast_mul,-Int.natCast_ediv,-Int.natCast_emod,-Int.natCast_add,b3];try (refine hK _ rfl ?_;clear hK K)
   (repeat refine AW.seq_k fun K hK=>?_);refine AW.rg ?_;simp[-Int.natCast_mul,-Int.natCast_ediv,-Int.natCast_emod,-Int.natCast_add,wi1];try (refine hK _ rfl ?_;clear hK K)
   refine⟨i+1,w.set (j+i) d,(q*vi+c) / 4294967296,bo',⟨hi,h2.set _ _ b5,by simpa using h3,Nat.div_lt_of_lt_mul p1,b4,by rw[List.drop_set_of_lt (by omega)];exact h6,?_⟩,by omega,rfl,rfl,rfl,rfl⟩;have e1:=hset d iu;have e2:=Wy h7 e1 b6 (Nat.div_add_mod (q*vi+c) 4294967296).symm rfl;rw[ht];rw[←Nat.add_assoc,Nat.pow_succ,←e2]
   congr 1
   rw[Nat.mul_add,Nat.add_mul,Nat.pow_add]
   congr 1
   ac_rfl
  ·refine AW.exit ?_;try simp[-Int.natCast_ediv,-Int.natCast_pow]
   have:i=n:=by omega
   subst this;rw[List.take_of_length_le (by omega)]at h7;exact⟨w,c,bo,⟨h2,h3,h4,h5,h6,h7⟩,rfl,rfl,rfl⟩
 rintro⟨w,c,bo⟩ ⟨h2,h3,h4,h5,h6,h7⟩;simp only at h2 h3 h4 h5 h6 h7;simp only;have k2:=h2.nth (j+n);have iu:j+n<w.length:=by omega
 have hset:=Ia w (j+n);generalize hx:nth w (j+n)=x at *;have m4:=Wb k2;obtain⟨t,d,bo',b1,b2,b3,b4,b5,b6⟩:=Q5 k2 (r:=c) h4 h5;have e1:=hset d iu;have e2:val (w.set (j+n) d)+q*val v*4294967296^j=val u+4294967296^(j+n+1)*bo':=by
  have g:=Wy (qv:=0) (c':=0) h7 e1 b6 (p:=c) (by omega) (by omega);rw[Nat.zero_mul,Nat.add_zero,Nat.zero_add]at g;rw[Nat.pow_succ];exact g
 have hLb:Lb (w.set (j+n) d):=h2.set _ _ b5;have hdr:(w.set (j+n) d).drop (j+n+1)=u.drop (j+n+1):=by rw[List.drop_set_of_lt (by omega)];exact h6
 have hlen:(w.set (j+n) d).length=u.length:=by simpa using h3
 clear h2 h6 h7 hset e1 b6;(repeat refine AW.seq_k fun K hK=>?_);refine AW.rg ?_;simp[-Int.natCast_add,-Int.natCast_ediv,-Int.natCast_pow,hn,wn,hx,m4,b1,hj,iu];try (refine hK _ rfl ?_;clear hK K)
 (repeat refine AW.seq_k fun K hK=>?_);refine AW.rg ?_;simp[-Int.natCast_ediv,-Int.natCast_pow,-Int.natCast_add,hn,wn,b2,hj,iu];try (refine hK _ rfl ?_;clear hK K)
 generalize w.set (j+n) d=w1 at *;clear hx;refine AW.seq_ex (ι:=Unit) (fun _=>[(0,.osl bl 1 0 u.length),(1,.int .i64 j),(2,Am v),(3,.int .u64 (q:Nat))]) (fun _=>Ac.emp.set bl ⟨124,1,Bk w1⟩) (fun _=>bo'=1) ?_ ?_
 ·(repeat refine AW.seq_k fun K hK=>?_);refine AW.rg ?_;simp[-Int.natCast_ediv,-Int.natCast_pow,-Int.natCast_add,b3];try (refine hK _ rfl ?_;clear hK K)
  (repeat refine AW.seq ?_);refine AW.cs (fun hb=>?_) (fun hb=>?_) rfl<;>simp at hb
  ·subst hb;(repeat refine AW.seq_k fun K hK=>?_);refine AW.rg ?_;simp[-Int.natCast_ediv,-Int.natCast_pow,-Int.natCast_add,hq3];try (refine hK _ rfl ?_;clear hK K)
   obtain⟨g1,g2⟩:=Qgs hB (e2.trans (by rw[Nat.mul_zero,Nat.add_zero])) hq1;exact AW.ret (B9 rfl (Wj _ _) ⟨w1,by rw[g1];rfl,rfl,hLb,hlen,g2⟩)
  ·refine AW.skip ?_;try simp[-Int.natCast_add,-Int.natCast_ediv,-Int.natCast_pow]
   exact Nat.le_antisymm b4 (Nat.pos_of_ne_zero hb)
 rintro _ rfl;simp only[Nat.mul_one]at e2;have hlt1:=Mb hLb hdr hU (by omega) hlen;(repeat refine AW.seq_k fun K hK=>?_);refine AW.rg ?_;simp[-Int.natCast_ediv,-Int.natCast_pow];try (refine hK _ rfl ?_;clear hK K)
 refine AW.seq_ex (ι:=List Nat × Nat) (fun z=>[(0,.osl bl 1 0 u.length),(1,.int .i64 j),(2,Am v),(3,.int .u64 (q:Nat)),(9,.int .u64 (z.2:Nat))]) (fun z=>Ac.emp.set bl ⟨124,1,Bk z.1⟩)
  (fun z=>Lb z.1∧z.1.length=u.length∧z.2≤1∧z.1.drop (j+n+1)=u.drop (j+n+1)∧val z.1+4294967296^(j+n)*z.2=val w1+val v*4294967296^j) ?_ ?_
 ·(repeat refine AW.seq_k fun K hK=>?_);refine AW.rg ?_;simp[-Int.natCast_ediv,-Int.natCast_pow,hn];try (refine hK _ rfl ?_;clear hK K)
  refine AW.block (AW.loopS (ι:=Nat × List Nat × Nat) (fun z=>[(0,.osl bl 1 0 u.length),(1,.int .i64 j),(2,Am v),(3,.int .u64 (q:Nat)),(9,.int .u64 (z.2.2:Nat)),(81,.int .i64 (n:Nat)),(82,.int .i64 (z.1:Nat))]) (fun z=>Ac.emp.set bl ⟨124,1,Bk z.2.1⟩)
   (fun z=>z.1≤n∧Lb z.2.1∧z.2.1.length=u.length∧z.2.2≤1∧z.2.1.drop (j+n+1)=u.drop (j+n+1)∧val z.2.1+4294967296^(j+z.1)*z.2.2=val w1+val (v.take z.1)*4294967296^j) (fun z=>n-z.1) (0,w1,0) ⟨by simp,hLb,hlen,by simp,hdr,by simp[val]⟩ rfl (by simp) ?_)
  rintro⟨i,w,c⟩ ⟨h1,h2,h3,h5,h6,h7⟩;simp only at h1 h2 h3 h5 h6 h7;simp only;(repeat refine AW.seq_k fun K hK=>?_);refine AW.rg ?_;simp[-Int.natCast_ediv,-Int.natCast_pow];try (refine hK _ rfl ?_;clear hK K)
  (repeat refine AW.seq ?_);refine AW.cs (fun hi=>?_) (fun hi=>?_) rfl<;>simp at hi
  ·refine AW.skip ?_;try simp[-Int.natCast_ediv,-Int.natCast_pow]
   have wji:=Ap (j+i) (by omega);have wi1:=Ap (i+1) (by omega);have k1:=hbv.nth i;have k2:=h2.nth (j+i);have iv:i<v.length:=by omega
   have iu:j+i<w.length:=by omega
   have iu2:j+i<u.length:=by omega
   have hset:=Ia w (j+i);have ht:=Aw v i;generalize hvi:nth v i=vi at *;generalize hx:nth w (j+i)=x at *;have m1:=Wb k1;have m2:=Wb k2;have m3:=Qrg k2 k1;have m4:(x+vi+c) % 18446744073709551616=x+vi+c:=by omega
   (repeat refine AW.seq ?_);refine AW.block ?_;(repeat refine AW.seq_k fun K hK=>?_);refine AW.rg ?_;simp[-Int.natCast_ediv,-Int.natCast_pow];try (refine hK _ rfl ?_;clear hK K)
   (repeat refine AW.seq_k fun K hK=>?_);refine AW.rdA bl [0,1,2,3,4,5,6,7,8,9,10,11,12,13,14,15] Ds (by simp) ?_;simp[-Int.natCast_ediv,-Int.natCast_pow,-Int.natCast_add,wji,iv,hvi,hx,m1,m2,m3,m4,iu,iu2];try (refine hK _ rfl ?_;clear hK K)
   (repeat refine AW.seq_k fun K hK=>?_);refine AW.rg ?_;simp[-Int.natCast_ediv,-Int.natCast_emod,-Int.natCast_pow,-Int.natCast_add,wji,iu,iu2];try (refine hK _ rfl ?_;clear hK K)
   (repeat refine AW.seq_k fun K hK=>?_);refine AW.rg ?_;simp[-Int.natCast_ediv,-Int.natCast_pow,-Int.natCast_add,-Int.natCast_emod];try (refine hK _ rfl ?_;clear hK K)
   (repeat refine AW.seq_k fun K hK=>?_);refine AW.rg ?_;simp[-Int.natCast_emod,-Int.natCast_add,-Int.natCast_ediv,wi1];try (refine hK _ rfl ?_;clear hK K)
   refine⟨i+1,w.set (j+i) ((x+vi+c) % 4294967296),(x+vi+c) / 4294967296,⟨hi,h2.set _ _ (Nat.mod_lt _ (by omega)),by simpa using h3,by omega,by rw[List.drop_set_of_lt (by omega)];exact h6,?_⟩,by omega,rfl,rfl,rfl⟩;have e1:=hset ((x+vi+c) % 4294967296) iu;have e3:=Xd h7 e1 rfl rfl;rw[ht,←Nat.add_assoc,Nat.pow_succ,e3,Nat.add_mul,Nat.pow_add,Nat.add_assoc]
   congr 2
   ac_rfl
  ·refine AW.exit ?_;try simp[-Int.natCast_ediv,-Int.natCast_pow]
   have:i=n:=by omega
   subst this;rw[List.take_of_length_le (by omega)]at h7;exact⟨w,⟨h2,h3,h5,h6,h7⟩,rfl⟩
 rintro⟨w,c⟩ ⟨h2,h3,h5,h6,h7⟩;simp only at h2 h3 h5 h6 h7;simp only;have k2:=h2.nth (j+n);have iu:j+n<w.length:=by omega
 have hset:=Ia w (j+n);generalize hx:nth w (j+n)=x at *;have m1:c % 4294967296=c:=by omega
 have e3:=hset ((x+c) % 4294967296) iu;have e4:=Xd (vi:=0) h7 e3 (by omega) rfl;rw[Nat.zero_mul,Nat.add_zero,←Nat.pow_succ]at e4;have hLb2:Lb (w.set (j+n) ((x+c) % 4294967296)):=h2.set _ _ (Nat.mod_lt _ (by omega));have hdr2:(w.set (j+n) ((x+c) % 4294967296)).drop (j+n+1)=u.drop (j+n+1):=by rw[List.drop_set_of_lt (by omega)];exact h6
 have hlen2:(w.set (j+n) ((x+c) % 4294967296)).length=u.length:=by simpa using h3
 have hlt2:=Mb hLb2 hdr2 hU (by omega) hlen2;obtain⟨q1,g1,g2⟩:=Qi1 hB e2 hlt1 hq2 e4 hlt2 (by omega) hVB;obtain⟨q,rfl⟩:∃p,q=p+1:=⟨q-1,(Nat.sub_add_cancel q1).symm⟩;have w6:((q+1:Nat):Int)-1=(q:Int):=by rw[Int.natCast_add];exact Int.add_sub_cancel _ _
 have m7:q % 18446744073709551616=q:=by omega
 have m8:q % 4294967296=q:=by omega
 (repeat refine AW.seq_k fun K hK=>?_);refine AW.rg ?_;simp[-Int.natCast_ediv,-Int.natCast_emod,-Int.natCast_pow,-Int.natCast_add,hn,wn,hx,m1,hj,iu];try (refine hK _ rfl ?_;clear hK K)
 (repeat refine AW.seq_k fun K hK=>?_);refine AW.rg ?_;simp[-Int.natCast_ediv,-Int.natCast_pow,-Int.natCast_add,-Int.natCast_emod,w6,m7,m8];try (refine hK _ rfl ?_;clear hK K)
 exact AW.ret (B9 rfl (Wj _ _) ⟨_,by rw[g1];rfl,rfl,hLb2,hlen2,g2⟩)
end Go.Av
end
section
namespace Go.Av
open Go.Proofs
theorem Vd (x n:Nat) (hn:n<2^40) (lx:(Ao x).length<2^40):Aj Tryz.prog 167 [Am (Ao x),.int .i64 n] Ac.emp fun v m=>v=Am (Ao (x*2^n))∧m=Ac.emp:=by
 refine Ad Tryz.func167 rfl rfl 52 rfl (Nat.le_of_ble_eq_true rfl) ?_;have hw:=Ap (n / 32) (by omega);have hx:=Ax x;have hb:=A6 x;have hnth:=E9 x;generalize ha:Ao x=a at *;have hx2:x<4294967296^a.length:=by rw[←hx];exact Kq hb
 have hw1:=Ap (a.length+n / 32) (by omega);have hw3:=Ap (a.length+n / 32+1) (by omega);(repeat refine AW.seq ?_);refine AW.rg ?_;simp[Ak];(repeat refine AW.seq ?_);refine AW.rg ?_;simp[-Int.natCast_mul,-Int.natCast_add,-Int.natCast_ediv,hw,hw1,hw3];refine⟨by omega,Af.intro fun bl _=>?_⟩;generalize hN:a.length+n / 32+1=N at *;have hpow:2^(n % 32)*2^(32-n % 32)=4294967296:=by rw[←Nat.pow_add,show n % 32+(32-n % 32)=32 by omega]
 have hr:n % 32<32:=Nat.mod_lt _ (by omega);have hn2:2^n=4294967296^(n / 32)*2^(n % 32):=by rw[Hn,←Nat.pow_add,Nat.div_add_mod]
 refine AW.seq_ex (ι:=List Nat) (fun o=>[(5,.osl bl 1 0 o.length)]) (fun o=>Ac.emp.set bl ⟨124,1,Bk o⟩) (fun o=>Lb o∧val o=x*2^n∧o.length<2^42) ?_ ?_
 ·(repeat refine AW.seq ?_);refine AW.rg ?_;simp[-Int.natCast_add,-Int.natCast_ediv];refine AW.block (AW.loopS (ι:=Nat × List Nat) (fun x=>[(0,Am a),(1,.int .i64 n),(5,.osl bl 1 0 N),(16,.int .i64 a.length),(17,.int .i64 (x.1:Nat))]) (fun x=>Ac.emp.set bl ⟨124,1,Bk x.2⟩)
   (fun y=>y.1≤a.length∧Lb y.2∧y.2.length=N∧nth y.2 (y.1+n / 32)<2^(n % 32)∧val (y.2.take (y.1+n / 32+1))=x % 4294967296^y.1*2^n) (fun y=>a.length-y.1) (0,List.replicate N 0) ⟨by simp,Lb.rep _,by simp,by simp[Nat.pow_pos],by simp[J9,Nat.mod_one]⟩ (by simp[C4]) (by simp[-Int.natCast_add,-Int.natCast_ediv]) ?_)
  rintro⟨i,o⟩ ⟨h1,h3,h4,h6,h5⟩;simp only at h1 h3 h4 h5 h6;simp only;(repeat refine AW.seq ?_);refine AW.rg ?_;simp;(repeat refine AW.seq ?_);refine AW.cs (fun hi=>?_) (fun hi=>?_) rfl<;>simp at hi
  ·refine AW.skip ?_;try simp
   have hw4:=Ap (i+n / 32) (by omega);have hw5:=Ap (i+n / 32+1) (by omega);have hw6:=Ap (i+1) (by omega);have hm:min (n % 32) 64=n % 32:=by omega
   have q1:=hb.nth i;have q2:=h3.nth (i+n / 32);(repeat refine AW.seq ?_);refine AW.block ?_;(repeat refine AW.seq ?_);refine AW.rg ?_;simp;generalize hd:nth a i=d at *;have q3:d*2^(n % 32)<18446744073709551616:=by
    have:2^(n % 32)≤2^32:=Nat.pow_le_pow_right (by omega) (by omega)
    calc d*2^(n % 32)≤d*2^32:=Nat.mul_le_mul_left _ this
     _<18446744073709551616:=by omega
   have q4:d*2^(n % 32) % 18446744073709551616=d*2^(n % 32):=Nat.mod_eq_of_lt q3;(repeat refine AW.seq ?_);refine AW.rg ?_;simp[-Int.natCast_mul,-Int.natCast_pow,-Int.natCast_emod,hi,hd,hm,q4];have q5:Gx .or .u32 (nth o (i+n / 32):Int) ((d*2^(n % 32) % 4294967296:Nat):Int)=((nth o (i+n / 32)+d*2^(n % 32) % 4294967296:Nat):Int):=by
    rw[Qjj q2 (Nat.mod_lt _ (by omega)),Ze (by omega) h6]
   have q6:i+n / 32<N:=by omega
   have q7:i+n / 32+1<N:=by omega
   (repeat refine AW.seq ?_);refine AW.rg ?_;simp[-Int.natCast_add,-Int.natCast_ediv,-Int.natCast_emod,-Int.natCast_mul,-Int.natCast_pow,hw,hw4,h4,q6,q5];(repeat refine AW.seq ?_);refine AW.rg ?_;simp[-Int.natCast_ediv,-Int.natCast_add,-Int.natCast_emod,-Int.natCast_mul,-Int.natCast_pow,hw,hw4,hw5,h4,q7];have q8:d*2^(n % 32) / 4294967296<2^(n % 32):=by
    refine Nat.div_lt_of_lt_mul ?_;exact Nat.mul_lt_mul_of_pos_right q1 (Nat.pow_pos (n:=n % 32) (show 0<2 by omega))
   have q9:nth o (i+n / 32)+d*2^(n % 32) % 4294967296<4294967296:=by
    rw[←Ze (show n % 32≤32 by omega) h6];exact Nat.or_lt_two_pow (n:=32) q2 (Nat.mod_lt _ (by omega))
   (repeat refine AW.seq ?_);refine AW.rg ?_;simp[-Int.natCast_add,-Int.natCast_ediv,-Int.natCast_emod,-Int.natCast_mul,-Int.natCast_pow,hw6];refine⟨i+1,_,⟨by omega,(h3.set _ _ q9).set _ _ (Nat.mod_lt _ (by omega)),by simpa using h4,?_,?_⟩,by omega,rfl,rfl⟩
   ·rw[show i+1+n / 32=i+n / 32+1 by omega,Nz _ (by rw[List.length_set];omega)];exact Nat.lt_of_le_of_lt (Nat.mod_le _ _) q8
   ·have q10:d*2^(n % 32) / 4294967296<4294967296:=Nat.lt_of_lt_of_le q8 (Nat.pow_le_pow_right (n:=2) (by omega) (show n % 32≤32 by omega));rw[show i+1+n / 32=i+n / 32+1 by omega,Bj _ _ _ (by rw[List.length_set];omega),Bj _ _ _ (by omega),Nat.mod_eq_of_lt q10];rw[Aw]at h5;have c:=Fz (4294967296^(i+n / 32)) (d*2^(n % 32));rw[Hy,←hnth,hd,Nat.add_mul,←h5,Nat.mul_add,Nat.pow_succ];have e:4294967296^i*d*2^n=4294967296^(i+n / 32)*(d*2^(n % 32)):=by
     rw[hn2,Nat.pow_add]
     ac_rfl
    rw[e,←c];omega
  ·refine AW.exit ?_;try simp
   refine⟨o,⟨h3,?_,by omega⟩,by simp[h4]⟩;have:i=a.length:=by omega
   subst this;rw[Aq o _ (by omega)]at h5;rw[h5,Nat.mod_eq_of_lt hx2]
 ·rintro o ⟨h1,h2,h3⟩;refine AW.toEmp [(5,Am o)] (by simp;exact C9 (e:=124) (by simp)) ?_;(repeat refine AW.seq ?_);refine AW.rg ?_;simp;refine Aa.val (Cv o (by omega)) ?_;try simp
  exact AW.ret (Ag rfl _ (.same _) ⟨by simp[Cc h1,h2],rfl⟩)
theorem Qni {h l:Nat} (hl:l<4294967296):l ||| h*4294967296=l+h*4294967296:=by
 rw[Nat.or_comm,Yq hl];omega
theorem Qb0 (x n:Nat) (hn:n<2^40) (lx:(Ao x).length<2^40):Aj Tryz.prog 170 [Am (Ao x),.int .i64 n] Ac.emp fun v m=>Qgf (x / 2^n) v∧m=Ac.emp:=by
 refine Ad Tryz.func170 rfl rfl 85 rfl (Nat.le_of_ble_eq_true rfl) ?_;have hw:=Ap (n / 32) (by omega);have hx:=Ax x;have hb:=A6 x;have hnth:=E9 x;generalize ha:Ao x=a at *;have hx2:x<4294967296^a.length:=by rw[←hx];exact Kq hb
 (repeat refine AW.seq ?_);refine AW.rg ?_;simp[Ak];(repeat refine AW.seq ?_);refine AW.rg ?_;simp[-Int.natCast_ediv,hw];(repeat refine AW.seq ?_);refine AW.rg ?_;simp[-Int.natCast_ediv];(repeat refine AW.seq ?_);refine AW.cs (fun h=>?_) (fun h=>?_) rfl<;>simp at h
 ·(repeat refine AW.seq ?_);refine AW.rg ?_;simp[-Int.natCast_ediv];have:x / 2^n=0:=by
   have h3:=K3 hb h;rw[Hn]at h3;have h4:2^(32*(n / 32))≤2^n:=Nat.pow_le_pow_right (by omega) (by omega);exact Nat.div_eq_of_lt (by omega)
  exact AW.ret (Ah [Am [],.bool (decide (0<a.length))] rfl (by simp[-Int.natCast_ediv]) ⟨⟨decide (0<a.length),by simp[this,Be]⟩,rfl⟩)
 ·refine AW.skip ?_;try simp[-Int.natCast_ediv]
  have htr:=Cv (a.take (n / 32)) (by simp;omega);generalize E0 (a.take (n / 32))=T at htr;have hm5:min (n % 32) 32=n % 32:=by omega
  refine AW.seq_ex (ι:=Bool) (fun t=>[(0,Am a),(1,.int .i64 n),(6,.int .i64 (n / 32:Nat)),(7,.bool t)]) (fun _=>Ac.emp) (fun _=>True) ?_ ?_
  ·(repeat refine AW.seq ?_);refine AW.rd [0,1,2,3,4,5,6,7,8,9,10,11,12,13,14,15,16,17,18] Ds ?_;simp[-Int.natCast_ediv];refine⟨by omega,?_⟩;refine Aa.val htr ?_;try simp[-Int.natCast_emod,-Int.natCast_ediv]
   by_cases hz:T=[]
   ·subst hz;simp[h,hm5];exact Classical.em _
   ·simp[hz]
  ·rintro t -;have hw3:IntKind.i64.wrap ((a.length:Int)-((n / 32:Nat):Int))=((a.length-n / 32:Nat):Int):=by rw[Qbo (by omega)];exact wi (by omega)
   (repeat refine AW.seq ?_);refine AW.rg ?_;simp[-Int.natCast_mul,-Int.natCast_ediv,hw,hw3];refine⟨by omega,Af.intro fun bl _=>?_⟩;generalize hN:a.length-n / 32=N at *;simp only[C4];refine AW.seq_ex (ι:=List Nat) (fun o=>[(7,.bool t),(8,.osl bl 1 0 o.length)]) (fun o=>Ac.emp.set bl ⟨124,1,Bk o⟩) (fun o=>Lb o∧val o=x / 2^n∧o.length<2^41) ?_ ?_
   ·(repeat refine AW.seq ?_);refine AW.rg ?_;simp[-Int.natCast_ediv];refine AW.block (AW.loopS (ι:=Nat × List Nat) (fun x=>[(0,Am a),(1,.int .i64 n),(6,.int .i64 (n / 32:Nat)),(7,.bool t),(8,.osl bl 1 0 N),(44,.int .i64 N),(45,.int .i64 (x.1:Nat))]) (fun x=>Ac.emp.set bl ⟨124,1,Bk x.2⟩)
     (fun y=>y.1≤N∧Lb y.2∧y.2.length=N∧val (y.2.take y.1)=x / 2^n % 4294967296^y.1) (fun x=>N-x.1) (0,List.replicate N 0) ⟨by simp,Lb.rep _,by simp,by simp[val,Nat.mod_one]⟩ rfl (by simp[-Int.natCast_ediv]) ?_)
    rintro⟨i,o⟩ ⟨h1,h3,h4,h5⟩;simp only at h1 h3 h4 h5;simp only;(repeat refine AW.seq ?_);refine AW.rg ?_;simp[-Int.natCast_ediv];(repeat refine AW.seq ?_);refine AW.cs (fun hi=>?_) (fun hi=>?_) rfl<;>simp at hi
    ·refine AW.skip ?_;try simp[-Int.natCast_ediv]
     have hw4:=Ap (i+n / 32) (by omega);have hw5:=Ap (i+n / 32+1) (by omega);have hw6:=Ap (i+1) (by omega);have q1:=hb.nth (i+n / 32);have q2:=hb.nth (i+n / 32+1);have m1:nth a (i+n / 32) % 18446744073709551616=nth a (i+n / 32):=by omega
     have m2:nth a (i+n / 32+1) % 18446744073709551616=nth a (i+n / 32+1):=by omega
     have m3:nth a (i+n / 32+1)*4294967296 % 18446744073709551616=nth a (i+n / 32+1)*4294967296:=by omega
     have m4:Gx .or .u64 (nth a (i+n / 32):Int) ((nth a (i+n / 32+1)*4294967296:Nat):Int)=((nth a (i+n / 32)+nth a (i+n / 32+1)*4294967296:Nat):Int):=by
      rw[Yi (by omega) (by omega),Qni q1]
     (repeat refine AW.seq ?_);refine AW.block ?_;(repeat refine AW.seq ?_);refine AW.rg ?_;simp[-Int.natCast_ediv];(repeat refine AW.seq ?_);refine AW.rg ?_;simp[-Int.natCast_add,-Int.natCast_ediv,hw4,m1];refine⟨by omega,?_⟩;refine AW.seq_has [(0,Am a),(1,.int .i64 n),(6,.int .i64 (n / 32:Nat)),(7,.bool t),(8,.osl bl 1 0 N),(9,.int .i64 (i:Nat)),(44,.int .i64 N),(45,.int .i64 (i:Nat)),(10,.int .u64 ((nth a (i+n / 32)+nth a (i+n / 32+1)*4294967296:Nat):Int))] (Ac.emp.set bl ⟨124,1,Bk o⟩) ?_ ?_
     ·(repeat refine AW.seq ?_);refine AW.rg ?_;simp[-Int.natCast_add,-Int.natCast_ediv,hw4,hw5];(repeat refine AW.seq ?_);refine AW.cs (fun hl=>?_) (fun hl=>?_) rfl<;>simp at hl
      ·(repeat refine AW.seq ?_);refine AW.rg ?_;simp[-Int.natCast_mul,-Int.natCast_add,-Int.natCast_ediv,hw4,hw5,m2,m3,m4,hl]
      ·refine AW.skip ?_;try simp[-Int.natCast_add,-Int.natCast_mul,-Int.natCast_ediv]
       simp[Mc hl]
     ·have hm:min (n % 32) 64=n % 32:=by omega
      have e:(nth a (i+n / 32)+nth a (i+n / 32+1)*4294967296) / 2^(n % 32) % 4294967296=x / 2^n / 4294967296^i % 4294967296:=by rw[←R6,hnth,hnth]
      (repeat refine AW.seq ?_);refine AW.rg ?_;simp[-Int.natCast_emod,-Int.natCast_add,-Int.natCast_mul,-Int.natCast_ediv,hm,hi,h4,e];(repeat refine AW.seq ?_);refine AW.rg ?_;simp[-Int.natCast_add,-Int.natCast_ediv,-Int.natCast_emod,-Int.natCast_mul,-Int.natCast_pow,hw6];refine⟨i+1,_,⟨by omega,h3.set i _ (Nat.mod_lt _ (by omega)),by simpa using h4,?_⟩,by omega,rfl,rfl⟩;rw[Bj _ _ _ (by omega),h5,Hy]
    ·have hiN:i=N:=by omega
     refine AW.exit ?_;try simp[-Int.natCast_ediv]
     refine⟨o,⟨h3,?_,by omega⟩,rfl,h4.symm⟩;rw[Aq o i (by omega)]at h5;rw[h5];apply Nat.mod_eq_of_lt;refine Nat.div_lt_of_lt_mul (Nat.lt_of_lt_of_le hx2 ?_);rw[Hn,Hn,←Nat.pow_add];exact Nat.pow_le_pow_right (by omega) (by omega)
   ·rintro o ⟨h1,h2,h3⟩;refine AW.toEmp [(7,.bool t),(8,Am o)] (by simp;exact C9 (e:=124) (by simp)) ?_;(repeat refine AW.seq ?_);refine AW.rg ?_;simp;refine Aa.val (Cv o (by omega)) ?_;rw[Cc h1,h2];try simp
    exact AW.ret (Ah [Am (Ao (x / 2^n)),.bool t] rfl (by simp) ⟨⟨_,rfl⟩,rfl⟩)
end Go.Av
end
section
namespace Go.Av
open Go.Proofs
def Jg (x y:Int):Int:=if x<y then -1 else if x=y then 0 else 1
theorem Qhx (x y:Int) (hx:x.natAbs<Bh) (hy:y.natAbs<Bh):Aj Tryz.prog 204 [Au x,Au y] Ac.emp fun v m=>v=.tup [.int .i64 (Jg x y),.int .i64 0]∧m=Ac.emp:=by
 have hb:=Pz x y hx hy;have lx:=Bg hx;have ly:=Bg hy;have hc:=Hq x.natAbs y.natAbs (by omega) (by omega);have ho:-1≤He x.natAbs y.natAbs∧He x.natAbs y.natAbs≤1:=by unfold He;split<;>(try split)<;>omega
 have hw:IntKind.i64.wrap (0-He x.natAbs y.natAbs)=0-He x.natAbs y.natAbs:=Ok (by omega);unfold Au at *;refine Ad Tryz.func204 rfl rfl 32 rfl (Nat.le_of_ble_eq_true rfl) ?_;(repeat refine AW.seq ?_);refine AW.rgR [2,3] ?_;simp[Ak];(repeat refine AW.seq ?_);refine AW.rg ?_;simp;refine Aa.val hb ?_;try simp
 refine AW.no ?_ rfl;refine AW.skip ?_;try simp
 (repeat refine AW.seq ?_);refine AW.rg ?_;simp;refine Aa.val hc ?_;try simp
 by_cases cx:x<0
 ·by_cases cy:y<0
  ·have e:Jg x y=0-He x.natAbs y.natAbs:=by
    unfold Jg He;split<;>split<;>(try split)<;>(try split)<;>omega
   (repeat refine AW.seq ?_);refine AW.block ?_;(repeat refine AW.seq ?_);refine AW.rg ?_;simp[cx,cy];refine AW.yes ?_ rfl;simp only[Int.zero_sub]at hw;(repeat refine AW.seq ?_);refine AW.rg ?_;simp[hw];exact AW.ret (Ah [.int .i64 (Jg x y),.int .i64 0] rfl (by simp[e]) ⟨rfl,rfl⟩)
  ·have e:Jg x y=-1:=by unfold Jg;rw[if_pos (by omega)]
   (repeat refine AW.seq ?_);refine AW.block ?_;(repeat refine AW.seq ?_);refine AW.rg ?_;simp[cx,cy];refine AW.no ?_ rfl;(repeat refine AW.seq ?_);refine AW.rg ?_;simp[cx,cy];refine AW.yes ?_ rfl;(repeat refine AW.seq ?_);refine AW.rg ?_;simp;exact AW.ret (Ah [.int .i64 (Jg x y),.int .i64 0] rfl (by simp[e]) ⟨rfl,rfl⟩)
 ·by_cases cy:y<0
  ·have e:Jg x y=1:=by unfold Jg;rw[if_neg (by omega),if_neg (by omega)]
   (repeat refine AW.seq ?_);refine AW.block ?_;(repeat refine AW.seq ?_);refine AW.rg ?_;simp[cx,cy];refine AW.no ?_ rfl;(repeat refine AW.seq ?_);refine AW.rg ?_;simp[cx,cy];refine AW.no ?_ rfl;(repeat refine AW.seq ?_);refine AW.rg ?_;simp[cx,cy];refine AW.yes ?_ rfl;(repeat refine AW.seq ?_);refine AW.rg ?_;simp;exact AW.ret (Ah [.int .i64 (Jg x y),.int .i64 0] rfl (by simp[e]) ⟨rfl,rfl⟩)
  ·have e:Jg x y=He x.natAbs y.natAbs:=by
    unfold Jg He;split<;>split<;>(try split)<;>(try split)<;>omega
   refine AW.seq_has [(6,.int .i64 (He x.natAbs y.natAbs))] Ac.emp ?_ ?_
   ·(repeat refine AW.seq ?_);refine AW.block ?_;(repeat refine AW.seq ?_);refine AW.rg ?_;simp[cx,cy];refine AW.no ?_ rfl;(repeat refine AW.seq ?_);refine AW.rg ?_;simp[cx,cy];refine AW.no ?_ rfl;(repeat refine AW.seq ?_);refine AW.rg ?_;simp[cx,cy];refine AW.no ?_ rfl;refine AW.skip ?_;try simp
   ·(repeat refine AW.seq ?_);refine AW.rg ?_;simp;exact AW.ret (Ah [.int .i64 (Jg x y),.int .i64 0] rfl (by simp[e]) ⟨rfl,rfl⟩)
end Go.Av
end
section
namespace Go.Av
open Go.Proofs
theorem Qbx (n:Int) (h1:-9223372036854775808≤n) (h2:n<9223372036854775808):Aj Tryz.prog 187 [.int .i64 n] Ac.emp fun v m=>v=Au n∧m=Ac.emp:=by
 refine Ad Tryz.func187 rfl rfl 25 rfl (Nat.le_of_ble_eq_true rfl) ?_;have hB:Bh=4294967296^126*4294967296^2:=by rw[←Nat.pow_add];rfl
 have hp:1≤4294967296^126:=Nat.pow_pos (by omega);have hlt:n.natAbs<Bh:=by
  rw[hB]
  calc n.natAbs<1*4294967296^2:=by omega
   _≤_:=Nat.mul_le_mul_right _ hp
 (repeat refine AW.seq ?_);refine AW.rg ?_;simp[Ak];refine Af.intro fun b2 _=>?_;(repeat refine AW.seq ?_);refine AW.rg ?_;simp;refine AW.seq_has [(0,.int .i64 n),(2,.ptr b2 2 0 0),(3,.int .u64 (n.natAbs:Nat))] (Ac.emp.set b2 ⟨42,2,[.agg [.bool false,.nil]]⟩) ?_ ?_
 ·(repeat refine AW.seq ?_);refine AW.rg ?_;simp;(repeat refine AW.seq ?_);refine AW.cs (fun hn=>?_) (fun hn=>?_) rfl<;>simp at hn
  ·(repeat refine AW.seq ?_);refine AW.rg ?_;simp;omega
  ·refine AW.skip ?_;try simp
   omega
 have m1:n.natAbs / 4294967296<4294967296:=by omega
 have hv:val [n.natAbs % 4294967296,n.natAbs / 4294967296 % 4294967296]=n.natAbs:=by simp[val];omega
 have hr:=Cx (decide (n<0)) [n.natAbs % 4294967296,n.natAbs / 4294967296 % 4294967296] (fun z hz=>by
  simp at hz;rcases hz with rfl | rfl<;>exact Nat.mod_lt _ (by omega)) (by simp)
 have e:Bv (if decide (n<0)=true then -(val [n.natAbs % 4294967296,n.natAbs / 4294967296 % 4294967296]:Int) else val [n.natAbs % 4294967296,n.natAbs / 4294967296 % 4294967296])=.tup [Au n,.int .i64 0]:=by
  rw[hv];have e2:(if decide (n<0)=true then -(n.natAbs:Int) else n.natAbs)=n:=by
   by_cases hn:n<0<;>simp[hn]<;>omega
  rw[e2,Bv,Q6 hlt,R4 hlt]
 rw[e]at hr;(repeat refine AW.seq ?_);refine AW.rgR [20] ?_;simp[-Int.natCast_ediv,-Int.natCast_emod];refine Aa.val hr ?_;simp[-Int.natCast_ediv,-Int.natCast_emod,Au];refine Af.intro fun b4 h4=>?_;have e4:b2≠b4:=by rintro rfl;simp at h4
 (repeat refine AW.seq ?_);refine AW.rg ?_;simp[-Int.natCast_ediv,-Int.natCast_emod,e4];exact AW.ret (Ah (vs:=[.agg [.bool (decide (n<0)),Am (Ao n.natAbs)]]) [.agg [.bool (decide (n<0)),Am (Ao n.natAbs)]] (by simp[-Int.natCast_ediv,-Int.natCast_emod]) (by simp[-Int.natCast_ediv,-Int.natCast_emod]) ⟨rfl,rfl⟩)
end Go.Av
end
section
namespace Go.Av
open Go.Proofs
section
variable {P:Program} {av:Nat→Prop} {f:FuncId} {args:List AV} {m:Ac} {k:AV→Ac→Prop}
theorem Aa.borrow {R:AV→Prop} (args':List AV) (hv:D9 m Ac.emp args args') (h:Aj P f args' Ac.emp fun v m'=>R v∧m'=Ac.emp) (hk:∀v,R v→v.flat=true∧k v m):Aa P av f args m k :=
 .inr ⟨args',_,⟨(Di hv).1,(Di hv).2⟩,h,fun v _ hr=>hk v hr.1⟩
theorem Aa.grant {R:AV→Fi→Prop} (b:Nat) (x:Fi) (hb:m b=some x) (ha:¬av b) (h:Aj P f args (Ac.emp.set b x) fun v m'=>∃x',R v x'∧m'=Ac.emp.set b x') (hk:∀v x',R v x'→k v (m.set b x')):Aa P av f args m k:=by
 refine .inl ⟨Ac.emp.set b x,_,fun c y hy=>?_,h,?_⟩
 ·simp only[A9,Ay]at hy;split at hy
  ·rename_i e;subst e;cases hy;exact⟨hb,ha⟩
  ·cases hy
 ·rintro v g' ⟨x',hr,rfl⟩ _;have e:Ey m (Ac.emp.set b x) (Ac.emp.set b x')=m.set b x':=by
   funext c
   unfold Ey;simp only[A9,Ay];by_cases hc:c=b
   ·simp[hc]
   ·simp[hc]
  rw[e];exact hk v x' hr
end
theorem Qe2 {y lb s:Nat} (hs:s≤32) (ht:y / 4294967296^lb*2^s<4294967296):y*2^s<4294967296^(lb+1):=by
 have hp:0<4294967296^lb:=Nat.pow_pos (by omega);have h1:y<4294967296^lb*(y / 4294967296^lb+1):=Nat.lt_mul_div_succ y hp;have h2:2^s*2^(32-s)=4294967296:=by rw[←Nat.pow_add,show s+(32-s)=32 by omega]
 generalize y / 4294967296^lb=t at *;have h3:t<2^(32-s):=by
  have:t*2^s<2^(32-s)*2^s:=by rw[Nat.mul_comm (2^(32-s)),h2];exact ht
  exact Nat.lt_of_mul_lt_mul_right this
 have h4:(t+1)*2^s≤4294967296:=by
  calc (t+1)*2^s≤2^(32-s)*2^s:=Nat.mul_le_mul_right _ h3
   _=4294967296:=by rw[Nat.mul_comm,h2]
 calc y*2^s<4294967296^lb*(t+1)*2^s:=Nat.mul_lt_mul_of_pos_right h1 (Nat.pow_pos (by omega))
  _=4294967296^lb*((t+1)*2^s):=Nat.mul_assoc _ _ _
  _≤4294967296^lb*4294967296:=Nat.mul_le_mul_left _ h4
  _=4294967296^(lb+1):=(Nat.pow_succ ..).symm
theorem Qn9 (x k:Nat):val (Ao x++List.replicate k 0)=x:=by rw[G3,Ax,J9,Nat.mul_zero,Nat.add_zero]
theorem Qhr {B x2 V O u O' q:Nat} (h1:x2=O*V+u) (hq:q=u / B / V) (hO:O'=O+B*q):x2=O'*V+u % (V*B):=by
 rw[hO,h1,hq,Nat.div_div_eq_div_mul,Nat.add_mul];have h:=Nat.div_add_mod u (V*B);rw[Nat.mul_comm B V];have e:B*(u / (V*B))*V=V*B*(u / (V*B)):=by ac_rfl
 omega
theorem Qc4 {x y s O u:Nat} (h:x*2^s=O*(y*2^s)+u) (hu:u<y*2^s):O=x / y∧u / 2^s=x % y:=by
 have hp:0<2^s:=Nat.pow_pos (by omega);have hy:0<y:=by
  rcases Nat.eq_zero_or_pos y with rfl|h
  ·simp at hu
  ·exact h
 have h1:x*2^s / (y*2^s)=O:=Nat.div_eq_of_lt_le (by omega) (by rw[Nat.add_mul];omega);rw[Nat.mul_div_mul_right _ _ hp]at h1;refine⟨h1.symm,?_⟩;have h2:u=x % y*2^s:=by
  have h3:=Nat.div_add_mod x y;rw[h1]at h3;have h4:x*2^s=O*(y*2^s)+x % y*2^s:=by
   rw[←Nat.mul_assoc,←Nat.add_mul]
   congr 1
   rw[Nat.mul_comm O y];exact h3.symm
  omega
 rw[h2,Nat.mul_div_cancel _ hp]
theorem Z9 (m:Ac) {b c:Nat} (h:b≠c) (x y z:Fi):((m.set b x).set c y).set b z=(m.set b z).set c y:=by
 rw[Qi2 _ _ _ (Ne.symm h),set_set]
theorem Qjo {x y:Nat}:He x y<0↔x<y:=by unfold He;split<;>(try split)<;>omega
theorem Rl (x y:Nat) (hy:y≠0) (lx:(Ao x).length<2^30) (ly:(Ao y).length<2^30):Aj Tryz.prog 121 [Am (Ao x),Am (Ao y)] Ac.emp fun v m=>v=.tup [Am (Ao (x / y)),Am (Ao (x % y))]∧m=Ac.emp:=by
 refine Ad Tryz.func121 rfl rfl 94 rfl (Nat.le_of_ble_eq_true rfl) ?_;have hdx:=E9 x;have hdy:=E9 y;have hby:=A6 y;have hyl:y<4294967296^(Ao y).length:=A1.1 (Nat.le_refl _);have hxl:x<4294967296^(Ao x).length:=A1.1 (Nat.le_refl _);(repeat refine AW.seq_k fun K hK=>?_);refine AW.rg ?_;simp[Ak];try (refine hK _ rfl ?_;clear hK K)
 refine AW.seq_ex (ι:=Unit) (fun _=>[(0,Am (Ao x)),(1,Am (Ao y)),(4,.nil),(5,.nil)]) (fun _=>Ac.emp) (fun _=>y≤x) ?_ ?_
 ·(repeat refine AW.seq_k fun K hK=>?_);refine AW.rg ?_;simp;try (refine hK _ rfl ?_;clear hK K)
  refine Aa.val (Hq x y (by omega) (by omega)) ?_;simp[Qjo];refine hK _ rfl ?_;clear hK K;(repeat refine AW.seq ?_);refine AW.cs (fun h=>?_) (fun h=>?_) rfl<;>simp at h
  ·(repeat refine AW.seq_k fun K hK=>?_);refine AW.rg ?_;simp;try (refine hK _ rfl ?_;clear hK K)
   rw[Nat.div_eq_of_lt h,Nat.mod_eq_of_lt h,Be];exact AW.ret (Ah [Am [],Am (Ao x)] rfl (by simp) ⟨rfl,rfl⟩)
  ·refine AW.skip ?_;try simp
   exact h
 rintro _ hxy;refine AW.seq_ex (ι:=Unit) (fun _=>[(0,Am (Ao x)),(1,Am (Ao y)),(4,.nil),(5,.nil)]) (fun _=>Ac.emp) (fun _=>(Ao y).length≠1) ?_ ?_
 ·(repeat refine AW.seq_k fun K hK=>?_);refine AW.rg ?_;simp;try (refine hK _ rfl ?_;clear hK K)
  (repeat refine AW.seq ?_);refine AW.cs (fun h=>?_) (fun h=>?_) rfl<;>simp at h
  ·have y1:y<4294967296:=by rw[h]at hyl;simpa using hyl
   have e0:nth (Ao y) 0=y:=by rw[hdy];simp;omega
   (repeat refine AW.seq_k fun K hK=>?_);refine AW.rg ?_;simp[h,e0];try (refine hK _ rfl ?_;clear hK K)
   refine Aa.val (Qe9 x y hy y1 (by omega)) ?_;simp[-Int.natCast_emod];refine hK _ rfl ?_;clear hK K;(repeat refine AW.seq_k fun K hK=>?_);refine AW.rgR [34] ?_;simp[-Int.natCast_emod];try (refine hK _ rfl ?_;clear hK K)
   refine Aa.val (Cv [x % y] (by simp)) ?_;have hr:x % y<y:=Nat.mod_lt _ (by omega);have e:E0 [x % y]=Ao (x % y):=by
    rw[Cc (fun z hz=>by simp at hz;omega)];simp[val]
   rw[e];simp[-Int.natCast_emod];refine hK _ rfl ?_;clear hK K;exact AW.ret (Ah [Am (Ao (x / y)),Am (Ao (x % y))] rfl (by simp[-Int.natCast_emod]) ⟨rfl,rfl⟩)
  ·refine AW.skip ?_;try simp
   exact h
 rintro _ hlen;have hlen0:(Ao y).length≠0:=by
  intro h;rw[h]at hyl;simp at hyl;omega
 obtain⟨n,hn⟩:∃n,(Ao y).length=n+2:=⟨(Ao y).length-2,by omega⟩;have hle:(Ao y).length≤(Ao x).length:=K2 hxy;rw[hn]at hyl;have htop:nth (Ao y) (n+1)=y / 4294967296^(n+1):=by rw[hdy,Pe hyl]
 have hvt:=A6 (y);have hl1:=hby.nth (n+1);have i1:n+1<n+2:=by omega
 have w1:IntKind.i64.wrap (((n+2:Nat):Int)-1)=((n+1:Nat):Int):=by rw[Ok (by omega)];omega
 (repeat refine AW.seq_k fun K hK=>?_);refine AW.rg ?_;simp[-Int.natCast_add,hn,w1,i1];try (refine hK _ rfl ?_;clear hK K)
 refine Aa.pure (Qou (nth (Ao y) (n+1)) hl1) ?_;rintro _ ⟨s,s1,s2,s3,rfl⟩;rw[htop]at s2;have hv2:=Qe2 s1 s2;simp[-Int.natCast_add];refine hK _ rfl ?_;clear hK K;(repeat refine AW.seq_k fun K hK=>?_);refine AW.rg ?_;simp[-Int.natCast_add];try (refine hK _ rfl ?_;clear hK K)
 refine Aa.val (Vd y s (by omega) (by omega)) ?_;simp[-Int.natCast_add];refine hK _ rfl ?_;clear hK K;have hvl:(Ao (y*2^s)).length=n+2:=by
  have h1:(Ao (y*2^s)).length≤n+2:=A1.2 hv2;have h2:(Ao y).length≤(Ao (y*2^s)).length:=K2 (Nat.le_mul_of_pos_right y (Nat.pow_pos (by omega)));omega
 generalize hla:(Ao x).length=la at *;have w2:=Ap (la+1) (by omega);(repeat refine AW.seq_k fun K hK=>?_);refine AW.rg ?_;simp[-Int.natCast_mul,-Int.natCast_add,hla,w2];try (refine hK _ rfl ?_;clear hK K)
 refine⟨by omega,Af.intro fun bu _=>?_⟩;simp only[C4];refine hK _ rfl ?_;clear hK K;(repeat refine AW.seq_k fun K hK=>?_);refine AW.rg ?_;simp[-Int.natCast_add];try (refine hK _ rfl ?_;clear hK K)
 refine Aa.val (Vd x s (by omega) (by omega)) ?_;simp[-Int.natCast_add];generalize hx2:x*2^s=x2 at *;generalize hy2:y*2^s=y2 at *;have hy2p:0<y2:=by rw[←hy2];exact Nat.mul_pos (Nat.pos_of_ne_zero hy) (Nat.pow_pos (by omega))
 have hxb:x2<4294967296^(la+1):=by
  rw[←hx2,Nat.pow_succ]
  calc x*2^s≤x*4294967296:=Nat.mul_le_mul_left _ (by rw[show(4294967296:Nat)=2^32 from rfl];exact Nat.pow_le_pow_right (by omega) s1)
   _<4294967296^la*4294967296:=Nat.mul_lt_mul_of_pos_right hxl (by omega)
 have hdl:(Ao x2).length≤la+1:=A1.2 hxb;have eU:(Bk (Ao x2)).take (la+1)++(Bk (List.replicate (la+1) 0)).drop (min (Ao x2).length (la+1))=Bk (Ao x2++List.replicate (la+1-(Ao x2).length) 0):=by
  rw[Nat.min_eq_left hdl,List.take_of_length_le (by simpa using hdl),Qo,List.drop_replicate,Rt]
 rw[eU];have hU1:Lb (Ao x2++List.replicate (la+1-(Ao x2).length) 0):=by
  intro z hz;rcases List.mem_append.1 hz with h | h
  ·exact A6 _ z h
  ·exact Lb.rep _ z h
 have hU2:(Ao x2++List.replicate (la+1-(Ao x2).length) 0).length=la+1:=by simp;omega
 have hU3:=Qn9 x2 (la+1-(Ao x2).length);generalize Ao x2++List.replicate (la+1-(Ao x2).length) 0=U0 at *;clear eU;refine hK _ rfl ?_;clear hK K;have w3:IntKind.i64.wrap ((la:Int)-((n+2:Nat):Int))=((la-(n+2):Nat):Int):=by rw[Ok (by omega)];omega
 obtain⟨N,hN⟩:∃N,la-(n+2)=N:=⟨_,rfl⟩;have w4:=Ap (N+1) (by omega);rw[hN]at w3;(repeat refine AW.seq_k fun K hK=>?_);refine AW.rg ?_;simp[-Int.natCast_mul,-Int.natCast_add,hla,hn,w3,w4];try (refine hK _ rfl ?_;clear hK K)
 refine⟨by omega,Af.intro fun bo hbo=>?_⟩;have hne:bu≠bo:=by rintro rfl;simp at hbo
 have hne':bo≠bu:=Ne.symm hne;simp only[C4];refine hK _ rfl ?_;clear hK K;have hlaN:la=N+(n+2):=by omega
 have hV2:nth (Ao y2) (n+1)≠0:=by
  intro h;have h1:=E9 y2 (n+1);rw[h,Pe (by rw[←hvl];exact A1.1 (Nat.le_refl _))]at h1;have h2:y2<4294967296^(n+1):=(Nat.div_eq_zero_iff_lt (Nat.pow_pos (by omega))).1 h1.symm;have:=A1.2 h2;omega
 have hvd:=Ax y2;have hbd:=A6 y2;have hinit:val U0<y2*4294967296^(N+1):=by
  rw[hU3];have hb:4294967296^(n+1)≤y2:=by
   rcases Nat.lt_or_ge y2 (4294967296^(n+1))with h|h
   ·have:=A1.2 h;omega
   ·exact h
  rw[←hx2,←hy2];have hyb:4294967296^(n+1)≤y:=by
   rcases Nat.lt_or_ge y (4294967296^(n+1))with h|h
   ·have:=A1.2 h;omega
   ·exact h
  calc x*2^s<4294967296^la*2^s:=Nat.mul_lt_mul_of_pos_right hxl (Nat.pow_pos (by omega))
   _=4294967296^(n+1)*4294967296^(N+1)*2^s:=by rw[←Nat.pow_add];congr 2;omega
   _≤y*4294967296^(N+1)*2^s:=Nat.mul_le_mul_right _ (Nat.mul_le_mul_right _ hyb)
   _=y*2^s*4294967296^(N+1):=by ac_rfl
 generalize hD:Ao y2=D at *;refine AW.seq_ex (ι:=List Nat × List Nat) (fun z=>[(8,.int .i64 s),(10,.osl bu 1 0 (la+1)),(11,.osl bo 1 0 (N+1))]) (fun z=>(Ac.emp.set bu ⟨124,1,Bk z.1⟩).set bo ⟨124,1,Bk z.2⟩)
  (fun z=>Lb z.1∧z.1.length=la+1∧Lb z.2∧z.2.length=N+1∧val z.1<y2∧x2=val z.2*y2+val z.1) ?_ ?_
 ·(repeat refine AW.seq_k fun K hK=>?_);refine AW.rg ?_;simp[-Int.natCast_add];try (refine hK _ rfl ?_;clear hK K)
  refine AW.block (AW.loopS (ι:=Nat × List Nat × List Nat) (fun z=>[(8,.int .i64 s),(9,Am D),(10,.osl bu 1 0 (la+1)),(11,.osl bo 1 0 (N+1)),(63,.int .i64 (N+1:Nat)),(64,.int .i64 (z.1:Nat))]) (fun z=>(Ac.emp.set bu ⟨124,1,Bk z.2.1⟩).set bo ⟨124,1,Bk z.2.2⟩)
   (fun z=>z.1≤N+1∧Lb z.2.1∧z.2.1.length=la+1∧Lb z.2.2∧z.2.2.length=N+1∧val z.2.1<y2*4294967296^(N+1-z.1)∧x2=val z.2.2*y2+val z.2.1∧∀i,i<N+1-z.1→nth z.2.2 i=0) (fun z=>N+1-z.1) (0,U0,List.replicate (N+1) 0)
   ⟨by simp,hU1,hU2,Lb.rep _,by simp,hinit,by simp[J9,hU3],by simp⟩ rfl (by simp[-Int.natCast_add]) ?_)
  rintro⟨k,u,o⟩ ⟨h1,h2,h3,h4,h5,h6,h7,h8⟩;simp only at h1 h2 h3 h4 h5 h6 h7 h8;simp only;(repeat refine AW.seq_k fun K hK=>?_);refine AW.rg ?_;simp[-Int.natCast_add];try (refine hK _ rfl ?_;clear hK K)
  (repeat refine AW.seq ?_);refine AW.cs (fun hk=>?_) (fun hk=>?_) rfl<;>simp at hk
  ·refine AW.skip ?_;try simp[-Int.natCast_add]
   obtain⟨j,hj⟩:∃j,N+1-k=j+1:=⟨N-k,by omega⟩;have hj2:N+1-(k+1)=j:=by omega
   rw[hj]at h6 h8;have w5:IntKind.i64.wrap (((N+1:Nat):Int)-1)=(N:Int):=by rw[Ok (by omega)];omega
   have w6:IntKind.i64.wrap ((N:Int)-(k:Int))=(j:Int):=by rw[Ok (by omega)];omega
   have w7:=Ap (k+1) (by omega);have hjN:j<N+1:=by omega
   have hdg:=Qd6 u D j n h2 hbd hvl (by omega) (by omega) hV2 (by rw[hvd];exact h6);rw[hvd]at hdg;(repeat refine AW.seq ?_);refine AW.block ?_;(repeat refine AW.seq_k fun K hK=>?_);refine AW.rg ?_;simp[-Int.natCast_add];try (refine hK _ rfl ?_;clear hK K)
   (repeat refine AW.seq_k fun K hK=>?_);refine AW.rg ?_;simp[-Int.natCast_add,w5,w6];try (refine hK _ rfl ?_;clear hK K)
   (repeat refine AW.seq_k fun K hK=>?_);refine AW.rg ?_;simp[-Int.natCast_add];try (refine hK _ rfl ?_;clear hK K)
   refine Aa.borrow [Am u,.int .i64 j,Am D] ⟨by rw[←h3];exact E3 (e:=124) (by simp[hne]) rfl,by simp⟩ hdg ?_;rintro _ ⟨q,q1,q2,q3,rfl⟩;refine⟨rfl,?_⟩;simp[-Int.natCast_add];have htk:=Qid u D j (n+2) q bu h2 hbd hvl (by omega) (by omega) q1 (by rw[hvd];exact h6) (by rw[hvd];exact q2) (by rw[hvd];exact q3);rw[hvd,h3]at htk;refine Aa.grant (R:=fun v x'=>∃u',v=.int .u32 ((val u / 4294967296^j / y2:Nat))∧x'=⟨124,1,Bk u'⟩∧Lb u'∧u'.length=la+1∧val u'=val u % (y2*4294967296^j)) bu ⟨124,1,Bk u⟩ (by simp[hne]) (by simp) (htk.mono ?_) ?_
   ·rintro v g ⟨u',e1,e2,e3,e4,e5⟩;exact⟨_,⟨u',e1,rfl,e3,e4,e5⟩,e2⟩
   rintro _ _ ⟨u',rfl,rfl,e3,e4,e5⟩;have hqd:val u / 4294967296^j / y2<4294967296:=by
    rw[Nat.div_div_eq_div_mul];refine Nat.div_lt_of_lt_mul ?_;rw[Nat.pow_succ]at h6
    calc val u<y2*(4294967296^j*4294967296):=h6
     _=4294967296^j*y2*4294967296:=by ac_rfl
   have hset:=Ia o j (val u / 4294967296^j / y2) (by omega);rw[h8 j (by omega),Nat.mul_zero,Nat.add_zero]at hset;have hst:=Qhr (B:=4294967296^j) h7 rfl hset;generalize val u / 4294967296^j / y2=qd at *;simp[-Int.natCast_add,hne,hne',hjN,h5];rw[Z9 _ hne,set_set];(repeat refine AW.seq_k fun K hK=>?_);refine AW.rg ?_;simp[-Int.natCast_add,w7];try (refine hK _ rfl ?_;clear hK K)
   refine⟨k+1,u',o.set j qd,⟨hk,e3,e4,h4.set _ _ hqd,by simpa using h5,?_,?_,?_⟩,by omega,rfl,rfl⟩
   ·rw[hj2,e5];exact Nat.mod_lt _ (Nat.mul_pos hy2p (Nat.pow_pos (by omega)))
   ·rw[e5];exact hst
   ·intro i hi;rw[hj2]at hi;rw[Ny _ (by omega)];exact h8 i (by omega)
  ·refine AW.exit ?_;try simp[-Int.natCast_add]
   have e0:N+1-k=0:=by omega
   rw[e0,Nat.pow_zero,Nat.mul_one]at h6;exact⟨u,o,⟨h2,h3,h4,h5,h6,h7⟩,rfl⟩
 rintro⟨u,o⟩ ⟨h2,h3,h4,h5,h6,h7⟩;simp only at h2 h3 h4 h5 h6 h7;simp only;rw[←hx2,←hy2]at h7;rw[←hy2]at h6;obtain⟨g1,g2⟩:=Qc4 h7 h6;refine AW.toEmp [(8,.int .i64 s),(10,Am u),(11,Am o)] (by
  simp;exact⟨by rw[←h3];exact E3 (e:=124) (by simp[hne]) rfl,by rw[←h5];exact E3 (e:=124) (by simp) rfl⟩) ?_
 (repeat refine AW.seq_k fun K hK=>?_);refine AW.rg ?_;simp;try (refine hK _ rfl ?_;clear hK K)
 refine Aa.val (Cv u (by omega)) ?_;rw[Cc h2];simp;refine Aa.pure (Qb0 (val u) s (by omega) (by have:=A1.2 (Kq h2);omega)) ?_;rintro _ ⟨t,rfl⟩;rw[g2];simp;refine hK _ rfl ?_;clear hK K;(repeat refine AW.seq_k fun K hK=>?_);refine AW.rg ?_;simp;try (refine hK _ rfl ?_;clear hK K)
 refine Aa.val (Cv o (by omega)) ?_;rw[Cc h4,g1];simp;refine hK _ rfl ?_;clear hK K;exact AW.ret (Ah [Am (Ao (x / y)),Am (Ao (x % y))] rfl (by simp) ⟨rfl,rfl⟩)
end Go.Av
end
section
namespace Go.Av
def Qkp (b:Nat):AV→Prop
 |.ptr b' _ _ _=>b'=b
 |_=>True
def Qkt:AV→Prop
 |.ptr _ _ _ _=>False
 |_=>True
def Qd9 (bs:List Nat):AV→Prop
 |.ptr b _ _ _=>b ∉ bs
 |_=>True
@[simp] theorem Qu1 (b b' z i j:Nat):Qkp b (.ptr b' z i j)↔b'=b:=Iff.rfl
@[simp] theorem Qwa (b:Nat):Qkp b .any↔True:=Iff.rfl
@[simp] theorem Qto (l:List AV):Qkt (.rptr l)↔True:=Iff.rfl
@[simp] theorem Quv:Qkt .any↔True:=Iff.rfl
@[simp] theorem Qt4 (bs:List Nat) (b z i j:Nat):Qd9 bs (.ptr b z i j)↔b ∉ bs:=Iff.rfl
@[simp] theorem Qt5 (bs:List Nat):Qd9 bs .any↔True:=Iff.rfl
section
variable {P:Program} {Q:Exit→St→Prop} {s:St}
theorem AW.rdT {id:Nat} {ops:Array Oper} (l:List (Nat × Nat)) (rp wo bs:List Nat) (plan:List Nat) (hm:P.follows .mixedOrders=true) (hp1:∀p∈l,Qkp p.2 (s.r p.1)) (hp2:(l.map (·.2)).Nodup)
  (hrp:∀r∈rp,Qkt (s.r r)) (hwo:∀r∈wo,Qd9 bs (s.r r)) (hb:∀b∈bs,s.m b≠none)
  (h:Cg P ⟨fun _=>false,fun c=>c∈bs,true⟩ ops plan (Q .normal) s)
  (hok:B3 s.n ops=true:=by kernel_rfl) (hp:Hu P (fun _=>false) ⟨I0 (l.map (·.1)),I0 rp,I0 wo⟩ ops plan=true:=by kernel_rfl):AW P (.region id ops true) Q s:=by
 refine AW.rdS l rp wo bs plan hm (fun p hp b z i j he=>?_) hp2 (fun r hr b z i j he=>?_) (fun r hr b z i j he=>?_) hb h hok hp
 ·have:=hp1 p hp;rw[he]at this;exact this
 ·have:=hrp r hr;rw[he]at this;exact this
 ·have:=hwo r hr;rw[he]at this;exact this
end
end Go.Av
namespace Go.Av
theorem An (m:Ac) (c:Nat) (x:Fi) (b:Nat):(m.set c x) b=none↔(b≠c∧c≠b)∧m b=none:=by
 simp only[A9];by_cases h:b=c
 ·simp[h]
 ·rw[if_neg h];simp[h,Ne.symm h]
end Go.Av
end
section
namespace Go.Av
open Go.Proofs
def dmQ (x y:Int):Nat:=if (decide (x<0) != decide (y<0))=true∧x.natAbs % y.natAbs≠0 then x.natAbs / y.natAbs+1 else x.natAbs / y.natAbs
def dmR (x y:Int):Nat:=if (decide (x<0) != decide (y<0))=true∧x.natAbs % y.natAbs≠0 then y.natAbs-x.natAbs % y.natAbs else x.natAbs % y.natAbs
theorem S8 {x y:Int} (hy:y≠0):(if (decide (x<0) != decide (y<0))=true then -(dmQ x y:Int) else dmQ x y)=x.fdiv y∧(if decide (y<0)=true then -(dmR x y:Int) else dmR x y)=x.fmod y:=by
 have hr:x.natAbs % y.natAbs<y.natAbs:=Nat.mod_lt _ (by omega);have hd:=Nat.div_add_mod x.natAbs y.natAbs;unfold dmQ dmR;generalize x.natAbs / y.natAbs=q at *;generalize x.natAbs % y.natAbs=r at *;have hd2:((x.natAbs:Nat):Int)=((y.natAbs:Nat):Int)*(q:Int)+(r:Int):=by rw[←hd,Int.natCast_add,Int.natCast_mul]
 have key:∀{q' r':Int},r'+y*q'=x→(0<y→0≤r'∧r'<y)→(y<0→y<r'∧r'≤0)→q'=x.fdiv y∧r'=x.fmod y:=by
  intro q' r' h1 h2 h3;rcases Int.lt_or_gt_of_ne hy with h | h
  ·obtain⟨a,b⟩:=(Int.fdiv_fmod_unique' h).2 ⟨h1,h3 h⟩;exact⟨a.symm,b.symm⟩
  ·obtain⟨a,b⟩:=(Int.fdiv_fmod_unique h).2 ⟨h1,h2 h⟩;exact⟨a.symm,b.symm⟩
 by_cases cx:x<0
 ·have ex:x=-((x.natAbs:Nat):Int):=by omega
  by_cases cy:y<0
  ·have ey:((y.natAbs:Nat):Int)=-y:=by omega
   rw[ey]at hd2;simp only[cx,cy,decide_true,bne_self_eq_false,Bool.false_eq_true,false_and,if_false,if_true];refine key ?_ (fun h=>by omega) (fun h=>by omega);rw[ex,hd2,Int.neg_mul,Int.neg_add,Int.neg_neg];omega
  ·have ey:((y.natAbs:Nat):Int)=y:=by omega
   rw[ey]at hd2;by_cases h0:r=0
   ·subst h0;simp only[cx,cy,decide_true,decide_false,Bool.bne_false,ne_eq,not_true_eq_false,and_false,if_false,if_true,Bool.false_eq_true];refine key ?_ (fun h=>by omega) (fun h=>by omega);rw[ex,hd2,Int.mul_neg];simp
   ·simp only[cx,cy,decide_true,decide_false,Bool.bne_false,ne_eq,h0,not_false_eq_true,and_self,if_true,Bool.false_eq_true,if_false];refine key ?_ (fun h=>by omega) (fun h=>by omega);rw[Int.mul_neg,Int.natCast_add,Int.mul_add,ex,hd2];have:((y.natAbs-r:Nat):Int)=y-r:=by omega
    rw[this];simp;omega
 ·have ex:x=((x.natAbs:Nat):Int):=by omega
  by_cases cy:y<0
  ·have ey:((y.natAbs:Nat):Int)=-y:=by omega
   rw[ey]at hd2;by_cases h0:r=0
   ·subst h0;simp only[cx,cy,decide_true,decide_false,Bool.bne_true,Bool.not_false,ne_eq,not_true_eq_false,and_false,if_false,if_true];refine key ?_ (fun h=>by omega) (fun h=>by omega);rw[ex,hd2,Int.mul_neg,Int.neg_mul];simp
   ·simp only[cx,cy,decide_true,decide_false,Bool.bne_true,Bool.not_false,ne_eq,h0,not_false_eq_true,and_self,if_true];refine key ?_ (fun h=>by omega) (fun h=>by omega);rw[Int.mul_neg,Int.natCast_add,Int.mul_add,ex,hd2];have:((y.natAbs-r:Nat):Int)=-y-r:=by omega
    rw[this,Int.neg_mul];simp;omega
  ·have ey:((y.natAbs:Nat):Int)=y:=by omega
   rw[ey]at hd2;simp only[cx,cy,decide_false,bne_self_eq_false,Bool.false_eq_true,false_and,if_false];refine key ?_ (fun h=>by omega) (fun h=>by omega);rw[ex,hd2];omega
theorem Qfa (x y:Int) (hy:y≠0):dmQ x y≤x.natAbs:=by
 unfold dmQ;split
 ·rename_i h
  have hr:x.natAbs % y.natAbs<y.natAbs:=Nat.mod_lt _ (by omega);have hd:=Nat.div_add_mod x.natAbs y.natAbs;have:x.natAbs / y.natAbs≤y.natAbs*(x.natAbs / y.natAbs):=Nat.le_mul_of_pos_left _ (by omega);omega
 ·exact Nat.div_le_self _ _
theorem Qc7 (x y:Int) (hy:y≠0):dmR x y<y.natAbs:=by
 have hr:x.natAbs % y.natAbs<y.natAbs:=Nat.mod_lt _ (by omega);unfold dmR;split
 ·omega
 ·exact hr
theorem Sv {x y:Int} (hx:x.natAbs<Bh) (hy:y≠0):(x.fdiv y).natAbs<Bh:=by
 have:=Qfa x y hy;rw[←(S8 (x:=x) hy).1];split<;>omega
theorem Tb {x y:Int} (hx:y.natAbs<Bh) (hy:y≠0):(x.fmod y).natAbs<Bh:=by
 have:=Qc7 x y hy;rw[←(S8 (x:=x) hy).2];split<;>omega
theorem H2 (x y:Int) (hx:x.natAbs<Bh) (hy:y.natAbs<Bh) (h0:y≠0):Aj Tryz.prog 202 [Au x,Au y] Ac.emp fun v m=>v=.tup [Au (x.fdiv y),Au (x.fmod y),.int .i64 0]∧m=Ac.emp:=by
 have hb:=Pz x y hx hy;have lx:=Bg hx;have ly:=Bg hy;have hq:=Qfa x y h0;have hr:=Qc7 x y h0;obtain⟨s1,s2⟩:=S8 (x:=x) h0;have f1:=Sv hx h0;have f2:=Tb (x:=x) hy h0;have lq:(Ao (dmQ x y)).length≤128:=Bg (by omega);have lr:(Ao (dmR x y)).length≤128:=Bg (by omega);have r1:=Cx (decide (x<0) != decide (y<0)) (Ao (dmQ x y)) (A6 _) (by omega);have r2:=Cx (decide (y<0)) (Ao (dmR x y)) (A6 _) (by omega);rw[Ax,s1,Bv,Q6 f1,R4 f1,bne]at r1;rw[Ax,s2,Bv,Q6 f2,R4 f2]at r2
 have hyl:(Ao y.natAbs).length≠0:=by
  intro h;have:=Cq.1 (List.eq_nil_of_length_eq_zero h);omega
 have hdv:=Rl x.natAbs y.natAbs (by omega) (by omega) (by omega);have hmr:x.natAbs % y.natAbs<y.natAbs:=Nat.mod_lt _ (by omega);have hql:(Ao (x.natAbs / y.natAbs)).length≤128:=Bg (Nat.lt_of_le_of_lt (Nat.div_le_self _ _) hx);have hdq:dmQ x y=if (decide (x<0) != decide (y<0))=true∧x.natAbs % y.natAbs≠0 then x.natAbs / y.natAbs+1 else x.natAbs / y.natAbs:=rfl
 have hdr:dmR x y=if (decide (x<0) != decide (y<0))=true∧x.natAbs % y.natAbs≠0 then y.natAbs-x.natAbs % y.natAbs else x.natAbs % y.natAbs:=rfl
 generalize dmQ x y=Q at *;generalize dmR x y=R at *;unfold Au at *;generalize hsx:decide (x<0)=sx at *;generalize hsy:decide (y<0)=sy at *;generalize hX:x.natAbs=X at *;generalize hY:y.natAbs=Y at *;generalize decide (x.fdiv y<0)=sq at *;generalize decide (x.fmod y<0)=sr at *;generalize(x.fdiv y).natAbs=q' at *;generalize(x.fmod y).natAbs=r' at *;refine Ad Tryz.func202 rfl rfl 74 rfl (Nat.le_of_ble_eq_true rfl) ?_;(repeat refine AW.seq_k fun K hK=>?_);refine AW.rgR [2,3] ?_;simp[Ak];try (refine hK _ rfl ?_;clear hK K)
 refine Af.intro fun b4 _=>Af.intro fun b5 hb5=>?_;have n5:b4≠b5:=by rintro rfl;simp at hb5
 refine hK _ rfl ?_;clear hK K;(repeat refine AW.seq_k fun K hK=>?_);refine AW.rg ?_;simp;try (refine hK _ rfl ?_;clear hK K)
 refine Aa.val hb ?_;simp;refine hK _ rfl ?_;clear hK K;refine AW.no ?_ rfl;refine AW.skip ?_;try simp
 refine hK _ rfl ?_;clear hK K;(repeat refine AW.seq_k fun K hK=>?_);refine AW.rg ?_;simp[hyl];try (refine hK _ rfl ?_;clear hK K)
 refine AW.no ?_ rfl;refine AW.skip ?_;try simp
 refine hK _ rfl ?_;clear hK K;(repeat refine AW.seq_k fun K hK=>?_);refine AW.rg ?_;simp;try (refine hK _ rfl ?_;clear hK K)
 refine Aa.val hdv ?_;simp;refine hK _ rfl ?_;clear hK K;refine AW.seq_has [(2,.rptr [.bool sx,Am (Ao X)]),(3,.rptr [.bool sy,Am (Ao Y)]),(4,.ptr b4 2 0 0),(5,.ptr b5 2 0 0),(6,.int .i64 0),(7,Am (Ao Q)),(8,Am (Ao R))] ((Ac.emp.set b4 ⟨42,2,[.agg [.bool false,.nil]]⟩).set b5 ⟨42,2,[.agg [.bool false,.nil]]⟩) ?_ ?_
 ·by_cases ht:sx=sy
  ·subst ht;simp only[bne_self_eq_false,Bool.false_eq_true,false_and,if_false]at hdq hdr;(repeat refine AW.seq_k fun K hK=>?_);refine AW.rg ?_;simp;try (refine hK _ rfl ?_;clear hK K)
   refine AW.no ?_ rfl;refine AW.skip ?_;simp[hdq,hdr]
  ·have hb:(sx==sy)=false:=by simp[ht]
   have hb2:(sx != sy)=true:=by simp[ht]
   by_cases hm:X % Y=0
   ·simp only[hm,ne_eq,not_true_eq_false,and_false,if_false]at hdq hdr;(repeat refine AW.seq_k fun K hK=>?_);refine AW.rg ?_;simp[hb,ht,hm,Be];try (refine hK _ rfl ?_;clear hK K)
    refine AW.no ?_ rfl;refine AW.skip ?_;simp[hdq,hdr,Be]
   ·have hml:0<(Ao (X % Y)).length:=by
     rcases Nat.eq_zero_or_pos (Ao (X % Y)).length with h|h
     ·exact absurd (Cq.1 (List.eq_nil_of_length_eq_zero h)) hm
     ·exact h
    simp only[hm,hb2,ne_eq,not_false_eq_true,and_self,if_true]at hdq hdr;(repeat refine AW.seq_k fun K hK=>?_);refine AW.rg ?_;simp[hb,ht,hml];try (refine hK _ rfl ?_;clear hK K)
    refine AW.yes ?_ rfl;(repeat refine AW.seq_k fun K hK=>?_);refine AW.rgR [44,48] ?_;simp;try (refine hK _ rfl ?_;clear hK K)
    have hs:=Ua (Ao (X / Y)) [1] (A6 _) (by intro z hz;simp at hz;omega) (by omega) (by simp);refine Aa.val hs ?_;rw[Ax];simp[val];refine hK _ rfl ?_;clear hK K;(repeat refine AW.seq_k fun K hK=>?_);refine AW.rg ?_;simp;try (refine hK _ rfl ?_;clear hK K)
    refine Aa.val (El Y (X % Y) (by omega) (by omega)) ?_;simp[hdq,hdr]
 (repeat refine AW.seq_k fun K hK=>?_);refine AW.rg ?_;simp;try (refine hK _ rfl ?_;clear hK K)
 refine Aa.val r1 ?_;simp;refine Af.intro fun b9 hb9=>?_;have n9:b4≠b9:=by rintro rfl;simp[n5]at hb9
 have n9':b5≠b9:=by rintro rfl;simp at hb9
 try simp
 refine hK _ rfl ?_;clear hK K;(repeat refine AW.seq_k fun K hK=>?_);refine AW.rg ?_;simp;try (refine hK _ rfl ?_;clear hK K)
 refine AW.no ?_ rfl;refine AW.skip ?_;try simp
 refine hK _ rfl ?_;clear hK K;(repeat refine AW.seq_k fun K hK=>?_);refine AW.rg ?_;simp;try (refine hK _ rfl ?_;clear hK K)
 refine Aa.val r2 ?_;simp;refine Af.intro fun b11 hb11=>?_;have n11:b4≠b11:=by rintro rfl;simp[n5,n9]at hb11
 have n11':b5≠b11:=by rintro rfl;simp[n9']at hb11
 have n11'':b9≠b11:=by rintro rfl;simp at hb11
 try simp
 refine hK _ rfl ?_;clear hK K;(repeat refine AW.seq_k fun K hK=>?_);refine AW.rdT [(9,b9),(11,b11),(4,b4),(5,b5)] [] [] [b9,b11] [0,1,2,3,4] Ds (by simp[n5,Ne.symm n5,n9,n9',n11,n11',n11'',Ne.symm n9,Ne.symm n9',Ne.symm n11,Ne.symm n11',Ne.symm n11'']) (by simp[n5,Ne.symm n5,n9,n9',n11,n11',n11'',Ne.symm n9,Ne.symm n9',Ne.symm n11,Ne.symm n11',Ne.symm n11'']) (by simp[n5,Ne.symm n5,n9,n9',n11,n11',n11'',Ne.symm n9,Ne.symm n9',Ne.symm n11,Ne.symm n11',Ne.symm n11'']) (by simp[n5,Ne.symm n5,n9,n9',n11,n11',n11'',Ne.symm n9,Ne.symm n9',Ne.symm n11,Ne.symm n11',Ne.symm n11'']) (by simp[n5,Ne.symm n5,n9,n9',n11,n11',n11'',Ne.symm n9,Ne.symm n9',Ne.symm n11,Ne.symm n11',Ne.symm n11'']) ?_
 simp[n5,Ne.symm n5,n9,n9',n11,n11',n11'',Ne.symm n9,Ne.symm n9',Ne.symm n11,Ne.symm n11',Ne.symm n11''];try (refine hK _ rfl ?_;clear hK K)
 refine AW.ret (Ah (vs:=[.agg [.bool sq,Am (Ao q')],.agg [.bool sr,Am (Ao r')],.int .i64 0]) [.agg [.bool sq,Am (Ao q')],.agg [.bool sr,Am (Ao r')],.int .i64 0] ?_ (by simp) ⟨rfl,rfl⟩);simp[n5,Ne.symm n5]
theorem Ot (x y:Int) (hx:x.natAbs<Bh) (hy:y.natAbs<Bh) (h0:y≠0):Aj Tryz.prog 176 [Au x,Au y] Ac.emp fun v m=>v=.tup [Au (x.fdiv y),Au (x.fmod y),.int .i64 0]∧m=Ac.emp:=by
 have v1:=Ga hx;have v2:=Ga hy;have lx:=Bg hx;have ly:=Bg hy;have hq:=Qfa x y h0;have hr:=Qc7 x y h0;obtain⟨s1,s2⟩:=S8 (x:=x) h0;have f1:=Sv hx h0;have f2:=Tb (x:=x) hy h0;have lq:(Ao (dmQ x y)).length≤128:=Bg (by omega);have lr:(Ao (dmR x y)).length≤128:=Bg (by omega);have r1:=Eh (decide (x<0) != decide (y<0)) (Ao (dmQ x y)) (A6 _) (by omega);have r2:=Eh (decide (y<0)) (Ao (dmR x y)) (A6 _) (by omega);rw[Ax,s1,Bv,Q6 f1,R4 f1,bne]at r1;rw[Ax,s2,Bv,Q6 f2,R4 f2]at r2
 have hyl:(Ao y.natAbs).length≠0:=by
  intro h;have:=Cq.1 (List.eq_nil_of_length_eq_zero h);omega
 have hdv:=Zf x.natAbs y.natAbs (by omega) (by omega) (by omega);have hmr:x.natAbs % y.natAbs<y.natAbs:=Nat.mod_lt _ (by omega);have hql:(Ao (x.natAbs / y.natAbs)).length≤128:=Bg (Nat.lt_of_le_of_lt (Nat.div_le_self _ _) hx);have hdq:dmQ x y=if (decide (x<0) != decide (y<0))=true∧x.natAbs % y.natAbs≠0 then x.natAbs / y.natAbs+1 else x.natAbs / y.natAbs:=rfl
 have hdr:dmR x y=if (decide (x<0) != decide (y<0))=true∧x.natAbs % y.natAbs≠0 then y.natAbs-x.natAbs % y.natAbs else x.natAbs % y.natAbs:=rfl
 generalize dmQ x y=Q at *;generalize dmR x y=R at *;unfold Au at *;generalize hsx:decide (x<0)=sx at *;generalize hsy:decide (y<0)=sy at *;generalize hX:x.natAbs=X at *;generalize hY:y.natAbs=Y at *;generalize decide (x.fdiv y<0)=sq at *;generalize decide (x.fmod y<0)=sr at *;generalize(x.fdiv y).natAbs=q' at *;generalize(x.fmod y).natAbs=r' at *;refine Ad Tryz.func176 rfl rfl 78 rfl (Nat.le_of_ble_eq_true rfl) ?_;(repeat refine AW.seq_k fun K hK=>?_);refine AW.rgR [2,3] ?_;simp[Ak];try (refine hK _ rfl ?_;clear hK K)
 refine Af.intro fun b4 _=>Af.intro fun b5 hb5=>?_;have n5:b4≠b5:=by rintro rfl;simp at hb5
 refine hK _ rfl ?_;clear hK K;(repeat refine AW.seq_k fun K hK=>?_);refine AW.rg ?_;simp;try (refine hK _ rfl ?_;clear hK K)
 refine Aa.val v1 ?_;simp;refine Aa.val v2 ?_;simp;refine hK _ rfl ?_;clear hK K;refine AW.no ?_ rfl;refine AW.skip ?_;try simp
 refine hK _ rfl ?_;clear hK K;(repeat refine AW.seq_k fun K hK=>?_);refine AW.rg ?_;simp[hyl];try (refine hK _ rfl ?_;clear hK K)
 refine AW.no ?_ rfl;refine AW.skip ?_;try simp
 refine hK _ rfl ?_;clear hK K;(repeat refine AW.seq_k fun K hK=>?_);refine AW.rg ?_;simp;try (refine hK _ rfl ?_;clear hK K)
 refine Aa.val hdv ?_;simp;refine hK _ rfl ?_;clear hK K;refine AW.seq_has [(2,.rptr [.bool sx,Am (Ao X)]),(3,.rptr [.bool sy,Am (Ao Y)]),(4,.ptr b4 2 0 0),(5,.ptr b5 2 0 0),(6,.int .i64 0),(7,Am (Ao Q)),(8,Am (Ao R))] ((Ac.emp.set b4 ⟨42,2,[.agg [.bool false,.nil]]⟩).set b5 ⟨42,2,[.agg [.bool false,.nil]]⟩) ?_ ?_
 ·by_cases ht:sx=sy
  ·subst ht;simp only[bne_self_eq_false,Bool.false_eq_true,false_and,if_false]at hdq hdr;(repeat refine AW.seq_k fun K hK=>?_);refine AW.rg ?_;simp;try (refine hK _ rfl ?_;clear hK K)
   refine AW.no ?_ rfl;refine AW.skip ?_;simp[hdq,hdr]
  ·have hb:(sx==sy)=false:=by simp[ht]
   have hb2:(sx != sy)=true:=by simp[ht]
   by_cases hm:X % Y=0
   ·simp only[hm,ne_eq,not_true_eq_false,and_false,if_false]at hdq hdr;(repeat refine AW.seq_k fun K hK=>?_);refine AW.rg ?_;simp[hb,ht,hm,Be];try (refine hK _ rfl ?_;clear hK K)
    refine AW.no ?_ rfl;refine AW.skip ?_;simp[hdq,hdr,Be]
   ·have hml:0<(Ao (X % Y)).length:=by
     rcases Nat.eq_zero_or_pos (Ao (X % Y)).length with h|h
     ·exact absurd (Cq.1 (List.eq_nil_of_length_eq_zero h)) hm
     ·exact h
    simp only[hm,hb2,ne_eq,not_false_eq_true,and_self,if_true]at hdq hdr;(repeat refine AW.seq_k fun K hK=>?_);refine AW.rg ?_;simp[hb,ht,hml];try (refine hK _ rfl ?_;clear hK K)
    refine AW.yes ?_ rfl;(repeat refine AW.seq_k fun K hK=>?_);refine AW.rgR [44,48] ?_;simp;try (refine hK _ rfl ?_;clear hK K)
    have hs:=J5 (Ao (X / Y)) [1] (A6 _) (by intro z hz;simp at hz;omega) (by omega) (by simp);refine Aa.val hs ?_;rw[Ax];simp[val];refine hK _ rfl ?_;clear hK K;(repeat refine AW.seq_k fun K hK=>?_);refine AW.rg ?_;simp;try (refine hK _ rfl ?_;clear hK K)
    refine Aa.val (F2 Y (X % Y) (by omega) (by omega)) ?_;simp[hdq,hdr]
 (repeat refine AW.seq_k fun K hK=>?_);refine AW.rg ?_;simp;try (refine hK _ rfl ?_;clear hK K)
 refine Aa.val r1 ?_;simp;refine Af.intro fun b9 hb9=>?_;have n9:b4≠b9:=by rintro rfl;simp[n5]at hb9
 have n9':b5≠b9:=by rintro rfl;simp at hb9
 try simp
 refine hK _ rfl ?_;clear hK K;(repeat refine AW.seq_k fun K hK=>?_);refine AW.rg ?_;simp;try (refine hK _ rfl ?_;clear hK K)
 refine AW.no ?_ rfl;refine AW.skip ?_;try simp
 refine hK _ rfl ?_;clear hK K;(repeat refine AW.seq_k fun K hK=>?_);refine AW.rg ?_;simp;try (refine hK _ rfl ?_;clear hK K)
 refine Aa.val r2 ?_;simp;refine Af.intro fun b11 hb11=>?_;have n11:b4≠b11:=by rintro rfl;simp[n5,n9]at hb11
 have n11':b5≠b11:=by rintro rfl;simp[n9']at hb11
 have n11'':b9≠b11:=by rintro rfl;simp at hb11
 try simp
 refine hK _ rfl ?_;clear hK K;(repeat refine AW.seq_k fun K hK=>?_);refine AW.rdT [(9,b9),(11,b11),(4,b4),(5,b5)] [] [] [b9,b11] [0,1,2,3,4] Ds (by simp[n5,Ne.symm n5,n9,n9',n11,n11',n11'',Ne.symm n9,Ne.symm n9',Ne.symm n11,Ne.symm n11',Ne.symm n11'']) (by simp[n5,Ne.symm n5,n9,n9',n11,n11',n11'',Ne.symm n9,Ne.symm n9',Ne.symm n11,Ne.symm n11',Ne.symm n11'']) (by simp[n5,Ne.symm n5,n9,n9',n11,n11',n11'',Ne.symm n9,Ne.symm n9',Ne.symm n11,Ne.symm n11',Ne.symm n11'']) (by simp[n5,Ne.symm n5,n9,n9',n11,n11',n11'',Ne.symm n9,Ne.symm n9',Ne.symm n11,Ne.symm n11',Ne.symm n11'']) (by simp[n5,Ne.symm n5,n9,n9',n11,n11',n11'',Ne.symm n9,Ne.symm n9',Ne.symm n11,Ne.symm n11',Ne.symm n11'']) ?_
 simp[n5,Ne.symm n5,n9,n9',n11,n11',n11'',Ne.symm n9,Ne.symm n9',Ne.symm n11,Ne.symm n11',Ne.symm n11''];try (refine hK _ rfl ?_;clear hK K)
 refine AW.ret (Ah (vs:=[.agg [.bool sq,Am (Ao q')],.agg [.bool sr,Am (Ao r')],.int .i64 0]) [.agg [.bool sq,Am (Ao q')],.agg [.bool sr,Am (Ao r')],.int .i64 0] ?_ (by simp) ⟨rfl,rfl⟩);simp[n5,Ne.symm n5]
end Go.Av
end
section
namespace Go.Av
open Go.Proofs
theorem Qgb {n:Nat} (h:n<Bh):Bv (if false=true then -(n:Int) else (n:Int))=.tup [.agg [.bool false,Am (Ao n)],.int .i64 0]:=by
 rw[if_neg (by simp),Bv,Q6 (by omega),R4 (by omega),Au];rw[show decide ((n:Int)<0)=false by simp];rfl
theorem Vf {n:Nat} (h:n<18446744073709551616):n<Bh:=by
 have h1:Bh=4294967296^126*4294967296^2:=by rw[←Nat.pow_add];rfl
 have hp:1≤4294967296^126:=Nat.pow_pos (by omega);rw[h1]
 calc n<1*4294967296^2:=by omega
  _≤_:=Nat.mul_le_mul_right _ hp
theorem Xl (x y:Int) (hx:x.natAbs<Bh) (hy:y.natAbs<Bh):Aj Tryz.prog 88 [Au x,Au y] Ac.emp fun v m=>v=.tup [Au (Nat.gcd x.natAbs y.natAbs:Nat),.int .i64 0]∧m=Ac.emp:=by
 have hb:=Pz x y hx hy;have hgl:Nat.gcd x.natAbs y.natAbs<Bh:=by
  rcases Nat.eq_zero_or_pos x.natAbs with h|h
  ·rw[h,Nat.gcd_zero_left];exact hy
  ·exact Nat.lt_of_le_of_lt (Nat.gcd_le_left _ h) hx
 have hiG:Au (Nat.gcd x.natAbs y.natAbs:Nat)=.agg [.bool false,Am (Ao (Nat.gcd x.natAbs y.natAbs))]:=by
  rw[Au,show decide (((Nat.gcd x.natAbs y.natAbs:Nat):Int)<0)=false by simp];rfl
 rw[hiG];unfold Au at hb ⊢;generalize decide (x<0)=sx at *;generalize decide (y<0)=sy at *;generalize x.natAbs=X at *;generalize y.natAbs=Y at *;generalize hG:Nat.gcd X Y=G at *;refine Ad Tryz.func88 rfl rfl 68 rfl (Nat.le_of_ble_eq_true rfl) ?_;(repeat refine AW.seq_k fun K hK=>?_);refine AW.rgR [2,3] ?_;simp[Ak];try (refine hK _ rfl ?_;clear hK K)
 refine Af.intro fun b4 _=>?_;refine hK _ rfl ?_;clear hK K;(repeat refine AW.seq_k fun K hK=>?_);refine AW.rg ?_;simp;try (refine hK _ rfl ?_;clear hK K)
 refine Aa.val hb ?_;simp;refine hK _ rfl ?_;clear hK K;refine AW.no ?_ rfl;refine AW.skip ?_;try simp
 refine hK _ rfl ?_;clear hK K;(repeat refine AW.seq_k fun K hK=>?_);refine AW.rd [0,1,2,3,4,5] Ds ?_;simp;try (refine hK _ rfl ?_;clear hK K)
 refine AW.seq_ex (ι:=Nat × Nat) (fun z=>[(4,.ptr b4 2 0 0),(5,.int .i64 0),(6,Am (Ao z.1)),(7,Am (Ao z.2))]) (fun _=>Ac.emp.set b4 ⟨42,2,[.agg [.bool false,.nil]]⟩)
  (fun z=>Nat.gcd z.1 z.2=G∧z.1<Bh∧z.2<Bh∧(z.2=0∨(Ao z.1).length≤2∧(Ao z.2).length≤2)) ?_ ?_
 ·refine AW.block (AW.loopS (ι:=Nat × Nat) (fun z=>[(4,.ptr b4 2 0 0),(5,.int .i64 0),(6,Am (Ao z.1)),(7,Am (Ao z.2))]) (fun _=>Ac.emp.set b4 ⟨42,2,[.agg [.bool false,.nil]]⟩)
   (fun z=>Nat.gcd z.1 z.2=G∧z.1<Bh∧z.2<Bh) (fun z=>z.2) (X,Y) ⟨hG,hx,hy⟩ rfl (by simp) ?_)
  rintro⟨p,q⟩ ⟨h1,h2,h3⟩;simp only at h1 h2 h3;simp only;refine AW.seq_ex (ι:=Unit) (fun _=>[(4,.ptr b4 2 0 0),(5,.int .i64 0),(6,Am (Ao p)),(7,Am (Ao q))]) (fun _=>Ac.emp.set b4 ⟨42,2,[.agg [.bool false,.nil]]⟩) (fun _=>q≠0) ?_ ?_
  ·by_cases h0:q=0
   ·subst h0;(repeat refine AW.seq_k fun K hK=>?_);refine AW.rg ?_;simp[Be];try (refine hK _ rfl ?_;clear hK K)
    refine AW.no ?_ rfl;refine AW.exit ?_;try simp
    exact⟨p,0,⟨h1,h2,h3,.inl rfl⟩,rfl,by rw[Be]⟩
   ·have hl:0<(Ao q).length:=by
     rcases Nat.eq_zero_or_pos (Ao q).length with h|h
     ·exact absurd (Cq.1 (List.eq_nil_of_length_eq_zero h)) h0
     ·exact h
    by_cases h4:2<(Ao p).length
    ·(repeat refine AW.seq_k fun K hK=>?_);refine AW.rg ?_;simp[hl,h4];try (refine hK _ rfl ?_;clear hK K)
     refine AW.yes ?_ rfl;refine AW.skip ?_;try simp
     exact h0
    ·by_cases h5:2<(Ao q).length
     ·(repeat refine AW.seq_k fun K hK=>?_);refine AW.rg ?_;simp[hl,h4,h5];try (refine hK _ rfl ?_;clear hK K)
      refine AW.yes ?_ rfl;refine AW.skip ?_;try simp
      exact h0
     ·(repeat refine AW.seq_k fun K hK=>?_);refine AW.rg ?_;simp[hl,h4,h5];try (refine hK _ rfl ?_;clear hK K)
      refine AW.no ?_ rfl;refine AW.exit ?_;try simp
      exact⟨p,q,⟨h1,h2,h3,.inr ⟨Nat.le_of_not_lt h4,Nat.le_of_not_lt h5⟩⟩,rfl,rfl⟩
  ·rintro _ h0;have l1:=Bg h2;have l2:=Bg h3;(repeat refine AW.seq ?_);refine AW.block ?_;(repeat refine AW.seq_k fun K hK=>?_);refine AW.rg ?_;simp;try (refine hK _ rfl ?_;clear hK K)
   refine Aa.val (Rl p q h0 (by omega) (by omega)) ?_;simp;refine hK _ rfl ?_;clear hK K;(repeat refine AW.seq_k fun K hK=>?_);refine AW.rg ?_;simp;try (refine hK _ rfl ?_;clear hK K)
   exact⟨q,p % q,⟨by rw[←h1,Nat.gcd_comm p q,Nat.gcd_rec q p,Nat.gcd_comm],h3,Nat.lt_trans (Nat.mod_lt _ (Nat.pos_of_ne_zero h0)) h3⟩,Nat.mod_lt _ (Nat.pos_of_ne_zero h0),rfl,rfl⟩
 rintro⟨p,q⟩ ⟨h1,h2,h3,h4⟩;simp only at h1 h2 h3 h4;simp only;have l1:=Bg h2;refine AW.seq_ex (ι:=Unit) (fun _=>[(4,.ptr b4 2 0 0),(5,.int .i64 0),(6,Am (Ao p)),(7,Am (Ao q))]) (fun _=>Ac.emp.set b4 ⟨42,2,[.agg [.bool false,.nil]]⟩) (fun _=>(Ao p).length≤2∧(Ao q).length≤2) ?_ ?_
 ·(repeat refine AW.seq_k fun K hK=>?_);refine AW.rg ?_;simp;try (refine hK _ rfl ?_;clear hK K)
  (repeat refine AW.seq ?_);refine AW.cs (fun h5=>?_) (fun h5=>?_) rfl<;>simp at h5
  ·have hq:q=0:=by omega
   subst hq;rw[Nat.gcd_zero_right]at h1;subst h1;(repeat refine AW.seq_k fun K hK=>?_);refine AW.rg ?_;simp;try (refine hK _ rfl ?_;clear hK K)
   refine Aa.val (Cx false (Ao p) (A6 _) (by omega)) ?_;rw[Ax,Qgb h2];simp;refine hK _ rfl ?_;clear hK K;refine AW.ret (Dc (b:=b4) (.bool false) (Am (Ao p)) rfl rfl (by simp;exact⟨rfl,rfl⟩) rfl ?_ ⟨?_,rfl⟩)
   ·simp
   ·rfl
  ·refine AW.skip ?_;try simp
   rcases h4 with rfl|h4
   ·rw[Be];exact⟨h5,by simp⟩
   ·exact h4
 rintro _ ⟨h5,h6⟩;have hp:=A1.1 h5;have hq:=A1.1 h6;(repeat refine AW.seq_k fun K hK=>?_);refine AW.rg ?_;simp;try (refine hK _ rfl ?_;clear hK K)
 refine Aa.val (Wm p (by omega)) ?_;simp;refine Aa.val (Wm q (by omega)) ?_;simp;refine hK _ rfl ?_;clear hK K;refine AW.seq_ex (ι:=Unit) (fun _=>[(4,.ptr b4 2 0 0),(5,.int .i64 0),(10,.int .u64 (G:Nat))]) (fun _=>Ac.emp.set b4 ⟨42,2,[.agg [.bool false,.nil]]⟩) (fun _=>G<18446744073709551616) ?_ ?_
 ·refine AW.block (AW.loopS (ι:=Nat × Nat) (fun z=>[(4,.ptr b4 2 0 0),(5,.int .i64 0),(10,.int .u64 (z.1:Nat)),(11,.int .u64 (z.2:Nat))]) (fun _=>Ac.emp.set b4 ⟨42,2,[.agg [.bool false,.nil]]⟩)
   (fun z=>Nat.gcd z.1 z.2=G∧z.1<18446744073709551616∧z.2<18446744073709551616) (fun z=>z.2) (p,q) ⟨h1,by omega,by omega⟩ rfl (by simp) ?_)
  rintro⟨n,k⟩ ⟨g1,g2,g3⟩;simp only at g1 g2 g3;simp only;(repeat refine AW.seq_k fun K hK=>?_);refine AW.rg ?_;simp;try (refine hK _ rfl ?_;clear hK K)
  (repeat refine AW.seq ?_);refine AW.cs (fun hk=>?_) (fun hk=>?_) rfl<;>simp at hk
  ·refine AW.skip ?_;try simp
   refine hK _ rfl ?_;clear hK K;(repeat refine AW.seq ?_);refine AW.block ?_;have hk0:k≠0:=by omega
   (repeat refine AW.seq_k fun K hK=>?_);refine AW.rd [0,1,2,3,4,5] Ds ?_;simp[-Int.natCast_emod,hk0];try (refine hK _ rfl ?_;clear hK K)
   exact⟨k,n % k,⟨by rw[←g1,Nat.gcd_comm n k,Nat.gcd_rec k n,Nat.gcd_comm],g3,Nat.lt_trans (Nat.mod_lt _ hk) g3⟩,Nat.mod_lt _ hk,rfl,rfl⟩
  ·refine AW.exit ?_;try simp
   have:k=0:=by omega
   subst this;rw[Nat.gcd_zero_right]at g1;subst g1;exact⟨g2,rfl⟩
 rintro _ hG2;have m1:G / 4294967296<4294967296:=by omega
 have hv:val [G % 4294967296,G / 4294967296 % 4294967296]=G:=by simp[val];omega
 have hr:=Cx false [G % 4294967296,G / 4294967296 % 4294967296] (fun z hz=>by
  simp at hz;rcases hz with rfl | rfl<;>exact Nat.mod_lt _ (by omega)) (by simp)
 rw[hv,Qgb hgl]at hr;(repeat refine AW.seq_k fun K hK=>?_);refine AW.rgR [64] ?_;simp[-Int.natCast_ediv,-Int.natCast_emod];try (refine hK _ rfl ?_;clear hK K)
 refine Aa.val hr ?_;simp[-Int.natCast_ediv,-Int.natCast_emod];refine hK _ rfl ?_;clear hK K;refine AW.ret (Dc (b:=b4) (.bool false) (Am (Ao G)) rfl rfl (by simp;exact⟨rfl,rfl⟩) rfl ?_ ⟨?_,rfl⟩)
 ·simp
 ·rfl
end Go.Av
end
section
namespace Go.Av
open Go.Proofs
theorem Qah (n:Int) (h1:-9223372036854775808≤n) (h2:n<9223372036854775808):Aj Tryz.prog 97 [.int .i64 n] Ac.emp fun v m=>v=Au n∧m=Ac.emp:=by
 refine Ad Tryz.func97 rfl rfl 22 rfl (Nat.le_of_ble_eq_true rfl) ?_;have hB:Bh=4294967296^126*4294967296^2:=by rw[←Nat.pow_add];rfl
 (repeat refine AW.seq_k fun K hK=>?_);refine AW.rg ?_;simp[Ak];try (refine hK _ rfl ?_;clear hK K)
 refine Af.intro fun b2 _=>?_;refine hK _ rfl ?_;clear hK K;(repeat refine AW.seq_k fun K hK=>?_);refine AW.rg ?_;simp;try (refine hK _ rfl ?_;clear hK K)
 refine AW.seq_has [(0,.int .i64 n),(2,.ptr b2 2 0 0),(3,.int .u64 (n.natAbs:Nat))] (Ac.emp.set b2 ⟨42,2,[.agg [.bool false,.nil]]⟩) ?_ ?_
 ·(repeat refine AW.seq_k fun K hK=>?_);refine AW.rg ?_;simp;try (refine hK _ rfl ?_;clear hK K)
  (repeat refine AW.seq ?_);refine AW.cs (fun hn=>?_) (fun hn=>?_) rfl<;>simp at hn
  ·(repeat refine AW.seq_k fun K hK=>?_);refine AW.rg ?_;simp;try (refine hK _ rfl ?_;clear hK K)
   omega
  ·refine AW.skip ?_;try simp
   omega
 have hv:val [n.natAbs % 4294967296,n.natAbs / 4294967296 % 4294967296]=n.natAbs:=by simp[val];omega
 have hl:Lb [n.natAbs % 4294967296,n.natAbs / 4294967296 % 4294967296]:=fun z hz=>by
  simp at hz;rcases hz with rfl | rfl<;>exact Nat.mod_lt _ (by omega)
 have ht:=Dt [n.natAbs % 4294967296,n.natAbs / 4294967296 % 4294967296] (by simp);rw[Cc hl,hv]at ht;have hlen:(Ao n.natAbs).length≤2:=A1.2 (by omega);(repeat refine AW.seq_k fun K hK=>?_);refine AW.rgR [18] ?_;simp[-Int.natCast_ediv,-Int.natCast_emod];try (refine hK _ rfl ?_;clear hK K)
 refine Af.intro fun b12 h12=>?_;have n12:b2≠b12:=by rintro rfl;simp at h12
 refine Aa.val ht ?_;simp[-Int.natCast_ediv,-Int.natCast_emod,n12,Ne.symm n12];refine⟨by omega,by unfold maxLen;omega,Af.intro fun b13 h13=>?_⟩;have n13:b2≠b13:=by rintro rfl;simp[n12]at h13
 simp[-Int.natCast_ediv,-Int.natCast_emod,n12,Ne.symm n12,n13,Ne.symm n13];refine hK _ rfl ?_;clear hK K;refine AW.ret (Ah (vs:=[.agg [.bool (decide (n<0)),.osl b13 1 0 (Ao n.natAbs).length]]) [.agg [.bool (decide (n<0)),Am (Ao n.natAbs)]] (by simp[-Int.natCast_ediv,-Int.natCast_emod]) ?_ ⟨rfl,rfl⟩);simp[-Int.natCast_ediv,-Int.natCast_emod];exact E3 (e:=124) (by simp[n13,Ne.symm n13]) rfl
end Go.Av
end
section
namespace Go.Av
open Go.Proofs
def Cd (q:Rat):Prop:=q.num.natAbs<Bh∧q.den<Bh
def Ix (q:Rat):AV:=.agg [.bool (decide (q.num<0)),Am (Ao q.num.natAbs),.bool false,Am (Ao q.den)]
def Cn:AV:=.agg [.bool false,Am [],.bool false,Am []]
def Eb:Option Rat→AV
 |some q=>.tup [Ix q,.int .i64 0]
 |none=>.tup [Cn,.int .i64 2]
def Cy (z:Int):Bool:=decide (z.natAbs<Bh)
def Db (a b:Rat):Option Rat:=if (Cy (a.num*b.den)&&Cy (b.num*a.den)&&Cy (a.num*b.den-b.num*a.den)&&Cy ((a.den:Int)*b.den))=true then some (a-b) else none
def Ea (a b:Rat):Option Rat:=if (Cy (a.num*b.num)&&Cy ((a.den:Int)*b.den))=true then some (a*b) else none
def Fo (a b:Rat):Option Rat:=if (Cy (a.num*b.den)&&Cy ((a.den:Int)*b.num))=true then some (a / b) else none
def Qfz (a:Rat):Int:=if a.num<0 then -1 else if a.num=0 then 0 else 1
theorem Ce {z:Int}:Cy z=true↔z.natAbs<Bh:=by unfold Cy;simp
theorem Nn {n d:Int} (hd:0<d):(Rat.divInt n d).num=n / (Nat.gcd n.natAbs d.natAbs:Nat):=by
 rw[Rat.num_divInt,Int.sign_eq_one_of_pos hd,Int.one_mul,Int.gcd,Nat.gcd_comm]
theorem Nm {n d:Int} (hd:0<d):(Rat.divInt n d).den=d.natAbs / Nat.gcd n.natAbs d.natAbs:=by
 rw[Rat.den_divInt,if_neg (by omega),Int.gcd,Nat.gcd_comm]
theorem G8 {n d:Int} (hn:n.natAbs<Bh) (hd:d.natAbs<Bh) (h0:d≠0):Cd (Rat.divInt n d):=by
 have key:∀{n d:Int},n.natAbs<Bh→d.natAbs<Bh→0<d→Cd (Rat.divInt n d):=by
  intro n d hn hd h0;refine⟨?_,?_⟩
  ·rw[Nn h0];refine Nat.lt_of_le_of_lt ?_ hn;exact Int.natAbs_ediv_le_natAbs _ _
  ·rw[Nm h0];exact Nat.lt_of_le_of_lt (Nat.div_le_self _ _) hd
 rcases Int.lt_or_gt_of_ne h0 with h|h
 ·have:=key (n:=-n) (d:=-d) (by omega) (by omega) (by omega)
  rwa [Rat.neg_divInt_neg]at this
 ·exact key hn hd h
theorem Qc6 (a b:Rat):a-b=Rat.divInt (a.num*b.den-b.num*a.den) ((a.den:Int)*b.den):=by
 rw[Rat.sub_def',←Int.natCast_mul,Rat.divInt_ofNat]
theorem Qeu (a b:Rat):a*b=Rat.divInt (a.num*b.num) ((a.den:Int)*b.den):=by
 rw[Rat.mul_def',←Int.natCast_mul,Rat.divInt_ofNat]
theorem Qld (a b:Rat):a / b=Rat.divInt (a.num*b.den) ((a.den:Int)*b.num):=by
 rw[Rat.div_def,Rat.inv_def,←Rat.num_divInt_den a,Rat.divInt_mul_divInt,Rat.num_divInt_den]
theorem Ps {a b c:Rat} (h:Db a b=some c):Cd c:=by
 unfold Db at h;split at h
 ·rename_i h1
  simp only[Bool.and_eq_true,Ce]at h1;cases h;rw[Qc6];refine G8 h1.1.2 h1.2 ?_;have:=a.den_pos;have:=b.den_pos;exact Int.ne_of_gt (Int.mul_pos (by omega) (by omega))
 ·cases h
theorem Qk5 {a b c:Rat} (h:Ea a b=some c):Cd c:=by
 unfold Ea at h;split at h
 ·rename_i h1
  simp only[Bool.and_eq_true,Ce]at h1;cases h;rw[Qeu];refine G8 h1.1 h1.2 ?_;have:=a.den_pos;have:=b.den_pos;exact Int.ne_of_gt (Int.mul_pos (by omega) (by omega))
 ·cases h
theorem Pc {a b c:Rat} (hb:b≠0) (h:Fo a b=some c):Cd c:=by
 unfold Fo at h;split at h
 ·rename_i h1
  simp only[Bool.and_eq_true,Ce]at h1;cases h;rw[Qld];refine G8 h1.1 h1.2 ?_;have:=a.den_pos;exact Int.mul_ne_zero (by omega) (fun e=>hb (Rat.num_eq_zero.1 e))
 ·cases h
structure RR where
 n1:Bool
 l1:List Nat
 n2:Bool
 l2:List Nat
def RR.av (r:RR):AV:=.agg [.bool r.n1,Am r.l1,.bool r.n2,Am r.l2]
def RR.Lb (r:RR):Prop:=Av.Lb r.l1∧Av.Lb r.l2
def RR.ok (r:RR):Bool:=Pp r.n1 r.l1 r.n2 r.l2
def A3 (q:Rat):RR:=⟨decide (q.num<0),Ao q.num.natAbs,false,Ao q.den⟩
theorem D2 (q:Rat):(A3 q).av=Ix q:=rfl
theorem Fj (q:Rat):(A3 q).Lb:=⟨A6 _,A6 _⟩
theorem Ef {q:Rat} (h:Cd q):(A3 q).ok=true:=by
 unfold RR.ok A3 Pp;have h1:=Fe (z:=q.num) h.1;have h2:=Fe (z:=(q.den:Int)) (by simpa using h.2);rw[show decide ((q.den:Int)<0)=false by simp,Int.natAbs_natCast]at h2;simp only[h1,h2,Bool.not_false,Bool.and_true,Bool.true_and,Bool.and_eq_true,decide_eq_true_eq,Ax];refine⟨fun e=>?_,q.reduced⟩;have:=Cq.1 (List.eq_nil_of_length_eq_zero e);exact q.den_nz this
theorem Qtl {r:RR} (hl:r.Lb) (h:r.ok=true):∃q,Cd q∧r=A3 q:=by
 obtain⟨n1,l1,n2,l2⟩:=r;unfold RR.ok Pp at h;simp only[Bool.and_eq_true,decide_eq_true_eq,Bool.not_eq_true']at h;obtain⟨⟨⟨⟨h1,h2⟩,h3⟩,h4⟩,h5⟩:=h;obtain⟨z1,b1,e1,e1',c1⟩:=F9 hl.1 h1;obtain⟨z2,b2,e2,e2',c2⟩:=F9 hl.2 h2;simp only at e1 e1' c1 e2 e2' c2 h3 h4 h5;subst e1 e1';rw[h3]at e2;have hz2:z2.natAbs≠0:=by
  intro e;rw[e,Be]at e2';exact h4 (by rw[e2'];rfl)
 refine⟨⟨z1,z2.natAbs,hz2,?_⟩,⟨b1,b2⟩,?_⟩
 ·rw[←c1,←c2]at h5;exact h5
 ·rw[h3];show RR.mk _ _ _ l2=RR.mk _ _ _ (Ao z2.natAbs)
  rw[←e2']
end Go.Av
end
section
namespace Go.Av
open Go.Proofs
theorem F3 (r:RR) (hr:r.Lb):Aj Tryz.prog 48 [r.av] Ac.emp fun v m=>v=.bool r.ok∧m=Ac.emp:=by
 obtain⟨n1,l1,n2,l2⟩:=r;obtain⟨h1,h2⟩:=hr;simp only at h1 h2;unfold RR.ok RR.av Pp;simp only;have v1:=Hb n1 l1;have v2:=Hb n2 l2;have z2:=J4 n2 l2;unfold Ee at v1 v2 z2;refine Ad Tryz.func48 rfl rfl 38 rfl (Nat.le_of_ble_eq_true rfl) ?_;(repeat refine AW.seq_k fun K hK=>?_);refine AW.rgR [1] ?_;simp[Ak];try (refine hK _ rfl ?_;clear hK K)
 cases o1:Fh n1 l1
 ·rw[o1]at v1;(repeat refine AW.seq_k fun K hK=>?_);refine AW.rg ?_;simp;try (refine hK _ rfl ?_;clear hK K)
  refine Aa.val v1 ?_;simp;refine hK _ rfl ?_;clear hK K;refine AW.yes ?_ rfl;(repeat refine AW.seq_k fun K hK=>?_);refine AW.rg ?_;simp;try (refine hK _ rfl ?_;clear hK K)
  exact AW.ret (Ag rfl _ (.same _) ⟨by simp,rfl⟩)
 rw[o1]at v1;cases o2:Fh n2 l2
 ·rw[o2]at v2;(repeat refine AW.seq_k fun K hK=>?_);refine AW.rg ?_;simp;try (refine hK _ rfl ?_;clear hK K)
  refine Aa.val v1 ?_;simp;refine Aa.val v2 ?_;simp;refine hK _ rfl ?_;clear hK K;refine AW.yes ?_ rfl;(repeat refine AW.seq_k fun K hK=>?_);refine AW.rg ?_;simp;try (refine hK _ rfl ?_;clear hK K)
  exact AW.ret (Ag rfl _ (.same _) ⟨by simp,rfl⟩)
 rw[o2]at v2;obtain⟨z1,b1,rfl,rfl,c1⟩:=F9 h1 o1;obtain⟨z3,b2,e2,rfl,c2⟩:=F9 h2 o2;cases n2
 ·have g:=Xl z1 z3 b1 b2;have on:=U8 z3 b2;unfold Au at g on;rw[←e2]at g on;(repeat refine AW.seq_k fun K hK=>?_);refine AW.rg ?_;simp;try (refine hK _ rfl ?_;clear hK K)
  refine Aa.val v1 ?_;simp;refine Aa.val v2 ?_;simp;refine Aa.val z2 ?_;simp;refine hK _ rfl ?_;clear hK K;(repeat refine AW.seq ?_);refine AW.cs (fun hl=>?_) (fun hl=>?_) rfl<;>(try simp at hl)
  ·(repeat refine AW.seq_k fun K hK=>?_);refine AW.rg ?_;simp;try (refine hK _ rfl ?_;clear hK K)
   exact AW.ret (Ag rfl _ (.same _) ⟨by simp[hl],rfl⟩)
  ·refine AW.skip ?_;try simp
   refine hK _ rfl ?_;clear hK K;have hg:Nat.gcd z1.natAbs z3.natAbs<Bh:=by
    refine Nat.lt_of_le_of_lt (Nat.le_of_dvd ?_ (Nat.gcd_dvd_right _ _)) b2;rcases Nat.eq_zero_or_pos z3.natAbs with h | h
    ·exact absurd (Cq.2 h) hl
    ·exact h
   have on2:=U8 (Nat.gcd z1.natAbs z3.natAbs:Nat) (by simpa using hg);rw[Au]at on2;rw[show decide (((Nat.gcd z1.natAbs z3.natAbs:Nat):Int)<0)=false by simp]at g on2;rw[Int.natAbs_natCast]at g on2;rw[Ax,Ax];simp only[hl,ne_eq,not_false_eq_true,decide_true,Bool.and_true,Bool.true_and,Bool.not_false];(repeat refine AW.seq_k fun K hK=>?_);refine AW.rg ?_;simp;try (refine hK _ rfl ?_;clear hK K)
   refine Aa.val on ?_;simp;refine hK _ rfl ?_;clear hK K;(repeat refine AW.seq ?_);refine AW.cs (fun h3=>?_) (fun h3=>?_) rfl<;>(try simp at h3)
   ·subst h3;(repeat refine AW.seq_k fun K hK=>?_);refine AW.rg ?_;simp;try (refine hK _ rfl ?_;clear hK K)
    exact AW.ret (Ag rfl _ (.same _) ⟨by simp[Cq],rfl⟩)
   ·refine AW.skip ?_;try simp
    refine hK _ rfl ?_;clear hK K;(repeat refine AW.seq_k fun K hK=>?_);refine AW.rg ?_;simp;try (refine hK _ rfl ?_;clear hK K)
    refine Aa.val g ?_;simp;refine Af.intro fun b3 _=>?_;try simp
    refine hK _ rfl ?_;clear hK K;(repeat refine AW.seq_k fun K hK=>?_);refine AW.rg ?_;simp;try (refine hK _ rfl ?_;clear hK K)
    refine Aa.val on2 ?_;simp;refine hK _ rfl ?_;clear hK K;exact AW.ret (Ah [.bool (decide (Nat.gcd z1.natAbs z3.natAbs=1))] rfl (by simp) ⟨by simp[hl],rfl⟩)
 ·(repeat refine AW.seq_k fun K hK=>?_);refine AW.rg ?_;simp;try (refine hK _ rfl ?_;clear hK K)
  refine Aa.val v1 ?_;simp;refine Aa.val v2 ?_;simp;refine hK _ rfl ?_;clear hK K;refine AW.yes ?_ rfl;(repeat refine AW.seq_k fun K hK=>?_);refine AW.rg ?_;simp;try (refine hK _ rfl ?_;clear hK K)
  exact AW.ret (Ag rfl _ (.same _) ⟨by simp,rfl⟩)
def Dx (r:RR):Int:=if r.ok=true then (if r.l1.length=0 then 0 else if r.n1=true then -1 else 1) else 0
theorem N3 (r:RR) (hr:r.Lb):Aj Tryz.prog 49 [r.av] Ac.emp fun v m=>v=.int .i64 (Dx r)∧m=Ac.emp:=by
 have hv:=F3 r hr;have hz:=J4 r.n1 r.l1;unfold Ee at hz;unfold RR.av at hv ⊢;refine Ad Tryz.func49 rfl rfl 16 rfl (Nat.le_of_ble_eq_true rfl) ?_;(repeat refine AW.seq_k fun K hK=>?_);refine AW.rgR [1] ?_;simp[Ak];try (refine hK _ rfl ?_;clear hK K)
 refine AW.seq_ex (ι:=Unit) (fun _=>[]) (fun _=>Ac.emp) (fun _=>r.ok=true∧¬r.l1.length=0∧r.n1=false) ?_ ?_
 ·(repeat refine AW.seq ?_);refine AW.block ?_;by_cases h1:r.ok=true
  ·rw[h1]at hv;(repeat refine AW.seq_k fun K hK=>?_);refine AW.rg ?_;simp;try (refine hK _ rfl ?_;clear hK K)
   refine Aa.val hv ?_;simp;refine Aa.val hz ?_;simp;refine hK _ rfl ?_;clear hK K;(repeat refine AW.seq ?_);refine AW.cs (fun h2=>?_) (fun h2=>?_) rfl<;>(try simp at h2)
   ·(repeat refine AW.seq_k fun K hK=>?_);refine AW.rg ?_;simp;try (refine hK _ rfl ?_;clear hK K)
    exact AW.ret (Ag rfl _ (.same _) ⟨by simp[Dx,h2],rfl⟩)
   ·(repeat refine AW.seq_k fun K hK=>?_);refine AW.rg ?_;simp;try (refine hK _ rfl ?_;clear hK K)
    (repeat refine AW.seq ?_);refine AW.cs (fun h3=>?_) (fun h3=>?_) rfl<;>(try simp at h3)
    ·(repeat refine AW.seq_k fun K hK=>?_);refine AW.rg ?_;simp;try (refine hK _ rfl ?_;clear hK K)
     exact AW.ret (Ag rfl _ (.same _) ⟨by simp[Dx,h1,h2,h3],rfl⟩)
    ·refine AW.skip ?_;try simp
     exact⟨h1,h2,h3⟩
  ·have h1':r.ok=false:=by simpa using h1
   rw[h1']at hv;(repeat refine AW.seq_k fun K hK=>?_);refine AW.rg ?_;simp;try (refine hK _ rfl ?_;clear hK K)
   refine Aa.val hv ?_;simp;refine hK _ rfl ?_;clear hK K;refine AW.yes ?_ rfl;(repeat refine AW.seq_k fun K hK=>?_);refine AW.rg ?_;simp;try (refine hK _ rfl ?_;clear hK K)
   exact AW.ret (Ag rfl _ (.same _) ⟨by simp[Dx,h1'],rfl⟩)
 rintro _ ⟨h1,h2,h3⟩;(repeat refine AW.seq_k fun K hK=>?_);refine AW.rg ?_;simp;try (refine hK _ rfl ?_;clear hK K)
 exact AW.ret (Ag rfl _ (.same _) ⟨by simp[Dx,h1,h2,h3],rfl⟩)
theorem Qaf (r:RR) (hr:r.Lb):Aj Tryz.prog 43 [r.av] Ac.emp fun v m=>v=.int .i64 (Dx r)∧m=Ac.emp:=by
 have hv:=I4 r.n1 r.l1 r.n2 r.l2 hr.1 hr.2;have hz:=I9 r.n1 r.l1;unfold Ee at hz;unfold Qc2 at hv;unfold RR.av;have hok:Pp r.n1 r.l1 r.n2 r.l2=r.ok:=rfl;rw[hok]at hv;refine Ad Tryz.func43 rfl rfl 16 rfl (Nat.le_of_ble_eq_true rfl) ?_;(repeat refine AW.seq_k fun K hK=>?_);refine AW.rgR [1] ?_;simp[Ak];try (refine hK _ rfl ?_;clear hK K)
 (repeat refine AW.seq_k fun K hK=>?_);refine AW.rg ?_;simp;try (refine hK _ rfl ?_;clear hK K)
 refine Aa.val hv ?_;simp;refine hK _ rfl ?_;clear hK K;by_cases h1:r.ok=true
 ·(repeat refine AW.seq_k fun K hK=>?_);refine AW.rg ?_;simp[h1];try (refine hK _ rfl ?_;clear hK K)
  refine Aa.val hz ?_;simp;refine hK _ rfl ?_;clear hK K;(repeat refine AW.seq ?_);refine AW.cs (fun h2=>?_) (fun h2=>?_) rfl<;>(try simp at h2)
  ·(repeat refine AW.seq_k fun K hK=>?_);refine AW.rg ?_;simp;try (refine hK _ rfl ?_;clear hK K)
   exact AW.ret (Ag rfl _ (.same _) ⟨by simp[Dx,h2],rfl⟩)
  ·refine AW.skip ?_;try simp
   refine hK _ rfl ?_;clear hK K;(repeat refine AW.seq_k fun K hK=>?_);refine AW.rg ?_;simp;try (refine hK _ rfl ?_;clear hK K)
   (repeat refine AW.seq ?_);refine AW.cs (fun h3=>?_) (fun h3=>?_) rfl<;>(try simp at h3)
   ·(repeat refine AW.seq_k fun K hK=>?_);refine AW.rg ?_;simp;try (refine hK _ rfl ?_;clear hK K)
    exact AW.ret (Ag rfl _ (.same _) ⟨by simp[Dx,h1,h2,h3],rfl⟩)
   ·refine AW.skip ?_;try simp
    refine hK _ rfl ?_;clear hK K;(repeat refine AW.seq_k fun K hK=>?_);refine AW.rg ?_;simp;try (refine hK _ rfl ?_;clear hK K)
    exact AW.ret (Ag rfl _ (.same _) ⟨by simp[Dx,h1,h2,h3],rfl⟩)
 ·have h1':r.ok=false:=by simpa using h1
  (repeat refine AW.seq_k fun K hK=>?_);refine AW.rg ?_;simp[h1'];try (refine hK _ rfl ?_;clear hK K)
  refine AW.yes ?_ rfl;(repeat refine AW.seq_k fun K hK=>?_);refine AW.rg ?_;simp;try (refine hK _ rfl ?_;clear hK K)
  exact AW.ret (Ag rfl _ (.same _) ⟨by simp[Dx,h1'],rfl⟩)
theorem Qn {q:Rat} (h:Cd q):Dx (A3 q)=Qfz q:=by
 unfold Dx Qfz;rw[Ef h,if_pos rfl];simp only[A3,decide_eq_true_eq];by_cases h1:q.num<0
 ·have:(Ao q.num.natAbs).length≠0:=by
   intro e;have:=Cq.1 (List.eq_nil_of_length_eq_zero e);omega
  rw[if_neg this,if_pos h1,if_pos h1]
 ·by_cases h2:q.num=0
  ·rw[h2];simp[Be]
  ·have:(Ao q.num.natAbs).length≠0:=by
    intro e;have:=Cq.1 (List.eq_nil_of_length_eq_zero e);omega
   rw[if_neg this,if_neg h1,if_neg h1,if_neg h2]
end Go.Av
end
section
namespace Go.Av
open Go.Proofs
theorem Qaj {z:Int} (h:z≠0):decide (-z<0)=!decide (z<0):=by
 by_cases h1:z<0
 ·simp only[h1,decide_true,Bool.not_true,decide_eq_false_iff_not];omega
 ·simp only[h1,decide_false,Bool.not_false,decide_eq_true_eq];omega
theorem T3 (z:Int) (hz:z.natAbs<Bh):Aj Tryz.prog 149 [Au z] Ac.emp fun v m=>v=Au (-z)∧m=Ac.emp:=by
 have lz:=Bg hz;unfold Au;rw[Int.natAbs_neg];refine Ad Tryz.func149 rfl rfl 16 rfl (Nat.le_of_ble_eq_true rfl) ?_;(repeat refine AW.seq_k fun K hK=>?_);refine AW.rgR [1] ?_;simp[Ak];try (refine hK _ rfl ?_;clear hK K)
 refine Af.intro fun b2 _=>?_;refine hK _ rfl ?_;clear hK K;(repeat refine AW.seq_k fun K hK=>?_);refine AW.rg ?_;simp;try (refine hK _ rfl ?_;clear hK K)
 (repeat refine AW.seq ?_);refine AW.cs (fun h=>?_) (fun h=>?_) rfl<;>(try simp at h)
 ·have h0:z=0:=by rw[Cq]at h;omega
  subst h0;(repeat refine AW.seq_k fun K hK=>?_);refine AW.rg ?_;simp;try (refine hK _ rfl ?_;clear hK K)
  exact AW.ret (Ah (vs:=[.agg [.bool false,.nil]]) [.agg [.bool false,Am []]] (by simp) (by simp) ⟨by simp[Be],rfl⟩)
 ·refine AW.skip ?_;try simp
  refine hK _ rfl ?_;clear hK K;have h0:z≠0:=by rintro rfl;exact h (by simp[Be])
  rw[Qaj h0];generalize decide (z<0)=s at *;generalize hN:Ao z.natAbs=N at *;(repeat refine AW.seq_k fun K hK=>?_);refine AW.rdT [] [] [] [] [0,1,2,4,5,3,6,7,8] Ds (by simp) (by simp) (by simp) (by simp) (by simp) ?_;simp;try (refine hK _ rfl ?_;clear hK K)
  refine Af.intro fun b11 hb11=>?_;simp only[An,Ay,and_true]at hb11;refine⟨by omega,by unfold maxLen;omega,Af.intro fun b14 h14=>?_⟩;have n14:b2≠b14:=by rintro rfl;simp[hb11]at h14
  simp[hb11,n14,Ne.symm n14];refine hK _ rfl ?_;clear hK K;refine AW.ret (Ah (vs:=[.agg [.bool (!s),.osl b14 1 0 N.length]]) [.agg [.bool (!s),Am N]] (by simp) ?_ ⟨rfl,rfl⟩);simp;exact E3 (e:=124) (by simp[Ne.symm n14]) rfl
theorem Jk (z:Int) (hz:z.natAbs<Bh):Aj Tryz.prog 141 [Au z] Ac.emp fun v m=>v=Au (-z)∧m=Ac.emp:=by
 have hi:=I9 (decide (z<0)) (Ao z.natAbs);unfold Ee at hi;unfold Au;rw[Int.natAbs_neg];refine Ad Tryz.func141 rfl rfl 12 rfl (Nat.le_of_ble_eq_true rfl) ?_;(repeat refine AW.seq_k fun K hK=>?_);refine AW.rgR [1] ?_;simp[Ak];try (refine hK _ rfl ?_;clear hK K)
 refine Af.intro fun b2 _=>?_;refine hK _ rfl ?_;clear hK K;(repeat refine AW.seq_k fun K hK=>?_);refine AW.rg ?_;simp;try (refine hK _ rfl ?_;clear hK K)
 refine Aa.val hi ?_;simp;refine hK _ rfl ?_;clear hK K;(repeat refine AW.seq ?_);refine AW.cs (fun h=>?_) (fun h=>?_) rfl<;>(try simp at h)
 ·have h0:z=0:=by rw[Cq]at h;omega
  subst h0;(repeat refine AW.seq_k fun K hK=>?_);refine AW.rg ?_;simp;try (refine hK _ rfl ?_;clear hK K)
  exact AW.ret (Ah (vs:=[.agg [.bool false,Am (Ao 0)]]) [.agg [.bool false,Am (Ao 0)]] (by simp) (by simp) ⟨by simp,rfl⟩)
 ·refine AW.skip ?_;try simp
  refine hK _ rfl ?_;clear hK K;have h0:z≠0:=by rintro rfl;exact h (by simp[Be])
  rw[Qaj h0];(repeat refine AW.seq_k fun K hK=>?_);refine AW.rg ?_;simp;try (refine hK _ rfl ?_;clear hK K)
  exact AW.ret (Ah (vs:=[.agg [.bool (!decide (z<0)),Am (Ao z.natAbs)]]) [.agg [.bool (!decide (z<0)),Am (Ao z.natAbs)]] (by simp) (by simp) ⟨rfl,rfl⟩)
theorem U5 (s:Bool) (l:List Nat) (hl:l.length<2^40):Aj Tryz.prog 203 [.agg [.bool s,Am l]] Ac.emp fun v m=>v=.agg [.bool s,Am l]∧m=Ac.emp:=by
 refine Ad Tryz.func203 rfl rfl 9 rfl (Nat.le_of_ble_eq_true rfl) ?_;(repeat refine AW.seq_k fun K hK=>?_);refine AW.rgR [1] ?_;simp[Ak];try (refine hK _ rfl ?_;clear hK K)
 refine Af.intro fun b2 _=>?_;refine hK _ rfl ?_;clear hK K;(repeat refine AW.seq_k fun K hK=>?_);refine AW.rdT [] [] [] [] [0,1,2,3,4,5,6] Ds (by simp) (by simp) (by simp) (by simp) (by simp) ?_;simp;try (refine hK _ rfl ?_;clear hK K)
 refine⟨by omega,by unfold maxLen;omega,?_⟩;by_cases h:l=[]
 ·subst h;simp;refine hK _ rfl ?_;clear hK K;exact AW.ret (Ah (vs:=[.agg [.bool s,.sl 1 []]]) [.agg [.bool s,Am []]] (by simp) (by simp[Am]) ⟨rfl,rfl⟩)
 ·simp[h];refine Af.intro fun b11 hb11=>?_;simp only[An,Ay,and_true]at hb11;simp[hb11];refine hK _ rfl ?_;clear hK K;refine AW.ret (Ah (vs:=[.agg [.bool s,.osl b11 1 0 l.length]]) [.agg [.bool s,Am l]] (by simp) ?_ ⟨rfl,rfl⟩);simp;exact E3 (e:=124) (by simp[hb11]) rfl
theorem Rs (s:Bool) (l:List Nat) (hl:l.length<2^40):Aj Tryz.prog 198 [.agg [.bool s,Am l]] Ac.emp fun v m=>v=.agg [.bool s,Am l]∧m=Ac.emp:=by
 refine Ad Tryz.func198 rfl rfl 16 rfl (Nat.le_of_ble_eq_true rfl) ?_;(repeat refine AW.seq_k fun K hK=>?_);refine AW.rgR [1] ?_;simp[Ak];try (refine hK _ rfl ?_;clear hK K)
 refine Af.intro fun b2 _=>?_;refine hK _ rfl ?_;clear hK K;(repeat refine AW.seq_k fun K hK=>?_);refine AW.rg ?_;simp[-Int.natCast_mul];try (refine hK _ rfl ?_;clear hK K)
 refine⟨by omega,?_⟩;refine Af.intro fun b3 hb3=>?_;simp only[An,Ay,and_true]at hb3;simp only[C4];refine hK _ rfl ?_;clear hK K;(repeat refine AW.seq_k fun K hK=>?_);refine AW.rg ?_;simp[hb3];try (refine hK _ rfl ?_;clear hK K)
 (repeat refine AW.seq_k fun K hK=>?_);refine AW.rg ?_;simp[hb3];try (refine hK _ rfl ?_;clear hK K)
 refine AW.ret (Ah (vs:=[.agg [.bool s,.osl b3 1 0 l.length]]) [.agg [.bool s,Am l]] (by simp) ?_ ⟨rfl,rfl⟩);simp;exact E3 (e:=124) (by simp[hb3]) rfl
theorem Qjs (r:RR) (h1:r.l1.length<2^40) (h2:r.l2.length<2^40):Aj Tryz.prog 178 [r.av] Ac.emp fun v m=>v=r.av∧m=Ac.emp:=by
 have o1:=Rs r.n1 r.l1 h1;have o2:=Rs r.n2 r.l2 h2;unfold RR.av;refine Ad Tryz.func178 rfl rfl 10 rfl (Nat.le_of_ble_eq_true rfl) ?_;(repeat refine AW.seq_k fun K hK=>?_);refine AW.rgR [1] ?_;simp[Ak];try (refine hK _ rfl ?_;clear hK K)
 refine Af.intro fun b2 _=>?_;refine hK _ rfl ?_;clear hK K;(repeat refine AW.seq_k fun K hK=>?_);refine AW.rdT [] [] [] [] [0,1,3,4,2,5,6,7] Ds (by simp) (by simp) (by simp) (by simp) (by simp) ?_;simp;try (refine hK _ rfl ?_;clear hK K)
 refine Aa.val o1 ?_;simp;refine Aa.val o2 ?_;simp;refine hK _ rfl ?_;clear hK K;exact AW.ret (Ah (vs:=[.agg [.bool r.n1,Am r.l1,.bool r.n2,Am r.l2]]) [.agg [.bool r.n1,Am r.l1,.bool r.n2,Am r.l2]] (by simp) (by simp) ⟨rfl,rfl⟩)
theorem Qev (r1 r2:RR) (h1:r1.Lb) (h2:r2.Lb):Aj Tryz.prog 139 [r1.av,r2.av] Ac.emp fun v m=>v=.bool (r1.ok&&r2.ok)∧m=Ac.emp:=by
 have v1:Aj Tryz.prog 42 [r1.av] Ac.emp fun v m=>v=.bool r1.ok∧m=Ac.emp:=I4 r1.n1 r1.l1 r1.n2 r1.l2 h1.1 h1.2;have v2:Aj Tryz.prog 42 [r2.av] Ac.emp fun v m=>v=.bool r2.ok∧m=Ac.emp:=I4 r2.n1 r2.l1 r2.n2 r2.l2 h2.1 h2.2;unfold RR.av at *;refine Ad Tryz.func139 rfl rfl 15 rfl (Nat.le_of_ble_eq_true rfl) ?_;(repeat refine AW.seq_k fun K hK=>?_);refine AW.rgR [2,3] ?_;simp[Ak];try (refine hK _ rfl ?_;clear hK K)
 (repeat refine AW.seq_k fun K hK=>?_);refine AW.rg ?_;simp;try (refine hK _ rfl ?_;clear hK K)
 refine Aa.val v1 ?_;simp;refine hK _ rfl ?_;clear hK K;(repeat refine AW.seq_k fun K hK=>?_);refine AW.rg ?_;simp;try (refine hK _ rfl ?_;clear hK K)
 refine Aa.val v2 ?_;simp;refine hK _ rfl ?_;clear hK K;cases o1:r1.ok
 ·(repeat refine AW.seq_k fun K hK=>?_);refine AW.rg ?_;simp;try (refine hK _ rfl ?_;clear hK K)
  exact AW.ret (Ag rfl _ (.same _) ⟨by simp,rfl⟩)
 ·(repeat refine AW.seq_k fun K hK=>?_);refine AW.rg ?_;simp;try (refine hK _ rfl ?_;clear hK K)
  exact AW.ret (Ag rfl _ (.same _) ⟨by simp,rfl⟩)
theorem U7 (r1 r2:RR) (h1:r1.Lb) (h2:r2.Lb):Aj Tryz.prog 180 [.sl 4 [r1.av,r2.av]] Ac.emp fun v m=>v=.bool (r1.ok&&r2.ok)∧m=Ac.emp:=by
 have v1:=F3 r1 h1;have v2:=F3 r2 h2;refine Ad Tryz.func180 rfl rfl 15 rfl (Nat.le_of_ble_eq_true rfl) ?_;(repeat refine AW.seq_k fun K hK=>?_);refine AW.rg ?_;simp[Ak];try (refine hK _ rfl ?_;clear hK K)
 refine AW.seq_ex (ι:=Unit) (fun _=>[]) (fun _=>Ac.emp) (fun _=>r1.ok=true∧r2.ok=true) ?_ ?_
 ·(repeat refine AW.seq_k fun K hK=>?_);refine AW.rg ?_;simp;try (refine hK _ rfl ?_;clear hK K)
  refine AW.block (AW.loopS (ι:=Nat) (fun i=>[(5,.sl 4 [r1.av,r2.av]),(6,.int .i64 2),(7,.int .i64 (i:Nat))]) (fun _=>Ac.emp)
   (fun i=>i≤2∧(1≤i→r1.ok=true)∧(2≤i→r2.ok=true)) (fun i=>2-i) 0 ⟨by simp,by simp,by simp⟩ rfl (by simp) ?_)
  rintro i ⟨i1,i2,i3⟩;rcases i with _|_|i
  ·have w:IntKind.i64.wrap 1=1:=rfl;have w2:IntKind.i64.wrap 2=2:=rfl;(repeat refine AW.seq_k fun K hK=>?_);refine AW.rg ?_;simp;try (refine hK _ rfl ?_;clear hK K)
   refine AW.seq_k fun K hK=>?_;refine AW.yes ?_ rfl;refine AW.skip ?_;try simp
   refine hK _ rfl ?_;clear hK K;refine AW.seq_ex (ι:=Unit) (fun _=>[(5,.sl 4 [r1.av,r2.av]),(6,.int .i64 2),(7,.int .i64 0)]) (fun _=>Ac.emp) (fun _=>r1.ok=true) ?_ ?_
   ·(repeat refine AW.seq ?_);refine AW.block ?_;(repeat refine AW.seq_k fun K hK=>?_);refine AW.rg ?_;simp[RR.av];try (refine hK _ rfl ?_;clear hK K)
    refine Af.intro fun b4 _=>?_;try simp
    refine hK _ rfl ?_;clear hK K;(repeat refine AW.seq_k fun K hK=>?_);refine AW.rg ?_;simp;try (refine hK _ rfl ?_;clear hK K)
    refine Aa.val v1 ?_;simp;refine hK _ rfl ?_;clear hK K;refine AW.toEmp [(5,.sl 4 [r1.av,r2.av]),(6,.int .i64 2),(7,.int .i64 0),(13,.bool (!r1.ok))] (by simp[RR.av]) ?_;by_cases h:r1.ok=true
    ·refine AW.no ?_ (by simp[h]);exact AW.skip ⟨(),h,rfl,rfl,by simp⟩
    ·refine AW.yes ?_ (by simp[h]);(repeat refine AW.seq_k fun K hK=>?_);refine AW.rg ?_;simp;try (refine hK _ rfl ?_;clear hK K)
     exact AW.ret (Ag rfl _ (.same _) ⟨by simp[h],rfl⟩)
   ·rintro _ h;(repeat refine AW.seq_k fun K hK=>?_);refine AW.rg ?_;simp[w,w2];try (refine hK _ rfl ?_;clear hK K)
    exact⟨1,⟨by omega,fun _=>h,fun hh=>absurd hh (by omega)⟩,by omega,by simp⟩
  ·have w:IntKind.i64.wrap 1=1:=rfl;have w2:IntKind.i64.wrap 2=2:=rfl;(repeat refine AW.seq_k fun K hK=>?_);refine AW.rg ?_;simp;try (refine hK _ rfl ?_;clear hK K)
   refine AW.seq_k fun K hK=>?_;refine AW.yes ?_ rfl;refine AW.skip ?_;try simp
   refine hK _ rfl ?_;clear hK K;refine AW.seq_ex (ι:=Unit) (fun _=>[(5,.sl 4 [r1.av,r2.av]),(6,.int .i64 2),(7,.int .i64 1)]) (fun _=>Ac.emp) (fun _=>r2.ok=true) ?_ ?_
   ·(repeat refine AW.seq ?_);refine AW.block ?_;(repeat refine AW.seq_k fun K hK=>?_);refine AW.rg ?_;simp[RR.av];try (refine hK _ rfl ?_;clear hK K)
    refine Af.intro fun b4 _=>?_;try simp
    refine hK _ rfl ?_;clear hK K;(repeat refine AW.seq_k fun K hK=>?_);refine AW.rg ?_;simp;try (refine hK _ rfl ?_;clear hK K)
    refine Aa.val v2 ?_;simp;refine hK _ rfl ?_;clear hK K;refine AW.toEmp [(5,.sl 4 [r1.av,r2.av]),(6,.int .i64 2),(7,.int .i64 1),(13,.bool (!r2.ok))] (by simp[RR.av]) ?_;by_cases h:r2.ok=true
    ·refine AW.no ?_ (by simp[h]);exact AW.skip ⟨(),h,rfl,rfl,by simp⟩
    ·refine AW.yes ?_ (by simp[h]);(repeat refine AW.seq_k fun K hK=>?_);refine AW.rg ?_;simp;try (refine hK _ rfl ?_;clear hK K)
     exact AW.ret (Ag rfl _ (.same _) ⟨by simp[h],rfl⟩)
   ·rintro _ h;(repeat refine AW.seq_k fun K hK=>?_);refine AW.rg ?_;simp[w,w2];try (refine hK _ rfl ?_;clear hK K)
    exact⟨2,⟨by omega,fun _=>i2 (by omega),fun hh=>h⟩,by omega,by simp⟩
  ·have:i=0:=by omega
   subst this;(repeat refine AW.seq_k fun K hK=>?_);refine AW.rg ?_;simp;try (refine hK _ rfl ?_;clear hK K)
   refine AW.seq_k fun K hK=>?_;refine AW.no ?_ rfl;refine AW.exit ?_;try simp
   exact⟨i2 (by omega),i3 (by omega)⟩
 rintro _ ⟨o1,o2⟩;(repeat refine AW.seq_k fun K hK=>?_);refine AW.rg ?_;simp;try (refine hK _ rfl ?_;clear hK K)
 exact AW.ret (Ag rfl _ (.same _) ⟨by simp[o1,o2],rfl⟩)
end Go.Av
end
section
namespace Go.Av
open Go.Proofs
def Lc (n d:Int):Int:=if d<0 then -n else n
def Iy (d:Int):Int:=if d<0 then -d else d
theorem Pk {d:Int} (h:d≠0):0<Iy d:=by unfold Iy;split<;>omega
theorem Pq (n d:Int):(Lc n d).natAbs=n.natAbs:=by unfold Lc;split<;>omega
theorem L3 (d:Int):(Iy d).natAbs=d.natAbs:=by unfold Iy;split<;>omega
theorem Tz (n d:Int):Rat.divInt (Lc n d) (Iy d)=Rat.divInt n d:=by
 unfold Lc Iy;split
 ·rw[Rat.neg_divInt_neg]
 ·rfl
theorem Xj {a b:Nat} (ha:a<Bh) (hb:b<Bh):Nat.gcd a b<Bh:=by
 rcases Nat.eq_zero_or_pos a with h|h
 ·rw[h,Nat.gcd_zero_left];exact hb
 ·exact Nat.lt_of_le_of_lt (Nat.gcd_le_left _ h) ha
theorem Zg {n d:Int} (h:d≠0):(Lc n d).fdiv (Nat.gcd n.natAbs d.natAbs:Nat)=(Rat.divInt n d).num:=by
 rw[←Tz,Nn (Pk h),Pq,L3,Int.fdiv_eq_ediv_of_nonneg _ (by omega)]
theorem Zc {n d:Int} (h:d≠0):(Iy d).fdiv (Nat.gcd n.natAbs d.natAbs:Nat)=((Rat.divInt n d).den:Int):=by
 have hp:=Pk h;rw[←Tz,Nm hp,Pq,L3,Int.fdiv_eq_ediv_of_nonneg _ (by omega),Int.natCast_ediv];have e:Iy d=((Iy d).natAbs:Int):=by omega
 rw[L3]at e;rw[←e]
theorem Rz (n d:Int) (hn:n.natAbs<Bh) (hd:d.natAbs<Bh) (h0:d≠0):Aj Tryz.prog 185 [Au n,Au d] Ac.emp fun v m=>v=Ix (Rat.divInt n d)∧m=Ac.emp:=by
 have hN:=Pq n d;have hD:=L3 d;have hDp:=Pk h0;have hgl:=Xj hn hd;have hg0:Nat.gcd n.natAbs d.natAbs≠0:=by
  intro e;have:=(Nat.gcd_eq_zero_iff.1 e).2;omega
 have hg:=Xl (Lc n d) (Iy d) (by omega) (by omega);rw[hN,hD]at hg;have hone:=U8 (Nat.gcd n.natAbs d.natAbs:Nat) (by simpa using hgl);have dm1:=H2 (Lc n d) (Nat.gcd n.natAbs d.natAbs:Nat) (by omega) (by simpa using hgl) (by omega);have dm2:=H2 (Iy d) (Nat.gcd n.natAbs d.natAbs:Nat) (by omega) (by simpa using hgl) (by omega);rw[Zg h0]at dm1;rw[Zc h0]at dm2;have hng:=T3 n hn;have hnd:=T3 d hd;have hflag:decide (((Nat.gcd n.natAbs d.natAbs:Nat):Int)<0)=false:=by simp
 have hflag2:decide (((Rat.divInt n d).den:Int)<0)=false:=by simp
 have e1:Nat.gcd n.natAbs d.natAbs=1→Lc n d=(Rat.divInt n d).num∧Iy d=((Rat.divInt n d).den:Int):=by
  intro h;have a1:=Zg (n:=n) h0;have a2:=Zc (n:=n) h0;rw[h,show((1:Nat):Int)=1 from rfl,Int.fdiv_one]at a1 a2;exact⟨a1,a2⟩
 unfold Au at *;unfold Ix;simp only[hflag,hflag2,Int.natAbs_natCast]at *;generalize(Rat.divInt n d).num=q1 at *;generalize(Rat.divInt n d).den=q2 at *;generalize Nat.gcd n.natAbs d.natAbs=g at *;refine Ad Tryz.func185 rfl rfl 39 rfl (Nat.le_of_ble_eq_true rfl) ?_;(repeat refine AW.seq_k fun K hK=>?_);refine AW.rg ?_;simp[Ak];try (refine hK _ rfl ?_;clear hK K)
 refine Af.intro fun b2 _=>?_;refine Af.intro fun b3 hb3=>?_;simp only[An,Ay,and_true]at hb3;refine Af.intro fun b4 hb4=>?_;simp only[An,Ay,and_true]at hb4;refine hK _ rfl ?_;clear hK K;refine AW.seq_has [(2,.ptr b2 2 0 0),(3,.ptr b3 2 0 0),(4,.ptr b4 4 0 0)] (((Ac.emp.set b2 ⟨42,2,[.agg [.bool (decide (Lc n d<0)),Am (Ao (Lc n d).natAbs)]]⟩).set b3 ⟨42,2,[.agg [.bool (decide (Iy d<0)),Am (Ao (Iy d).natAbs)]]⟩).set b4 ⟨44,4,[.agg [.bool false,.nil,.bool false,.nil]]⟩) ?_ ?_
 ·(repeat refine AW.seq_k fun K hK=>?_);refine AW.rg ?_;simp[hb3,hb4];try (refine hK _ rfl ?_;clear hK K)
  (repeat refine AW.seq ?_);refine AW.cs (fun h=>?_) (fun h=>?_) rfl<;>(try simp at h)
  ·have p1:Lc n d=-n:=if_pos h;have p2:Iy d=-d:=if_pos h;(repeat refine AW.seq_k fun K hK=>?_);refine AW.rdT [] [] [] [b2,b3] [0,2,1,3,4,5] Ds (by simp[hb3,hb4]) (by simp[hb3,hb4]) (by simp[hb3,hb4]) (by simp[hb3,hb4]) (by simp[hb3,hb4]) ?_;simp[hb3,hb4];try (refine hK _ rfl ?_;clear hK K)
   refine Aa.val hng ?_;simp;refine Aa.val hnd ?_;simp[hb3,hb4];rw[p1,p2];simp
   funext c
   simp only[A9,Ay]
   (repeat' split)<;>simp_all
  ·have p1:Lc n d=n:=if_neg (by omega);have p2:Iy d=d:=if_neg (by omega);refine AW.skip ⟨rfl,?_,by simp⟩;rw[p1,p2];rfl
 generalize hsN:decide (Lc n d<0)=sN at *;generalize hsD:decide (Iy d<0)=sD at *;generalize hsq:decide (q1<0)=sq at *;(repeat refine AW.seq_k fun K hK=>?_);refine AW.rg ?_;simp[hb3,hb4];try (refine hK _ rfl ?_;clear hK K)
 refine Aa.val hg ?_;simp;refine Af.intro fun b5 hb5=>?_;simp only[An,Ay,and_true]at hb5;try simp[hb3,hb4,hb5]
 refine hK _ rfl ?_;clear hK K;refine AW.seq_has [(2,.ptr b2 2 0 0),(3,.ptr b3 2 0 0),(4,.ptr b4 4 0 0)] ((((Ac.emp.set b2 ⟨42,2,[.agg [.bool sq,Am (Ao q1.natAbs)]]⟩).set b3 ⟨42,2,[.agg [.bool false,Am (Ao q2)]]⟩).set b4 ⟨44,4,[.agg [.bool false,.nil,.bool false,.nil]]⟩).set b5 ⟨42,2,[.agg [.bool false,Am (Ao g)]]⟩) ?_ ?_
 ·(repeat refine AW.seq_k fun K hK=>?_);refine AW.rg ?_;simp[hb3,hb4,hb5];try (refine hK _ rfl ?_;clear hK K)
  refine Aa.val hone ?_;simp;refine hK _ rfl ?_;clear hK K;(repeat refine AW.seq ?_);refine AW.cs (fun h=>?_) (fun h=>?_) rfl<;>(try simp at h)
  ·(repeat refine AW.seq_k fun K hK=>?_);refine AW.rg ?_;simp[hb3,hb4,hb5];try (refine hK _ rfl ?_;clear hK K)
   refine Aa.val dm1 ?_;simp[hb3,hb4,hb5];refine hK _ rfl ?_;clear hK K;(repeat refine AW.seq_k fun K hK=>?_);refine AW.rg ?_;simp[hb3,hb4,hb5];try (refine hK _ rfl ?_;clear hK K)
   refine Aa.val dm2 ?_;simp[hb3,hb4,hb5]
   funext c
   simp only[A9,Ay]
   (repeat' split)<;>simp_all
  ·obtain⟨a1,a2⟩:=e1 h;rw[a1]at hsN;rw[a2]at hsD;have a3:sN=sq:=by rw[←hsN,hsq]
   have a4:sD=false:=by rw[←hsD];simp
   refine AW.skip ⟨rfl,?_,by simp⟩;rw[a1,a2,a3,a4,Int.natAbs_natCast];rfl
 (repeat refine AW.seq_k fun K hK=>?_);refine AW.rg ?_;simp[hb3,hb4,hb5];try (refine hK _ rfl ?_;clear hK K)
 exact AW.ret (Ah (vs:=[.agg [.bool sq,Am (Ao q1.natAbs),.bool false,Am (Ao q2)]]) [.agg [.bool sq,Am (Ao q1.natAbs),.bool false,Am (Ao q2)]] (by simp[hb3,hb4,hb5]) (by simp) ⟨rfl,rfl⟩)
end Go.Av
end
section
namespace Go.Av
open Go.Proofs
theorem R5 (n d:Int) (hn:n.natAbs<Bh) (hd:d.natAbs<Bh) (h0:d≠0):Aj Tryz.prog 137 [Au n,Au d] Ac.emp fun v m=>v=Ix (Rat.divInt n d)∧m=Ac.emp:=by
 have hN:=Pq n d;have hD:=L3 d;have hDp:=Pk h0;have hgl:=Xj hn hd;have hg0:Nat.gcd n.natAbs d.natAbs≠0:=by
  intro e;have:=(Nat.gcd_eq_zero_iff.1 e).2;omega
 have hg:=Xh n d (by omega) (by omega);have dm1:=Ot (Lc n d) (Nat.gcd n.natAbs d.natAbs:Nat) (by omega) (by simpa using hgl) (by omega);have dm2:=Ot (Iy d) (Nat.gcd n.natAbs d.natAbs:Nat) (by omega) (by simpa using hgl) (by omega);rw[Zg h0]at dm1;rw[Zc h0]at dm2;have hng:=Jk n hn;have hnd:=Jk d hd;have hflag:decide (((Nat.gcd n.natAbs d.natAbs:Nat):Int)<0)=false:=by simp
 have hflag2:decide (((Rat.divInt n d).den:Int)<0)=false:=by simp
 unfold Au at *;unfold Ix;simp only[hflag,hflag2,Int.natAbs_natCast]at *;generalize(Rat.divInt n d).num=q1 at *;generalize(Rat.divInt n d).den=q2 at *;generalize Nat.gcd n.natAbs d.natAbs=g at *;refine Ad Tryz.func137 rfl rfl 42 rfl (Nat.le_of_ble_eq_true rfl) ?_;(repeat refine AW.seq_k fun K hK=>?_);refine AW.rg ?_;simp[Ak];try (refine hK _ rfl ?_;clear hK K)
 refine Af.intro fun b2 _=>?_;refine Af.intro fun b3 hb3=>?_;simp only[An,Ay,and_true]at hb3;refine Af.intro fun b4 hb4=>?_;simp only[An,Ay,and_true]at hb4;refine hK _ rfl ?_;clear hK K;(repeat refine AW.seq_k fun K hK=>?_);refine AW.rg ?_;simp[hb3,hb4];try (refine hK _ rfl ?_;clear hK K)
 refine Aa.val hg ?_;simp;refine Af.intro fun b5 hb5=>?_;simp only[An,Ay,and_true]at hb5;try simp[hb3,hb4,hb5]
 refine hK _ rfl ?_;clear hK K;refine AW.seq_has [(2,.ptr b2 2 0 0),(3,.ptr b3 2 0 0),(4,.ptr b4 4 0 0),(5,.ptr b5 2 0 0)] ((((Ac.emp.set b2 ⟨42,2,[.agg [.bool (decide (Lc n d<0)),Am (Ao (Lc n d).natAbs)]]⟩).set b3 ⟨42,2,[.agg [.bool (decide (Iy d<0)),Am (Ao (Iy d).natAbs)]]⟩).set b4 ⟨44,4,[.agg [.bool false,.nil,.bool false,.nil]]⟩).set b5 ⟨42,2,[.agg [.bool false,Am (Ao g)]]⟩) ?_ ?_
 ·(repeat refine AW.seq_k fun K hK=>?_);refine AW.rg ?_;simp[hb3,hb4,hb5];try (refine hK _ rfl ?_;clear hK K)
  (repeat refine AW.seq ?_);refine AW.cs (fun h=>?_) (fun h=>?_) rfl<;>(try simp at h)
  ·have p1:Lc n d=-n:=if_pos h;have p2:Iy d=-d:=if_pos h;(repeat refine AW.seq_k fun K hK=>?_);refine AW.rg ?_;simp[hb3,hb4,hb5];try (refine hK _ rfl ?_;clear hK K)
   refine Aa.val hng ?_;simp[hb3,hb4,hb5];refine hK _ rfl ?_;clear hK K;(repeat refine AW.seq_k fun K hK=>?_);refine AW.rg ?_;simp[hb3,hb4,hb5];try (refine hK _ rfl ?_;clear hK K)
   refine Aa.val hnd ?_;simp[hb3,hb4,hb5];rw[p1,p2];simp
   funext c
   simp only[A9,Ay]
   (repeat' split)<;>simp_all
  ·have p1:Lc n d=n:=if_neg (by omega);have p2:Iy d=d:=if_neg (by omega);refine AW.skip ⟨rfl,?_,by simp⟩;rw[p1,p2];rfl
 (repeat refine AW.seq_k fun K hK=>?_);refine AW.rg ?_;simp[hb3,hb4,hb5];try (refine hK _ rfl ?_;clear hK K)
 refine Aa.val dm1 ?_;simp[hb3,hb4,hb5];refine Af.intro fun b7 hb7=>?_;simp only[An,Ay,and_true]at hb7;refine Af.intro fun b8 hb8=>?_;simp only[An,Ay,and_true]at hb8;try simp[hb3,hb4,hb5,hb7,hb8]
 refine hK _ rfl ?_;clear hK K;(repeat refine AW.seq_k fun K hK=>?_);refine AW.rg ?_;simp[hb3,hb4,hb5,hb7,hb8];try (refine hK _ rfl ?_;clear hK K)
 refine Aa.val dm2 ?_;simp[hb3,hb4,hb5,hb7,hb8];refine Af.intro fun b10 hb10=>?_;simp only[An,Ay,and_true]at hb10;refine Af.intro fun b11 hb11=>?_;simp only[An,Ay,and_true]at hb11;try simp[hb3,hb4,hb5,hb7,hb8,hb10,hb11]
 refine hK _ rfl ?_;clear hK K;(repeat refine AW.seq_k fun K hK=>?_);refine AW.rg ?_;simp[hb3,hb4,hb5,hb7,hb8,hb10,hb11];try (refine hK _ rfl ?_;clear hK K)
 exact AW.ret (Ah (vs:=[.agg [.bool (decide (q1<0)),Am (Ao q1.natAbs),.bool false,Am (Ao q2)]]) [.agg [.bool (decide (q1<0)),Am (Ao q1.natAbs),.bool false,Am (Ao q2)]] (by simp[hb3,hb4,hb5,hb7,hb8,hb10,hb11]) (by simp) ⟨rfl,rfl⟩)
theorem Dg {n c t b:Nat} {L:List (Nat × AV)} {m:Ac} {R:AV→Ac→Prop} {x1 x2 x3 x4 e:AV} (y1 y2 y3 y4:AV) (hc:look L c=.ptr b 4 0 0) (he:look L t=e) (hm:m b=some ⟨44,4,[.agg [x1,x2,x3,x4]]⟩) (hn:(Nat.blt c n&&Nat.blt t n)=true)
  (hv:D9 m Ac.emp [x1,x2,x3,x4] [y1,y2,y3,y4]) (hR:R (.tup [.agg [y1,y2,y3,y4],e]) Ac.emp):Ou Tryz.prog [.cell c 44,.tmp t] R .ret (S n L m):=by
 rw[Bool.and_eq_true]at hn;refine Ah (vs:=[.agg [x1,x2,x3,x4],e]) [.agg [y1,y2,y3,y4],e] ?_ ?_ hR
 ·simp only[O6,R3,Q8,T9,hn.1,hn.2,if_true,hc,he,Q0x,Option.bind_some,Ti,hm];simp
 ·simp only[Lm,Np,and_true,D4,Tf]at hv ⊢;exact hv
theorem Qdn (n d:Int) (hn:n.natAbs<Bh) (hd:d.natAbs<Bh) (h0:d≠0):Aj Tryz.prog 96 [Au n,Au d] Ac.emp fun v m=>v=Eb (some (Rat.divInt n d))∧m=Ac.emp:=by
 have v1:=Ga hn;have v2:=Ga hd;have hz:=I9 (decide (d<0)) (Ao d.natAbs);have hlo:=R5 n d hn hd h0;have hl:¬Ao d.natAbs=[]:=by rw[Cq];omega
 unfold Ee at hz;simp only[Eb];unfold Au Ix at *;refine Ad Tryz.func96 rfl rfl 25 rfl (Nat.le_of_ble_eq_true rfl) ?_;(repeat refine AW.seq_k fun K hK=>?_);refine AW.rgR [2,3] ?_;simp[Ak];try (refine hK _ rfl ?_;clear hK K)
 refine Af.intro fun b4 _=>?_;refine hK _ rfl ?_;clear hK K;(repeat refine AW.seq_k fun K hK=>?_);refine AW.rg ?_;simp;try (refine hK _ rfl ?_;clear hK K)
 refine Aa.val v1 ?_;simp;refine hK _ rfl ?_;clear hK K;(repeat refine AW.seq_k fun K hK=>?_);refine AW.rg ?_;simp;try (refine hK _ rfl ?_;clear hK K)
 refine Aa.val v2 ?_;simp;refine hK _ rfl ?_;clear hK K;(repeat refine AW.seq_k fun K hK=>?_);refine AW.rg ?_;simp;try (refine hK _ rfl ?_;clear hK K)
 refine AW.no ?_ rfl;refine AW.skip ?_;try simp
 refine hK _ rfl ?_;clear hK K;(repeat refine AW.seq_k fun K hK=>?_);refine AW.rg ?_;simp;try (refine hK _ rfl ?_;clear hK K)
 refine Aa.val hz ?_;simp[hl];refine hK _ rfl ?_;clear hK K;refine AW.no ?_ rfl;refine AW.skip ?_;try simp
 refine hK _ rfl ?_;clear hK K;(repeat refine AW.seq_k fun K hK=>?_);refine AW.rg ?_;simp;try (refine hK _ rfl ?_;clear hK K)
 refine Aa.val hlo ?_;simp;refine hK _ rfl ?_;clear hK K;exact AW.ret (Dg (b:=b4) _ _ _ _ rfl rfl (by simp;exact⟨rfl,rfl,rfl,rfl⟩) rfl (by simp) ⟨rfl,rfl⟩)
theorem Qin (n d:Int) (hn:n.natAbs<Bh) (hd:d.natAbs<Bh) (h0:d≠0):Aj Tryz.prog 186 [Au n,Au d] Ac.emp fun v m=>v=Eb (some (Rat.divInt n d))∧m=Ac.emp:=by
 have v1:=Hb (decide (n<0)) (Ao n.natAbs);have v2:=Hb (decide (d<0)) (Ao d.natAbs);rw[Fe hn]at v1;rw[Fe hd]at v2;have hz:=J4 (decide (d<0)) (Ao d.natAbs);have hlo:=Rz n d hn hd h0;have hl:¬Ao d.natAbs=[]:=by rw[Cq];omega
 obtain⟨g1,g2⟩:=G8 hn hd h0;have l1:=Bg g1;have l2:=Bg g2;unfold Ee at *;simp only[Eb];unfold Au Ix at *;generalize(Rat.divInt n d).num=q1 at *;generalize(Rat.divInt n d).den=q2 at *;have f1:=U5 (decide (q1<0)) (Ao q1.natAbs) (by omega);have f2:=U5 false (Ao q2) (by omega);refine Ad Tryz.func186 rfl rfl 31 rfl (Nat.le_of_ble_eq_true rfl) ?_;(repeat refine AW.seq_k fun K hK=>?_);refine AW.rgR [2,3] ?_;simp[Ak];try (refine hK _ rfl ?_;clear hK K)
 refine Af.intro fun b4 _=>?_;refine hK _ rfl ?_;clear hK K;refine AW.seq_has [(2,.rptr [.bool (decide (n<0)),Am (Ao n.natAbs)]),(3,.rptr [.bool (decide (d<0)),Am (Ao d.natAbs)]),(4,.ptr b4 4 0 0)] (Ac.emp.set b4 ⟨44,4,[.agg [.bool false,.nil,.bool false,.nil]]⟩) ?_ ?_
 ·(repeat refine AW.seq ?_);refine AW.block ?_;(repeat refine AW.seq_k fun K hK=>?_);refine AW.rg ?_;simp;try (refine hK _ rfl ?_;clear hK K)
  refine Aa.val v1 ?_;simp;refine Aa.val v2 ?_;simp;refine hK _ rfl ?_;clear hK K;refine AW.no ?_ rfl;(repeat refine AW.seq_k fun K hK=>?_);refine AW.rg ?_;simp;try (refine hK _ rfl ?_;clear hK K)
  refine Aa.val hz ?_;simp[hl];refine hK _ rfl ?_;clear hK K;refine AW.no ?_ rfl;refine AW.skip ?_;try simp
 (repeat refine AW.seq_k fun K hK=>?_);refine AW.rg ?_;simp;try (refine hK _ rfl ?_;clear hK K)
 refine Aa.val hlo ?_;simp;refine Af.intro fun b6 hb6=>?_;simp only[An,Ay,and_true]at hb6;try simp
 refine hK _ rfl ?_;clear hK K;(repeat refine AW.seq_k fun K hK=>?_);refine AW.rdT [] [] [] [b6] [0,1,3,4,2,5,6,7,8] Ds (by simp[hb6]) (by simp[hb6]) (by simp[hb6]) (by simp[hb6]) (by simp[hb6]) ?_;simp[hb6];try (refine hK _ rfl ?_;clear hK K)
 refine Aa.val f1 ?_;simp;refine Aa.val f2 ?_;simp[hb6];refine hK _ rfl ?_;clear hK K;exact AW.ret (Dg (b:=b4) _ _ _ _ rfl rfl (by simp;exact⟨rfl,rfl,rfl,rfl⟩) rfl (by simp) ⟨rfl,rfl⟩)
theorem Qf3 (n d:Int) (h1:-9223372036854775808≤n) (h2:n<9223372036854775808) (h3:-9223372036854775808≤d) (h4:d<9223372036854775808) (h0:d≠0):Aj Tryz.prog 150 [.int .i64 n,.int .i64 d] Ac.emp fun v m=>v=Eb (some (Rat.divInt n d))∧m=Ac.emp:=by
 have o1:=Qbx n h1 h2;have o2:=Qbx d h3 h4;have mk:=Qin n d (Vf (by omega)) (Vf (by omega)) h0;simp only[Eb]at *;unfold Ix at *;refine Ad Tryz.func150 rfl rfl 13 rfl (Nat.le_of_ble_eq_true rfl) ?_;(repeat refine AW.seq_k fun K hK=>?_);refine AW.rg ?_;simp[Ak];try (refine hK _ rfl ?_;clear hK K)
 refine Af.intro fun b4 _=>?_;refine hK _ rfl ?_;clear hK K;(repeat refine AW.seq_k fun K hK=>?_);refine AW.rg ?_;simp;try (refine hK _ rfl ?_;clear hK K)
 refine Aa.val o1 ?_;simp;refine Aa.val o2 ?_;simp;refine Aa.val mk ?_;simp;refine hK _ rfl ?_;clear hK K;exact AW.ret (Dg (b:=b4) _ _ _ _ rfl rfl (by simp;exact⟨rfl,rfl,rfl,rfl⟩) rfl (by simp) ⟨rfl,rfl⟩)
theorem Qb5 (n d:Int) (h1:-9223372036854775808≤n) (h2:n<9223372036854775808) (h3:-9223372036854775808≤d) (h4:d<9223372036854775808) (h0:d≠0):Aj Tryz.prog 63 [.int .i64 n,.int .i64 d] Ac.emp fun v m=>v=Eb (some (Rat.divInt n d))∧m=Ac.emp:=by
 have o1:=Qah n h1 h2;have o2:=Qah d h3 h4;have mk:=Qdn n d (Vf (by omega)) (Vf (by omega)) h0;simp only[Eb]at *;unfold Ix at *;refine Ad Tryz.func63 rfl rfl 13 rfl (Nat.le_of_ble_eq_true rfl) ?_;(repeat refine AW.seq_k fun K hK=>?_);refine AW.rg ?_;simp[Ak];try (refine hK _ rfl ?_;clear hK K)
 refine Af.intro fun b4 _=>?_;refine hK _ rfl ?_;clear hK K;(repeat refine AW.seq_k fun K hK=>?_);refine AW.rg ?_;simp;try (refine hK _ rfl ?_;clear hK K)
 refine Aa.val o1 ?_;simp;refine Aa.val o2 ?_;simp;refine Aa.val mk ?_;simp;refine hK _ rfl ?_;clear hK K;exact AW.ret (Dg (b:=b4) _ _ _ _ rfl rfl (by simp;exact⟨rfl,rfl,rfl,rfl⟩) rfl (by simp) ⟨rfl,rfl⟩)
end Go.Av
end
section
namespace Go.Av
open Go.Proofs
theorem Mi (d:Nat):Au (d:Int)=.agg [.bool false,Am (Ao d)]:=by
 rw[Au,show decide ((d:Int)<0)=false by simp];rfl
theorem S5 {z:Int} (h:Cy z=true):Bv z=.tup [.agg [.bool (decide (z<0)),Am (Ao z.natAbs)],.int .i64 0]:=by
 rw[Ce]at h;rw[Bv,Q6 h,R4 h];rfl
theorem Yr {z:Int} (h:¬Cy z=true):Bv z=.tup [.agg [.bool false,Am []],.int .i64 2]:=by
 rw[Ce]at h;rw[Bv,fz,fe,if_neg h,if_neg h,Au];simp[Be]
section
variable {a b:Rat}
theorem Qr6 (h1:Cy (a.num*b.num)=true) (h2:Cy ((a.den:Int)*b.den)=true):Ea a b=some (a*b):=by unfold Ea;rw[h1,h2];rfl
theorem Qnt (h1:¬Cy (a.num*b.num)=true):Ea a b=none:=by unfold Ea;rw[if_neg (by simp only[Bool.and_eq_true];exact fun h=>h1 h.1)]
theorem Qof (h1:Cy (a.num*b.num)=true) (h2:¬Cy ((a.den:Int)*b.den)=true):Ea a b=none:=by unfold Ea;rw[if_neg (by simp only[Bool.and_eq_true];exact fun h=>h2 h.2)]
theorem Qrp (h1:Cy (a.num*b.den)=true) (h2:Cy ((a.den:Int)*b.num)=true):Fo a b=some (a / b):=by unfold Fo;rw[h1,h2];rfl
theorem Qn0 (h1:¬Cy (a.num*b.den)=true):Fo a b=none:=by unfold Fo;rw[if_neg (by simp only[Bool.and_eq_true];exact fun h=>h1 h.1)]
theorem Qm5 (h1:Cy (a.num*b.den)=true) (h2:¬Cy ((a.den:Int)*b.num)=true):Fo a b=none:=by unfold Fo;rw[if_neg (by simp only[Bool.and_eq_true];exact fun h=>h2 h.2)]
theorem Qki (h1:Cy (a.num*b.den)=true) (h2:Cy (b.num*a.den)=true) (h3:Cy (a.num*b.den-b.num*a.den)=true) (h4:Cy ((a.den:Int)*b.den)=true):Db a b=some (a-b):=by unfold Db;rw[h1,h2,h3,h4];rfl
theorem Qf8 (h1:¬Cy (a.num*b.den)=true):Db a b=none:=by unfold Db;rw[if_neg (by simp only[Bool.and_eq_true];exact fun h=>h1 h.1.1.1)]
theorem Qfj (h1:Cy (a.num*b.den)=true) (h2:¬Cy (b.num*a.den)=true):Db a b=none:=by unfold Db;rw[if_neg (by simp only[Bool.and_eq_true];exact fun h=>h2 h.1.1.2)]
theorem Qgd (h1:Cy (a.num*b.den)=true) (h2:Cy (b.num*a.den)=true) (h3:¬Cy (a.num*b.den-b.num*a.den)=true):Db a b=none:=by unfold Db;rw[if_neg (by simp only[Bool.and_eq_true];exact fun h=>h3 h.1.2)]
theorem Qfv (h1:Cy (a.num*b.den)=true) (h2:Cy (b.num*a.den)=true) (h3:Cy (a.num*b.den-b.num*a.den)=true) (h4:¬Cy ((a.den:Int)*b.den)=true):Db a b=none:=by unfold Db;rw[if_neg (by simp only[Bool.and_eq_true];exact fun h=>h4 h.2)]
end
theorem Gh {q:Rat} (h:Cd q):((q.den:Int)).natAbs<Bh:=by simpa using h.2
theorem Wc (a b:Rat) (ha:Cd a) (hb:Cd b):Aj Tryz.prog 98 [Ix a,Ix b,.bool true] Ac.emp fun v m=>v=Eb (Db a b)∧m=Ac.emp:=by
 have hbo:=Qev (A3 a) (A3 b) (Fj a) (Fj b);rw[Ef ha,Ef hb]at hbo;have m1:=Qr a.num b.den ha.1 (Gh hb);have m2:=Qr b.num a.den hb.1 (Gh ha);have m4:=Qr a.den b.den (Gh ha) (Gh hb);have hne:(a.den:Int)*b.den≠0:=Int.ne_of_gt (Int.mul_pos (by have:=a.den_pos;omega) (by have:=b.den_pos;omega));have hlo:Cy (a.num*b.den-b.num*a.den)=true→Cy ((a.den:Int)*b.den)=true→_:=fun h1 h2=>R5 (a.num*b.den-b.num*a.den) ((a.den:Int)*b.den) (Ce.1 h1) (Ce.1 h2) hne;rw[←Qc6]at hlo
 have hng:Cy (b.num*a.den)=true→_:=fun h=>Jk (b.num*a.den) (Ce.1 h);have m3:Cy (a.num*b.den)=true→Cy (b.num*a.den)=true→_:=fun h1 h2=>Qhf (a.num*b.den) (-(b.num*a.den)) (Ce.1 h1) (by rw[Int.natAbs_neg];exact Ce.1 h2);rw[←Int.sub_eq_add_neg]at m3;obtain⟨y,hy⟩:∃y:Int,-(b.num*a.den)=y:=⟨_,rfl⟩;rw[hy]at hng m3;simp only[RR.av,A3]at hbo;unfold Ix at *;simp only[Mi]at m1 m2 m4;simp only[Au]at m1 m2 m3 hlo hng;refine Ad Tryz.func98 rfl rfl 73 rfl (Nat.le_of_ble_eq_true rfl) ?_;(repeat refine AW.seq_k fun K hK=>?_)
 refine AW.rgR [3,4] ?_;simp[Ak];try (refine hK _ rfl ?_;clear hK K)
 refine Af.intro fun b6 _=>?_;refine hK _ rfl ?_;clear hK K;(repeat refine AW.seq_k fun K hK=>?_);refine AW.rg ?_;simp;try (refine hK _ rfl ?_;clear hK K)
 refine Aa.val hbo ?_;simp;refine hK _ rfl ?_;clear hK K;refine AW.no ?_ rfl;refine AW.skip ?_;try simp
 refine hK _ rfl ?_;clear hK K;(repeat refine AW.seq_k fun K hK=>?_);refine AW.rg ?_;simp[and_true];try (refine hK _ rfl ?_;clear hK K)
 refine Aa.val m1 ?_;by_cases c1:Cy (a.num*(b.den:Int))=true
 case neg =>
  rw[Yr c1];simp;refine Af.intro fun b8 hb8=>?_;simp only[An,Ay,and_true]at hb8;try simp[and_true]
  refine hK _ rfl ?_;clear hK K;(repeat refine AW.seq_k fun K hK=>?_);refine AW.rg ?_;simp;try (refine hK _ rfl ?_;clear hK K)
  refine AW.yes ?_ rfl;(repeat refine AW.seq_k fun K hK=>?_);refine AW.rg ?_;simp[and_true,hb8];try (refine hK _ rfl ?_;clear hK K)
  exact AW.ret (Dg (b:=b6) _ _ _ _ rfl rfl (by simp[and_true,hb8];exact⟨rfl,rfl,rfl,rfl⟩) rfl (by simp;exact⟨D4 _ _ _ |>.2 trivial,B2.nilsl 1,D4 _ _ _ |>.2 trivial,B2.nilsl 1⟩) ⟨by rw[Qf8 c1];rfl,rfl⟩)
 rw[S5 c1];simp;refine Af.intro fun b8 hb8=>?_;simp only[An,Ay,and_true]at hb8;try simp[and_true]
 refine hK _ rfl ?_;clear hK K;(repeat refine AW.seq_k fun K hK=>?_);refine AW.rg ?_;simp;try (refine hK _ rfl ?_;clear hK K)
 refine AW.no ?_ rfl;refine AW.skip ?_;try simp
 refine hK _ rfl ?_;clear hK K;(repeat refine AW.seq_k fun K hK=>?_);refine AW.rg ?_;simp[hb8];try (refine hK _ rfl ?_;clear hK K)
 refine Aa.val m2 ?_;by_cases c2:Cy (b.num*(a.den:Int))=true
 case neg =>
  rw[Yr c2];simp;refine Af.intro fun b10 hb10=>?_;simp only[An,Ay,and_true]at hb10;try simp[hb8]
  refine hK _ rfl ?_;clear hK K;(repeat refine AW.seq_k fun K hK=>?_);refine AW.rg ?_;simp;try (refine hK _ rfl ?_;clear hK K)
  refine AW.yes ?_ rfl;(repeat refine AW.seq_k fun K hK=>?_);refine AW.rg ?_;simp[hb8,hb10];try (refine hK _ rfl ?_;clear hK K)
  exact AW.ret (Dg (b:=b6) _ _ _ _ rfl rfl (by simp[hb8,hb10];exact⟨rfl,rfl,rfl,rfl⟩) rfl (by simp;exact⟨D4 _ _ _ |>.2 trivial,B2.nilsl 1,D4 _ _ _ |>.2 trivial,B2.nilsl 1⟩) ⟨by rw[Qfj c1 c2];rfl,rfl⟩)
 rw[S5 c2];simp;refine Af.intro fun b10 hb10=>?_;simp only[An,Ay,and_true]at hb10;try simp[hb8]
 refine hK _ rfl ?_;clear hK K;(repeat refine AW.seq_k fun K hK=>?_);refine AW.rg ?_;simp;try (refine hK _ rfl ?_;clear hK K)
 refine AW.no ?_ rfl;refine AW.skip ?_;try simp
 refine hK _ rfl ?_;clear hK K;refine AW.seq_k fun K hK=>?_;(repeat refine AW.seq_k fun K hK=>?_);refine AW.rg ?_;simp;try (refine hK _ rfl ?_;clear hK K)
 refine AW.yes ?_ rfl;(repeat refine AW.seq_k fun K hK=>?_);refine AW.rg ?_;simp[hb8,hb10];try (refine hK _ rfl ?_;clear hK K)
 refine Aa.val (hng c2) ?_;simp[hb8,hb10];refine hK _ rfl ?_;clear hK K;(repeat refine AW.seq_k fun K hK=>?_);refine AW.rg ?_;simp[hb8,hb10];try (refine hK _ rfl ?_;clear hK K)
 refine Aa.val (m3 c1 c2) ?_;by_cases c3:Cy (a.num*(b.den:Int)-b.num*(a.den:Int))=true
 case neg =>
  rw[Yr c3];simp;refine Af.intro fun b12 hb12=>?_;simp only[An,Ay,and_true]at hb12;try simp[hb8,hb10]
  refine hK _ rfl ?_;clear hK K;(repeat refine AW.seq_k fun K hK=>?_);refine AW.rg ?_;simp;try (refine hK _ rfl ?_;clear hK K)
  refine AW.yes ?_ rfl;(repeat refine AW.seq_k fun K hK=>?_);refine AW.rg ?_;simp[hb8,hb10,hb12];try (refine hK _ rfl ?_;clear hK K)
  exact AW.ret (Dg (b:=b6) _ _ _ _ rfl rfl (by simp[hb8,hb10,hb12];exact⟨rfl,rfl,rfl,rfl⟩) rfl (by simp;exact⟨D4 _ _ _ |>.2 trivial,B2.nilsl 1,D4 _ _ _ |>.2 trivial,B2.nilsl 1⟩) ⟨by rw[Qgd c1 c2 c3];rfl,rfl⟩)
 rw[S5 c3];simp;refine Af.intro fun b12 hb12=>?_;simp only[An,Ay,and_true]at hb12;try simp[hb8,hb10]
 refine hK _ rfl ?_;clear hK K;(repeat refine AW.seq_k fun K hK=>?_);refine AW.rg ?_;simp;try (refine hK _ rfl ?_;clear hK K)
 refine AW.no ?_ rfl;refine AW.skip ?_;try simp
 refine hK _ rfl ?_;clear hK K;(repeat refine AW.seq_k fun K hK=>?_);refine AW.rg ?_;simp[hb8,hb10,hb12];try (refine hK _ rfl ?_;clear hK K)
 refine Aa.val m4 ?_;by_cases c4:Cy ((a.den:Int)*(b.den:Int))=true
 case neg =>
  rw[Yr c4];simp;refine Af.intro fun b14 hb14=>?_;simp only[An,Ay,and_true]at hb14;try simp[hb8,hb10,hb12]
  refine hK _ rfl ?_;clear hK K;(repeat refine AW.seq_k fun K hK=>?_);refine AW.rg ?_;simp;try (refine hK _ rfl ?_;clear hK K)
  refine AW.yes ?_ rfl;(repeat refine AW.seq_k fun K hK=>?_);refine AW.rg ?_;simp[hb8,hb10,hb12,hb14];try (refine hK _ rfl ?_;clear hK K)
  exact AW.ret (Dg (b:=b6) _ _ _ _ rfl rfl (by simp[hb8,hb10,hb12,hb14];exact⟨rfl,rfl,rfl,rfl⟩) rfl (by simp;exact⟨D4 _ _ _ |>.2 trivial,B2.nilsl 1,D4 _ _ _ |>.2 trivial,B2.nilsl 1⟩) ⟨by rw[Qfv c1 c2 c3 c4];rfl,rfl⟩)
 rw[S5 c4];simp[-Int.natCast_mul];refine Af.intro fun b14 hb14=>?_;simp only[An,Ay,and_true]at hb14;try simp[-Int.natCast_mul,hb8,hb10,hb12]
 refine hK _ rfl ?_;clear hK K;(repeat refine AW.seq_k fun K hK=>?_);refine AW.rg ?_;simp[-Int.natCast_mul];try (refine hK _ rfl ?_;clear hK K)
 refine AW.no ?_ rfl;refine AW.skip ?_;try simp[-Int.natCast_mul]
 refine hK _ rfl ?_;clear hK K;(repeat refine AW.seq_k fun K hK=>?_);refine AW.rg ?_;simp[-Int.natCast_mul,hb8,hb10,hb12,hb14];try (refine hK _ rfl ?_;clear hK K)
 refine Aa.val (hlo c3 c4) ?_;simp[-Int.natCast_mul,hb8,hb10,hb12,hb14];refine hK _ rfl ?_;clear hK K;exact AW.ret (Dg (b:=b6) _ _ _ _ rfl rfl (by simp[-Int.natCast_mul,hb8,hb10,hb12,hb14];exact⟨rfl,rfl,rfl,rfl⟩) rfl (Bd _ _ _) ⟨by rw[Qki c1 c2 c3 c4];rfl,rfl⟩)
end Go.Av
end
