/- A part of the proof. -/
import Derived.Test.YthflocfaafoohaaGreatP1
set_option linter.all false
set_option exponentiation.threshold 5000
set_option maxRecDepth 10000
section
namespace Go.Av
open Go.Proofs
theorem Dm:Tryz.prog.follows .mixedOrders=true:=by kernel_rfl
theorem Gw {x:Int} (h1:-9223372036854775808≤x) (h2:x<9223372036854775808):IntKind.i64.wrap x=x:=by
 simp only[IntKind.wrap,IntKind.bits,IntKind.signed,Bool.true_and];split<;>rename_i h<;>simp only[ge_iff_le,decide_eq_true_eq,Int.not_le]at h<;>omega
@[simp] theorem Qaz (x:Int):IntKind.u32.wrap x=x % 4294967296:=by simp[IntKind.wrap,IntKind.bits,IntKind.signed]
@[simp] theorem Qa2 (x:Int):IntKind.u64.wrap x=x % 18446744073709551616:=by simp[IntKind.wrap,IntKind.bits,IntKind.signed]
def nth (l:List Nat) (i:Nat):Nat:=l.getD i 0
theorem Zi {l:List Nat} {i:Nat} (h:i<l.length):nth l i=l[i]:=by unfold nth;rw[List.getD_eq_getElem?_getD,List.getElem?_eq_getElem h];rfl
def Bp (l:List Nat):List AV:=l.map fun(n:Nat)=>.int .u32 (n:Int)
def Ao (l:List Nat):AV:=.sl 1 (Bp l)
@[simp] theorem Nc (l:List Nat):(Bp l).length=l.length:=by simp[Bp]
@[simp] theorem Ql6 (l:List Nat) (i x:Nat):(Bp l).set i (.int .u32 (x:Int))=Bp (l.set i x):=by simp[Bp,List.map_set]
theorem C5 (n:Nat):List.replicate n (.int .u32 0)=Bp (List.replicate n 0):=by simp[Bp]
@[simp] theorem u32s_get? {l:List Nat} {i:Nat} (h:i<l.length):(Bp l)[i]?=some (.int .u32 (nth l i:Nat)):=by simp[Bp,Zi h,h]
@[simp] theorem u32s_get {l:List Nat} {i:Nat} (h:i<(Bp l).length):(Bp l)[i]=.int .u32 (nth l i:Nat):=by
 have h':i<l.length:=by simpa[Bp]using h
 simp[Bp,Zi h']
@[simp] theorem Q2s (n i:Nat):nth (List.replicate n 0) i=0:=by
 unfold nth;rw[List.getD_eq_getElem?_getD,List.getElem?_replicate];split<;>rfl
theorem Ov {l:List Nat} {i:Nat} (x:Nat) (h:i<l.length):nth (l.set i x) i=x:=by
 unfold nth;rw[List.getD_eq_getElem?_getD,List.getElem?_set_self h];rfl
theorem Ox {l:List Nat} {i j:Nat} (x:Nat) (h:i≠j):nth (l.set i x) j=nth l j:=by
 unfold nth;rw[List.getD_eq_getElem?_getD,List.getElem?_set_ne h,←List.getD_eq_getElem?_getD]
@[simp] theorem Qou (l:List Nat):(Bp l).all (fun v=>v.cells.length==1&&v.cells.all AV.one)=true:=by
 rw[List.all_eq_true];intro v hv;obtain⟨n,_,rfl⟩:=List.mem_map.1 hv;rfl
theorem Rm (l:List Nat) (n:Nat):(Bp l).take n=Bp (l.take n):=by simp[Bp,List.map_take]
theorem Rz (l:List Nat) (n:Nat):(Bp l).drop n=Bp (l.drop n):=by simp[Bp,List.map_drop]
theorem S1 (a b:List Nat):Bp a++Bp b=Bp (a++b):=by simp[Bp]
@[simp] theorem Q11:Bp []=[]:=rfl
@[simp] theorem Qsb (l:List Nat):Bp l=[]↔l=[]:=by simp[Bp]
@[simp] theorem Qz8 (l:List Nat):(Ao l).cells=[Ao l]:=(rfl)
@[simp] theorem Q2n (l:List Nat):(Ao l).one=true:=(rfl)
@[simp] theorem Qzj (l:List Nat):(Ao l).isAny=false:=(rfl)
@[simp] theorem Qxt (e:TypeId) (l:List Nat) (size bytes:Nat) (zero:AV) (fs:List (Nat × Nat × Option Bool)):L4 ⟨size,bytes,.slice e,zero,fs⟩ (Ao l)=some (.int .i64 l.length):=by
 simp[Ao]
@[simp] theorem Qxl (m:Ac) (l:List Nat):Fq m 1 (Ao l)=some (Bp l):=by simp[Ao]
@[simp] theorem Qn8 (P:Program) (e:TypeId) (l:List Nat) (size bytes:Nat) (zero:AV) (fs:List (Nat × Nat × Option Bool)) (k:IntKind) (n:Int):Ca P ⟨size,bytes,.slice e,zero,fs⟩ (Ao l) (.int k n)=(Ai P e).bind fun te=>if 1=te.size∧0≤n∧n<l.length then some (.rptr [.int .u32 (nth l n.toNat:Nat)]) else none:=by
 unfold Ao;rw[Ie]
 congr 1
 funext te
 rw[Nc];by_cases h:1=te.size∧0≤n∧n<l.length
 ·rw[if_pos h,if_pos h];have h1:n.toNat<l.length:=by omega
  simp only[Bp,nth,List.getD_eq_getElem?_getD,List.getElem?_map,List.getElem?_eq_getElem h1,Option.map_some,Option.getD_some];rfl
 ·rw[if_neg h,if_neg h]
@[simp] theorem Qr1 (P:Program) (e:TypeId) (l:List Nat) (size bytes:Nat) (zero:AV) (fs:List (Nat × Nat × Option Bool)) (lo hi:Option AV):Ih P ⟨size,bytes,.slice e,zero,fs⟩ (Ao l) lo hi=(Ai P e).bind fun te=>if 1=te.size then (E9 l.length lo hi).map fun(a,b)=>Ao ((l.drop a).take (b-a)) else none:=by
 unfold Ao;rw[Qd9,Nc];simp only[Rz,Rm]
theorem De {m:Ac} {b:Nat} {e:TypeId} {l:List Nat} (h:m b=some ⟨e,1,Bp l⟩):B2 m Ac.emp (.osl b 1 0 l.length) (Ao l):=by
 refine .osl b 1 0 l.length _ _ h rfl rfl (by simp) (by simp) ?_;intro k v v' h1 h2;simp only[Nat.zero_add]at h1;rw[h1]at h2;cases h2;exact .same _
theorem Fk {m m':Ac} {b:Nat} {e:TypeId} {l:List Nat} (h:m b=some ⟨e,1,Bp l⟩) (h':m' b=none):B2 m m' (.osl b 1 0 l.length) (Ao l):=by
 refine .osl b 1 0 l.length _ _ h h' rfl (by simp) (by simp) ?_;intro k v v' h1 h2;simp only[Nat.zero_add]at h1;rw[h1]at h2;cases h2;exact .same _
@[simp] theorem Qpn (m m':Ac):B2 m m' .nil (Ao [])↔True:=iff_true_intro (.nilsl 1)
theorem A1 (l:List Nat) (i:Nat):val (l.take (i+1))=val (l.take i)+4294967296^i*nth l i:=by
 unfold nth;rcases Nat.lt_or_ge i l.length with h | h
 ·rw[Xn l i h,List.getD_eq_getElem?_getD,List.getElem?_eq_getElem h];rfl
 ·rw[List.take_of_length_le h,List.take_of_length_le (by omega),List.getD_eq_getElem?_getD,List.getElem?_eq_none h];simp
theorem Lb.nth {l:List Nat} (h:Lb l) (i:Nat):nth l i<4294967296:=by
 unfold Av.nth;rcases Nat.lt_or_ge i l.length with h' | h'
 ·rw[List.getD_eq_getElem?_getD,List.getElem?_eq_getElem h'];exact h.get i h'
 ·rw[List.getD_eq_getElem?_getD,List.getElem?_eq_none h'];simp
theorem Mx {l:List Nat} {i:Nat} (h:l.length≤i):nth l i=0:=by
 unfold nth;rw[List.getD_eq_getElem?_getD,List.getElem?_eq_none h];rfl
theorem Bn (l:List Nat) (i x:Nat) (h:i<l.length):val ((l.set i x).take (i+1))=val (l.take i)+4294967296^i*x:=by
 rw[A1,List.take_set_of_le (by omega)]
 congr 2
 simp[nth,List.getD_eq_getElem?_getD,h]
@[simp] theorem Q1q (a b:Nat):Int.tdiv (a:Int) (b:Int)=((a / b:Nat):Int):=rfl
@[simp] theorem Q08 (a b:Nat):Int.tmod (a:Int) (b:Int)=((a % b:Nat):Int):=rfl
@[simp] theorem Q3h (a:Nat):Int.tdiv (a:Int) 4294967296=((a / 4294967296:Nat):Int):=rfl
theorem R9 (l:List Nat) (i:Nat) (n:Int) (x:Nat) (h:n=x):(Bp l).set i (.int .u32 n)=Bp (l.set i x):=by rw[h,Ql6]
end Go.Av
end
section
namespace Go.Av
open Go.Proofs
theorem D3 (l:List Nat) (hl:l.length<2^62):Ak Tryz.prog 138 [Ao l] Ac.emp fun v m=>v=Ao (Fe l)∧m=Ac.emp:=by
 refine Ad Tryz.func138 rfl rfl 21 rfl (Nat.le_of_ble_eq_true rfl) ?_;refine AW.seq ?_;refine AW.region (fun _=>false) (by kernel_rfl) ?_;simp;refine AW.keep [(0,Ao l)] (by simp[Al]) ?_;refine AW.seq ?_;refine AW.block (AW.loopS (ι:=List Nat) (fun l=>[(0,Ao l)]) (fun _=>Ac.emp) (fun l'=>l'.length<2^62∧Fe l'=Fe l) List.length l ⟨hl,rfl⟩ rfl (by simp) ?_);rintro l' ⟨h1,h2⟩;by_cases hz:∃l2,l'=l2++[0]
 ·refine AW.seq (AW.seq ?_);refine AW.region (fun _=>false) (by kernel_rfl) ?_;obtain⟨l2,rfl⟩:=hz;have hw:IntKind.i64.wrap (l2.length:Int)=l2.length:=Gw (by omega) (by simp at h1;omega);simp[hw,nth];refine⟨by omega,?_⟩;refine AW.cond (t:=true) rfl rfl ?_;refine AW.skip ?_;simp;refine AW.block (AW.region (fun _=>false) (by kernel_rfl) ?_);simp[hw];refine⟨by omega,l2,?_⟩;simp at h1;simp[←h2,Ml,Ao];omega
 ·have ht:Fe l'=l':=by
   rcases List.eq_nil_or_concat l' with rfl|⟨l2,x,rfl⟩
   ·rfl
   ·rw[List.concat_eq_append]at *;exact O6 l2 (fun h=>hz ⟨l2,by rw[h]⟩)
  rw[ht]at h2;refine AW.seq (AW.seq_has [(14,.bool false),(0,Ao l')] Ac.emp (AW.region (fun _=>false) (by kernel_rfl) ?_) ?_)
  ·rcases List.eq_nil_or_concat l' with rfl|⟨l2,x,rfl⟩
   ·simp
   ·rw[List.concat_eq_append]at *;have hx:x≠0:=fun h=>hz ⟨l2,by rw[h]⟩;have hw:IntKind.i64.wrap (l2.length:Int)=l2.length:=Gw (by omega) (by simp at h1;omega);simp[hw,hx,nth];omega
  refine AW.cond (t:=false) rfl rfl ?_;refine AW.exit ?_;simp;refine AW.seq ?_;refine AW.region (fun _=>false) (by kernel_rfl) ?_;simp;exact AW.ret (Ah rfl _ (.same _) ⟨by simp[h2],rfl⟩)
theorem Ku (a b:List Nat) (ha:Lb a) (hb:Lb b) (la:a.length<2^40) (lb:b.length<2^40):Ak Tryz.prog 113 [Ao a,Ao b] Ac.emp fun v m=>v=Ao (Ap (val a+val b))∧m=Ac.emp:=by
 refine Ad Tryz.func113 rfl rfl 54 rfl (Nat.le_of_ble_eq_true rfl) ?_;refine AW.seq (AW.region (fun _=>false) (by kernel_rfl) ?_);simp;generalize hN:max a.length b.length+1=N;have hm:(if a.length<b.length then (b.length:Int) else a.length)+1=(N:Int):=by split<;>omega
 refine AW.seq (AW.region (fun _=>false) (by kernel_rfl) ?_);have hw:IntKind.i64.wrap (N:Int)=N:=Gw (by omega) (by omega);simp[Al,hm,hw];refine⟨by omega,Ae.intro fun bl _=>?_⟩;refine AW.seq (AW.region (fun _=>false) (by kernel_rfl) ?_);simp;refine AW.seq_ex (ι:=List Nat) (fun o=>[(5,.osl bl 1 0 o.length)]) (fun o=>Ac.emp.set bl ⟨124,1,Bp o⟩) (fun o=>Lb o∧val o=val a+val b∧o.length<2^41) ?_ ?_
 ·refine AW.seq (AW.region (fun _=>false) (by kernel_rfl) ?_);simp;refine AW.block (AW.loopS (ι:=Nat × Nat × List Nat) (fun x=>[(0,Ao a),(1,Ao b),(5,.osl bl 1 0 N),(6,.int .u64 (x.2.1:Nat)),(7,.int .i64 (x.1:Nat))]) (fun x=>Ac.emp.set bl ⟨124,1,Bp x.2.2⟩)
   (fun x=>x.1≤N∧x.2.1<2∧Lb x.2.2∧x.2.2.length=N∧val (x.2.2.take x.1)+4294967296^x.1*x.2.1=val (a.take x.1)+val (b.take x.1)) (fun x=>N-x.1) (0,0,List.replicate N 0) ⟨by simp,by simp,Lb.rep _,by simp,by simp[val]⟩ (by simp[C5]) (by simp) ?_)
  rintro⟨i,c,o⟩ ⟨h1,h2,h3,h4,h5⟩;simp only at h1 h2 h3 h4 h5;simp only;refine AW.seq (AW.seq (AW.region (fun _=>false) (by kernel_rfl) ?_));simp;refine AW.cond_split rfl rfl (fun hi=>?_) (fun hi=>?_)
  ·simp at hi;refine AW.skip ?_;simp;refine AW.seq (AW.block ?_);refine AW.seq (AW.region (fun _=>false) (by kernel_rfl) ?_);simp;refine AW.seq_has [(0,Ao a),(1,Ao b),(5,.osl bl 1 0 N),(7,.int .i64 (i:Nat)),(8,.int .u64 (c+nth a i:Nat))] (Ac.emp.set bl ⟨124,1,Bp o⟩) ?_ ?_
   ·refine AW.seq (AW.region (fun _=>false) (by kernel_rfl) ?_);simp;refine AW.cond_split rfl rfl (fun hl=>?_) (fun hl=>?_)
    ·simp at hl;refine AW.region (fun _=>false) (by kernel_rfl) ?_;have:=ha.nth i;simp[hl];omega
    ·simp at hl;refine AW.skip ?_;have:=Mx hl;simp[hl,this]
   refine AW.seq_has [(5,.osl bl 1 0 N),(7,.int .i64 (i:Nat)),(8,.int .u64 (c+nth a i+nth b i:Nat)),(0,Ao a),(1,Ao b)] (Ac.emp.set bl ⟨124,1,Bp o⟩) ?_ ?_
   ·refine AW.seq (AW.region (fun _=>false) (by kernel_rfl) ?_);simp;refine AW.cond_split rfl rfl (fun hl=>?_) (fun hl=>?_)
    ·simp at hl;refine AW.region (fun _=>false) (by kernel_rfl) ?_;have:=ha.nth i;have:=hb.nth i;simp[hl];omega
    ·simp at hl;refine AW.skip ?_;have:=Mx hl;simp[hl,this]
   have:=ha.nth i;have:=hb.nth i;generalize hs:c+nth a i+nth b i=s;refine AW.seq (AW.region (fun _=>false) (by kernel_rfl) ?_);simp[hi,h4];rw[set_set,R9 o i _ (s % 4294967296) (by simp)];refine AW.region (fun _=>false) (by kernel_rfl) ?_;simp;refine AW.region (fun _=>false) (by kernel_rfl) ?_;have hw2:IntKind.i64.wrap ((i:Int)+1)=((i+1:Nat):Int):=Gw (by omega) (by omega);simp[hw2];refine⟨i+1,s / 4294967296,o.set i (s % 4294967296),⟨by omega,by omega,h3.set i _ (by omega),by simpa using h4,?_⟩,by omega,rfl,by omega,by simp⟩;rw[Bn _ _ _ (by omega),A1,A1,Nat.pow_succ]
   have q:=F9 (4294967296^i) s;rw[←hs,Nat.mul_add,Nat.mul_add,hs]at q;omega
  ·simp at hi;have hiN:i=N:=by omega
   subst hiN;refine AW.exit ?_;simp;refine⟨o,⟨h3,?_,by omega⟩,rfl,h4.symm⟩;rw[Ax o i (by omega),Ax a i (by omega),Ax b i (by omega)]at h5;have q1:=Ln ha (k:=max a.length b.length) (by omega);have q2:=Ln hb (k:=max a.length b.length) (by omega);have q3:4294967296^i=4294967296^(max a.length b.length)*4294967296:=by rw[←hN,Nat.pow_succ]
   have q4:c=0:=by
    rcases Nat.eq_zero_or_pos c with h|h
    ·exact h
    ·have:=Nat.le_mul_of_pos_right (4294967296^i) h;omega
   subst q4;omega
 ·rintro o ⟨h1,h2,h3⟩;refine AW.toEmp [(5,Ao o)] (by simp;exact De (e:=124) (by simp)) ?_;refine AW.seq (AW.region (fun _=>false) (by kernel_rfl) ?_);simp;refine Aa.val (D3 o (by omega)) ?_;try simp
  exact AW.ret (Ah rfl _ (.same _) ⟨by simp[Ck h1,h2],rfl⟩)
end Go.Av
end
section
namespace Go.Av
open Go.Proofs
theorem Ly {a b:List Nat} (ha:Lb a) {k:Nat} (h:val a+val (b.take (k+1))=val b+val (a.take (k+1))) (hlt:nth a k<nth b k):val a<val b:=by
 rw[A1,A1]at h;have h1:=Jq ha k;have h2:4294967296^k*(nth a k+1)≤4294967296^k*nth b k:=Nat.mul_le_mul_left _ hlt;rw[Nat.mul_add]at h2;omega
theorem I6 (x y:Nat) (lx:(Ap x).length<2^40) (ly:(Ap y).length<2^40):Ak Tryz.prog 116 [Ao (Ap x),Ao (Ap y)] Ac.emp fun v m=>v=.int .i64 (Hn x y)∧m=Ac.emp:=by
 refine Ad Tryz.func116 rfl rfl 41 rfl (Nat.le_of_ble_eq_true rfl) ?_;generalize ha:Ap x=a at *;generalize hb:Ap y=b at *;have va:val a=x:=by rw[←ha,A5]
 have vb:val b=y:=by rw[←hb,A5]
 have la:Lb a:=by rw[←ha];exact Bb x
 have lb:Lb b:=by rw[←hb];exact Bb y
 refine AW.sr ?_;simp;refine AW.seq ?_;refine AW.sr ?_;simp[Al];refine AW.cs (fun h=>?_) (fun h=>?_) rfl
 ·refine AW.seq ?_;refine AW.sr ?_;simp;refine AW.cs (fun h2=>?_) (fun h2=>?_) rfl<;>simp at h h2
  ·refine AW.sr ?_;simp;have:=I9 (x:=x) (y:=y) (by rw[ha,hb];omega);exact AW.ret (Ah rfl _ (.same _) ⟨by simp[Ug this],rfl⟩)
  ·refine AW.skip ?_;simp;refine AW.sr ?_;simp;have:=I9 (x:=y) (y:=x) (by rw[ha,hb];omega);exact AW.ret (Ah rfl _ (.same _) ⟨by simp[Ue this],rfl⟩)
 ·simp at h;have hl:a.length=b.length:=by omega
  refine AW.skip ?_;have hw:IntKind.i64.wrap ((a.length:Int)-1)=(a.length:Int)-1:=Gw (by omega) (by omega);simp;refine AW.seq (AW.sr ?_);simp[hw,←hl];refine AW.block (AW.loopS (ι:=Nat) (fun k=>[(0,Ao a),(1,Ao b),(5,.int .i64 ((k:Int)-1))]) (fun _=>Ac.emp) (fun k=>k≤a.length∧val a+val (b.take k)=val b+val (a.take k)) (fun k=>k) a.length ⟨Nat.le_refl _,by rw[Ax b _ (by omega),Ax a _ (by omega)];omega⟩ rfl (by simp) ?_);rintro k ⟨h1,h2⟩;refine AW.seq (AW.sr ?_);simp;refine AW.cs (fun h3=>?_) (fun h3=>?_) rfl<;>simp at h3
  ·obtain⟨k,rfl⟩:∃k',k=k'+1:=⟨k-1,by omega⟩;refine AW.skip ?_;have e:((k+1:Nat):Int)-1=k:=by omega
   simp only[e];simp;refine AW.seq (AW.block ?_);refine AW.seq (AW.sd [0,1,2,3,4,5,6,7,8] Dm ?_);simp;refine⟨by omega,by omega,?_⟩;refine AW.cs (fun h4=>?_) (fun h4=>?_) rfl<;>simp at h4
   ·refine AW.sr ?_;simp;have:=Ly la h2 h4;exact AW.ret (Ah rfl _ (.same _) ⟨by simp[Ug (show x<y by omega)],rfl⟩)
   refine AW.skip ?_;simp;refine AW.sd [0,1,2,3,4,5,6,7,8] Dm ?_;simp;refine⟨by omega,by omega,?_⟩;refine AW.cs (fun h5=>?_) (fun h5=>?_) rfl<;>simp at h5
   ·refine AW.sr ?_;simp;have:=Ly lb h2.symm h5;exact AW.ret (Ah rfl _ (.same _) ⟨by simp[Ue (show y<x by omega)],rfl⟩)
   refine AW.skip ?_;simp;have hw2:IntKind.i64.wrap ((k:Int)-1)=(k:Int)-1:=Gw (by omega) (by omega);refine AW.rg ?_;simp[hw2];refine⟨k,⟨by omega,?_⟩,by omega,rfl⟩;have:nth a k=nth b k:=by omega
   rw[A1,A1,this]at h2;omega
  ·have:k=0:=by omega
   subst this;refine AW.exit ?_;simp;refine AW.sr ?_;simp;simp[val]at h2;exact AW.ret (Ah rfl _ (.same _) ⟨by simp[Qgy (show x=y by omega)],rfl⟩)
theorem Gc (x y:Nat) (hxy:y≤x) (lx:(Ap x).length<2^40):Ak Tryz.prog 117 [Ao (Ap x),Ao (Ap y)] Ac.emp fun v m=>v=Ao (Ap (x-y))∧m=Ac.emp:=by
 refine Ad Tryz.func117 rfl rfl 62 rfl (Nat.le_of_ble_eq_true rfl) ?_;have hlen:=Lz hxy;generalize ha:Ap x=a at *;generalize hb:Ap y=b at *;have va:val a=x:=by rw[←ha,A5]
 have vb:val b=y:=by rw[←hb,A5]
 have la:Lb a:=by rw[←ha];exact Bb x
 have lb:Lb b:=by rw[←hb];exact Bb y
 refine AW.sr ?_;simp[Al];refine AW.sr ?_;simp;refine⟨by omega,Ae.intro fun bl _=>?_⟩;refine AW.sr ?_;simp;refine AW.seq_ex (ι:=List Nat) (fun o=>[(5,.osl bl 1 0 o.length)]) (fun o=>Ac.emp.set bl ⟨124,1,Bp o⟩) (fun o=>Lb o∧val o=x-y∧o.length<2^41) ?_ ?_
 ·refine AW.sr ?_;simp;refine AW.block (AW.loopS (ι:=Nat × Nat × List Nat) (fun x=>[(0,Ao a),(1,Ao b),(5,.osl bl 1 0 a.length),(6,.int .u64 (x.2.1:Nat)),(7,.int .i64 (x.1:Nat))]) (fun x=>Ac.emp.set bl ⟨124,1,Bp x.2.2⟩)
   (fun x=>x.1≤a.length∧x.2.1<2∧Lb x.2.2∧x.2.2.length=a.length∧val (x.2.2.take x.1)+val (b.take x.1)=val (a.take x.1)+4294967296^x.1*x.2.1) (fun x=>a.length-x.1) (0,0,List.replicate a.length 0) ⟨by simp,by simp,Lb.rep _,by simp,by simp[val]⟩ (by simp[C5]) (by simp) ?_)
  rintro⟨i,c,o⟩ ⟨h1,h2,h3,h4,h5⟩;simp only at h1 h2 h3 h4 h5;simp only;refine AW.seq (AW.sr ?_);simp;refine AW.cs (fun hi=>?_) (fun hi=>?_) rfl<;>simp at hi
  ·refine AW.skip ?_;simp;have qa:=la.nth i;have qb:=lb.nth i;have hw2:IntKind.i64.wrap ((i:Int)+1)=((i+1:Nat):Int):=Gw (by omega) (by omega);refine AW.seq (AW.block ?_);refine AW.sr ?_;simp;refine AW.seq_has [(0,Ao a),(1,Ao b),(5,.osl bl 1 0 a.length),(7,.int .i64 (i:Nat)),(8,.int .u64 (c+nth b i:Nat))] (Ac.emp.set bl ⟨124,1,Bp o⟩) ?_ ?_
   ·refine AW.sr ?_;simp;refine AW.cs (fun hl=>?_) (fun hl=>?_) rfl<;>simp at hl
    ·refine AW.rg ?_;simp[hl];omega
    ·refine AW.skip ?_;simp[Mx hl]
   refine AW.sr ?_;simp[hi];have q1:(nth a i:Int) % 18446744073709551616=nth a i:=by omega
   refine AW.cs (fun hl=>?_) (fun hl=>?_) rfl<;>simp[q1]at hl
   ·refine AW.sr ?_;simp[hi,h4,q1];rw[set_set,R9 o i _ (nth a i+4294967296-(c+nth b i)) (by omega)];refine AW.rg ?_;simp;refine AW.rg ?_;simp[hw2];refine⟨i+1,1,o.set i (nth a i+4294967296-(c+nth b i)),⟨by omega,by omega,h3.set i _ (by omega),by simpa using h4,?_⟩,by omega,rfl,by omega,by omega⟩;rw[Bn _ _ _ (by omega),A1,A1,Nat.pow_succ];have q:4294967296^i*(nth a i+4294967296-(c+nth b i))+4294967296^i*(c+nth b i)=4294967296^i*(nth a i)+4294967296^i*4294967296:=by
     rw[←Nat.mul_add,←Nat.mul_add];congr 1;omega
    rw[Nat.mul_add _ c]at q;omega
   ·refine AW.sr ?_;simp[hi,h4,q1];rw[set_set,R9 o i _ (nth a i-(c+nth b i)) (by omega)];refine AW.rg ?_;simp;refine AW.rg ?_;simp[hw2];refine⟨i+1,0,o.set i (nth a i-(c+nth b i)),⟨by omega,by omega,h3.set i _ (by omega),by simpa using h4,?_⟩,by omega,rfl,by omega,by omega⟩;rw[Bn _ _ _ (by omega),A1,A1];have q:4294967296^i*(nth a i-(c+nth b i))+4294967296^i*(c+nth b i)=4294967296^i*(nth a i):=by
     rw[←Nat.mul_add];congr 1;omega
    rw[Nat.mul_add _ c]at q;omega
  ·refine AW.exit ?_;simp;refine⟨o,⟨h3,?_,by omega⟩,rfl,h4.symm⟩;rw[Ax o i (by omega),Ax a i (by omega),Ax b i (by omega)]at h5;have q1:=Ln h3 (k:=i) (by omega);have q4:c=0:=by
    rcases Nat.eq_zero_or_pos c with h|h
    ·exact h
    ·have:=Nat.le_mul_of_pos_right (4294967296^i) h;omega
   subst q4;omega
 ·rintro o ⟨h1,h2,h3⟩;refine AW.toEmp [(5,Ao o)] (by simp;exact De (e:=124) (by simp)) ?_;refine AW.sr ?_;simp;refine Aa.val (D3 o (by omega)) ?_;try simp
  exact AW.ret (Ah rfl _ (.same _) ⟨by simp[Ck h1,h2],rfl⟩)
end Go.Av
end
section
namespace Go.Av
theorem K6 {l:List Nat} (h:Lb l) (k:Nat):nth l k=val l / 4294967296^k % 4294967296:=by
 induction l generalizing k with
 |nil=>simp[nth,val]
 |cons x l ih =>
  have hx:=h x (by simp);cases k with
  |zero=>simp[nth,val];omega
  |succ k =>
   have:=ih (fun y hy=>h y (by simp[hy])) k;simp only[nth,List.getD_cons_succ]at this ⊢;rw[this,val,Nat.pow_succ,Nat.mul_comm _ 4294967296,←Nat.div_div_eq_div_mul]
   congr 2
   omega
theorem Fp (x k:Nat):nth (Ap x) k=x / 4294967296^k % 4294967296:=by rw[K6 (Bb x),A5]
theorem H3 (k:Nat):4294967296^k=2^(32*k):=by rw[show(4294967296:Nat)=2^32 by rfl,←Nat.pow_mul]
theorem Io (x i:Nat):x % 4294967296^(i+1)=x % 4294967296^i+4294967296^i*(x / 4294967296^i % 4294967296):=by
 rw[Nat.pow_succ,Nat.mod_mul]
theorem Qll (x i:Nat):x / 4294967296^(i / 32) % 4294967296 / 2^(i % 32) % 2=x / 2^i % 2:=by
 have h:2^i=2^(32*(i / 32))*2^(i % 32):=by rw[←Nat.pow_add,Nat.div_add_mod]
 rw[h,←Nat.div_div_eq_div_mul,H3];generalize x / 2^(32*(i / 32))=y;have hr:i % 32<32:=Nat.mod_lt _ (by omega);generalize i % 32=r at hr;have e:(4294967296:Nat)=2^r*2^(32-r):=by rw[←Nat.pow_add,Nat.add_sub_cancel' (by omega)]
 have e2:2^(32-r)=2*2^(31-r):=by rw[show 32-r=(31-r)+1 by omega,Nat.pow_succ,Nat.mul_comm]
 rw[e,Nat.mod_mul_right_div_self,e2,Nat.mod_mul_right_mod]
theorem Sg (x n i:Nat):(x / 4294967296^(i+n / 32) % 4294967296+x / 4294967296^(i+n / 32+1) % 4294967296*4294967296) / 2^(n % 32) % 4294967296=x / 2^n / 4294967296^i % 4294967296:=by
 have h:2^n=2^(32*(n / 32))*2^(n % 32):=by rw[←Nat.pow_add,Nat.div_add_mod]
 have h2:x / 2^n / 4294967296^i=x / 4294967296^(i+n / 32) / 2^(n % 32):=by
  rw[h,Nat.div_div_eq_div_mul,Nat.div_div_eq_div_mul,Nat.pow_add,H3 (n / 32)]
  congr 1
  rw[Nat.mul_comm (4294967296^i),Nat.mul_assoc,Nat.mul_assoc,Nat.mul_comm (2^(n % 32))]
 rw[h2,Nat.pow_succ 4294967296 (i+n / 32),←Nat.div_div_eq_div_mul];generalize x / 4294967296^(i+n / 32)=y;have e:y % 4294967296+y / 4294967296 % 4294967296*4294967296=y % 18446744073709551616:=by omega
 rw[e];have hr:n % 32<32:=Nat.mod_lt _ (by omega);generalize n % 32=r at hr;have e3:(18446744073709551616:Nat)=2^r*(4294967296*2^(32-r)):=by
  rw[show(4294967296:Nat)=2^32 by rfl,←Nat.pow_add,←Nat.pow_add,show r+(32+(32-r))=64 by omega]
 rw[e3,Nat.mod_mul_right_div_self,Nat.mod_mul_right_mod]
theorem Qae {r h d:Nat} (hr:r≤32) (hh:h<2^r):h ||| d*2^r % 4294967296=h+d*2^r % 4294967296:=by
 have e:d*2^r % 4294967296=2^r*(d % 2^(32-r)):=by
  rw[show(4294967296:Nat)=2^r*2^(32-r) by rw[←Nat.pow_add,Nat.add_sub_cancel' hr],Nat.mul_comm d,Nat.mul_mod_mul_left]
 rw[e,Nat.or_comm,Nat.add_comm,Nat.two_pow_add_eq_or_of_lt hh]
theorem Qoz {a b:Nat} (ha:a<4294967296) (hb:b<4294967296):G9 .and .u32 (a:Int) (b:Int)=((a &&& b:Nat):Int):=by
 show IntKind.u32.wrap (((BitVec.ofInt 32 (a:Int) &&& BitVec.ofInt 32 (b:Int)).toNat:Nat):Int)=_
 rw[Qaz,BitVec.ofInt_natCast,BitVec.ofInt_natCast,BitVec.toNat_and,BitVec.toNat_ofNat,BitVec.toNat_ofNat,Nat.mod_eq_of_lt (show a<2^32 by omega),Nat.mod_eq_of_lt (show b<2^32 by omega)];have:=Nat.and_lt_two_pow (n:=32) a (show b<2^32 by omega);omega
theorem Qmu {a b:Nat} (ha:a<4294967296) (hb:b<4294967296):G9 .or .u32 (a:Int) (b:Int)=((a ||| b:Nat):Int):=by
 show IntKind.u32.wrap (((BitVec.ofInt 32 (a:Int) ||| BitVec.ofInt 32 (b:Int)).toNat:Nat):Int)=_
 rw[Qaz,BitVec.ofInt_natCast,BitVec.ofInt_natCast,BitVec.toNat_or,BitVec.toNat_ofNat,BitVec.toNat_ofNat,Nat.mod_eq_of_lt (show a<2^32 by omega),Nat.mod_eq_of_lt (show b<2^32 by omega)];have:=Nat.or_lt_two_pow (n:=32) (show a<2^32 by omega) (show b<2^32 by omega);omega
theorem Qpf {a b:Nat} (ha:a<18446744073709551616) (hb:b<18446744073709551616):G9 .and .u64 (a:Int) (b:Int)=((a &&& b:Nat):Int):=by
 show IntKind.u64.wrap (((BitVec.ofInt 64 (a:Int) &&& BitVec.ofInt 64 (b:Int)).toNat:Nat):Int)=_
 rw[Qa2,BitVec.ofInt_natCast,BitVec.ofInt_natCast,BitVec.toNat_and,BitVec.toNat_ofNat,BitVec.toNat_ofNat,Nat.mod_eq_of_lt (show a<2^64 by omega),Nat.mod_eq_of_lt (show b<2^64 by omega)];have:=Nat.and_lt_two_pow (n:=64) a (show b<2^64 by omega);omega
theorem Zy {a b:Nat} (ha:a<18446744073709551616) (hb:b<18446744073709551616):G9 .or .u64 (a:Int) (b:Int)=((a ||| b:Nat):Int):=by
 show IntKind.u64.wrap (((BitVec.ofInt 64 (a:Int) ||| BitVec.ofInt 64 (b:Int)).toNat:Nat):Int)=_
 rw[Qa2,BitVec.ofInt_natCast,BitVec.ofInt_natCast,BitVec.toNat_or,BitVec.toNat_ofNat,BitVec.toNat_ofNat,Nat.mod_eq_of_lt (show a<2^64 by omega),Nat.mod_eq_of_lt (show b<2^64 by omega)];have:=Nat.or_lt_two_pow (n:=64) (show a<2^64 by omega) (show b<2^64 by omega);omega
theorem Qo2 (a j:Nat):Int.fdiv (a:Int) (2^j)=(a:Int) / 2^j:=by
 rw[Int.fdiv_eq_ediv_of_nonneg _ (Int.le_of_lt (Int.pow_pos (by omega)))]
@[simp] theorem Q27 (a:Nat):Int.tdiv (a:Int) 32=((a / 32:Nat):Int):=rfl
@[simp] theorem Q20 (a:Nat):Int.tmod (a:Int) 32=((a % 32:Nat):Int):=rfl
@[simp] theorem Qsh (a:Nat):((a:Int) / 32).toNat=a / 32:=by omega
@[simp] theorem Qr2 (a:Nat):((a:Int) % 32).toNat=a % 32:=by omega
theorem Pk {x:Int} (h:-9223372036854775808≤x∧x<9223372036854775808):IntKind.i64.wrap x=x:=Gw h.1 h.2
@[simp] theorem Q1g:IntKind.u32.bits=32:=rfl
@[simp] theorem Q18:IntKind.u64.bits=64:=rfl
theorem wi {a:Nat} (h:a<9223372036854775808):IntKind.i64.wrap (a:Int)=a:=Gw (by omega) (by omega)
theorem Aq (n:Nat) (h:n<9223372036854775808):IntKind.i64.wrap (n:Int)=(n:Int):=wi h
end Go.Av
end
section
namespace Go.Av
def Ql0 (b:Nat):AV→Prop
 |.ptr b' _ _ _=>b'=b
 |_=>True
def Qmm:AV→Prop
 |.ptr _ _ _ _=>False
 |_=>True
def Qd5 (bs:List Nat):AV→Prop
 |.ptr b _ _ _=>b ∉ bs
 |_=>True
@[simp] theorem Qyb (b b' z i j:Nat):Ql0 b (.ptr b' z i j)↔b'=b:=Iff.rfl
@[simp] theorem Qza (b:Nat):Ql0 b .any↔True:=Iff.rfl
@[simp] theorem Qtp (l:List AV):Qmm (.rptr l)↔True:=Iff.rfl
@[simp] theorem Qx9:Qmm .any↔True:=Iff.rfl
@[simp] theorem Quz (bs:List Nat) (b z i j:Nat):Qd5 bs (.ptr b z i j)↔b ∉ bs:=Iff.rfl
@[simp] theorem Qwk (bs:List Nat):Qd5 bs .any↔True:=Iff.rfl
section
variable {P:Program} {Q:Exit→St→Prop} {s:St}
theorem AW.rdT {id:Nat} {ops:Array Oper} (l:List (Nat × Nat)) (rp wo bs:List Nat) (plan:List Nat) (hm:P.follows .mixedOrders=true) (hp1:∀p∈l,Ql0 p.2 (s.r p.1)) (hp2:(l.map (·.2)).Nodup)
  (hrp:∀r∈rp,Qmm (s.r r)) (hwo:∀r∈wo,Qd5 bs (s.r r)) (hb:∀b∈bs,s.m b≠none)
  (h:Cm P ⟨fun _=>false,fun c=>c∈bs,true⟩ ops plan (Q .normal) s)
  (hok:B1 s.n ops=true:=by kernel_rfl) (hp:Ii P (fun _=>false) ⟨J0 (l.map (·.1)),J0 rp,J0 wo⟩ ops plan=true:=by kernel_rfl):AW P (.region id ops true) Q s:=by
 refine AW.rdS l rp wo bs plan hm (fun p hp b z i j he=>?_) hp2 (fun r hr b z i j he=>?_) (fun r hr b z i j he=>?_) hb h hok hp
 ·have:=hp1 p hp;rw[he]at this;exact this
 ·have:=hrp r hr;rw[he]at this;exact this
 ·have:=hwo r hr;rw[he]at this;exact this
end
end Go.Av
namespace Go.Av
theorem Am (m:Ac) (c:Nat) (x:Fb) (b:Nat):(m.set c x) b=none↔(b≠c∧c≠b)∧m b=none:=by
 simp only[A9];by_cases h:b=c
 ·simp[h]
 ·rw[if_neg h];simp[h,Ne.symm h]
end Go.Av
end
section
namespace Go.Av
section
variable {P:Program} {cf:Dy} {ops:Array Oper}
def Qdo (ro:Nat→Bool) (o:Oper):Bool:=match o.op,o.dst with
 |.buildSlice _ _ _,some d=>ro d
 |_,_=>false
theorem Qlj {o:Oper} (h:Qdo cf.ro o=true) (s:St):∃(C:Prop) (v:AV),∀(m:Ac) (k:AV→Ac→Prop),Fc P cf o {s with m:=m} k↔C∧k v m:=by
 unfold Qdo at h;split at h
 ·rename_i t len parts d ho hd
  have hev:∀(m:Ac) (x:Operand),({s with m:=m}:St).ev x=s.ev x:=fun m x=>by cases x<;>rfl
  by_cases hc:∃ti e te,Ai P t=some ti∧ti.cls=.slice e∧Ai P e=some te∧0<te.size∧len*te.size≤16777216 ∧
   parts.toList.map (·.1)=List.range len∧((parts.toList.map fun(p:Nat × Operand)=>s.ev p.2).all fun v=>v.cells.length==te.size&&v.cells.all AV.one)=true
  ·obtain⟨ti,e,te,c1,c2,c3,c4,c5,c6,c7⟩:=hc;refine⟨True,.sl te.size (parts.toList.map fun(p:Nat × Operand)=>s.ev p.2),fun m k=>?_⟩;unfold Fc;simp only[ho,hd,h,if_true,hev,true_and];constructor
   ·rintro⟨ti',e',te',d1,d2,d3,d4,d5,d6,d7,d8⟩;rw[c1]at d1;cases d1;rw[c2]at d2;cases d2;rw[c3]at d3;cases d3;exact d8
   ·intro hk;exact⟨ti,e,te,c1,c2,c3,c4,c5,c6,c7,hk⟩
  ·refine⟨False,.any,fun m k=>⟨fun hk=>?_,fun hk=>hk.1.elim⟩⟩;unfold Fc at hk;simp only[ho,hd,h,if_true,hev]at hk;obtain⟨ti,e,te,d1,d2,d3,d4,d5,d6,d7,d8⟩:=hk;exact absurd ⟨ti,e,te,d1,d2,d3,d4,d5,d6,d7⟩ hc
 ·cases h
theorem Qj0 {o:Oper} (h:Qdo cf.ro o=true) (s:St):∃(C:Prop) (v:AV),∀(m:Ac) (k:AV→Ac→Prop),Db P cf ops o {s with m:=m} k↔C∧k v m:=by
 rcases Ji (P:=P) (cf:=cf) (ops:=ops) o s with c|c|c
 ·obtain⟨C,v,e⟩:=Qlj (P:=P) h s;exact⟨C,v,fun m k=>(c m k).trans (e m k)⟩
 ·exact⟨True,.tup [],fun m k=>by rw[c];simp⟩
 ·exact⟨False,.any,fun m k=>⟨fun hk=>(c m k hk).elim,fun hk=>hk.1.elim⟩⟩
theorem Qjz {o1 o2:Oper} (h1:Qdo cf.ro o1=true) (s:St) (m0:Ac) (k:AV→AV→Ac→Prop)
  (h:Db P cf ops o1 {s with m:=m0} fun v1 m1=>Db P cf ops o2 {s with m:=m1} fun v2 m2=>k v1 v2 m2) :
  Db P cf ops o2 {s with m:=m0} fun v2 m2=>Db P cf ops o1 {s with m:=m2} fun v1 m1=>k v1 v2 m1:=by
 obtain⟨C,v,e⟩:=Qj0 (P:=P) (ops:=ops) h1 s;rw[e]at h;exact Bt (fun v2 m2 hk=>(e m2 _).2 ⟨h.1,hk⟩) h.2
def Pp (P:Program) (ro:Nat→Bool) (q:Iu) (ops:Array Oper) (j i:Nat):Bool :=
 match ops[j]?,ops[i]? with
 |some oj,some oi=>oj.apart ops oi&&((Br oj).comm (Br oi)&&(Br oj != .z || zOk P ro oj)&&(Br oi != .z || zOk P ro oi) || Wr q oj oi || Qdo ro oj)
 |_,_=>false
theorem Qmf (hdm:cf.dm=true) {q:Iu} {blk:Nat→Nat} (hdst:∀(i:Nat) (o:Oper),ops[i]?=some o→K8 q o=true) {i:Nat} {K:St→Prop}:∀(R1 R2:List Nat) (s:St),Kq q blk cf.av s→(∀j∈R1,Pp P cf.ro q ops j i=true)→Cm P cf ops (R1++i::R2) K s→Cm P cf ops (i::(R1++R2)) K s
 |[],R2,s,_,_,h=>h
 |j::R1,R2,s,hsep,hp,h=>by
  have hj:=hp j (by simp);unfold Pp at hj;simp only[List.cons_append]at h ⊢;unfold Cm at h;split at h
  ·rename_i oj hoj
   simp only[hoj]at hj;cases hoi:ops[i]? with
   |none=>simp[hoi]at hj
   |some oi =>
    simp only[hoi,Bool.and_eq_true,Bool.or_eq_true,bne_iff_ne]at hj;obtain⟨p1,p2⟩:=hj;have h2:Cr P cf ops oj (Cr P cf ops oi (Cm P cf ops (R1++R2) K)) s:=by
     refine Bt (fun v m hk=>?_) (hsep.step (hdst j oj hoj) h);have:=Qmf hdm hdst R1 R2 _ hk.1 (fun j' hj'=>hp j' (by simp[hj'])) hk.2;unfold Cm at this;simpa only[hoi]using this
    have h3:Cr P cf ops oi (Cr P cf ops oj (Cm P cf ops (R1++R2) K)) s:=by
     rcases p2 with(⟨⟨p2,p3⟩,p4⟩|p2)|p2
     ·exact Yh hdm p1 p2 (fun e=>p3.resolve_left (fun h=>h e)) (fun e=>p4.resolve_left (fun h=>h e)) h2
     ·exact Mp p1 (fun k hk=>Qde hdm p2 hsep s.m k hk) h2
     ·exact Mp p1 (fun k hk=>Qjz p2 s s.m k hk) h2
    unfold Cm;simp only[hoi];refine Bt (fun v m hk=>?_) h3;unfold Cm;simpa only[hoj]using hk
  ·exact h.elim
def Nk (P:Program) (ro:Nat→Bool) (q:Iu) (ops:Array Oper) (plan:List Nat):Bool :=
 ops.toList.all (K8 q)&&(
 (List.range ops.size).all (fun i=>plan.contains i)&&plan.all (fun i=>Nat.blt i ops.size)&&decide (plan.Nodup∧plan.length≤ops.size) &&
 (plan.zipIdx.all fun(i,k)=>(plan.take k).all fun j=>!I4 ops ops.size j i&&(I4 ops ops.size i j || Pp P ro q ops j i)) &&
 ops.toList.zipIdx.all fun(o,i)=>o.after.toList.all fun e=>!Region.binds .any e || (Nat.blt e.on ops.size&&e.on != i))
theorem Qas (hdm:cf.dm=true) {q:Iu} {blk:Nat→Nat} {plan:List Nat} (hp:Nk P cf.ro q ops plan=true) {K:St→Prop}:∀(fuel:Nat) (listed:Array Bool) (s:St),Kq q blk cf.av s→listed.size=ops.size→Nn ops listed →
  (plan.filter fun i=>!listed.getD i true).length≤fuel→Cm P cf ops (plan.filter fun i=>!listed.getD i true) K s→N6 P cf ops K fuel listed s:=by
 unfold Nk at hp;simp only[Bool.and_eq_true]at hp;obtain⟨p0,⟨⟨⟨p1,p2⟩,p3⟩,p4⟩,p5⟩:=hp;have hdst:∀(i:Nat) (o:Oper),ops[i]?=some o→K8 q o=true:=fun i o ho=>List.all_eq_true.1 p0 o (List.mem_of_getElem? (by rw[Array.getElem?_toList];exact ho));have hnd:plan.Nodup:=(of_decide_eq_true p3).1;have hall:∀i,i<ops.size→i∈plan:=fun i hi=>by
  have:=List.all_eq_true.1 p1 i (List.mem_range.2 hi);simpa using this
 have hlt:∀i∈plan,i<ops.size:=fun i hi=>by
  have:=List.all_eq_true.1 p2 i hi;simpa[Nat.blt_eq]using this
 have hpair:∀R1 R2 i,plan=R1++i::R2→∀j∈R1,I4 ops ops.size j i=false∧(I4 ops ops.size i j=true∨Pp P cf.ro q ops j i=true):=by
  intro R1 R2 i hpl j hj;have h1:=List.all_eq_true.1 p4 (i,R1.length) (by
   rw[List.mem_iff_getElem?];refine⟨R1.length,?_⟩;rw[List.getElem?_zipIdx,hpl];simp)
  have h2:=List.all_eq_true.1 h1 j (by simp[hpl,hj]);simpa using h2
 have hedge:∀i o,ops[i]?=some o→∀e∈o.after.toList,Region.binds .any e=true→e.on<ops.size∧e.on≠i:=by
  intro i o ho e he hb;have h1:=List.all_eq_true.1 p5 (o,i) (by
   rw[List.mem_iff_getElem?];refine⟨i,?_⟩;rw[List.getElem?_zipIdx,Array.getElem?_toList,ho];simp)
  have h2:=List.all_eq_true.1 h1 e he;simpa[hb,Nat.blt_eq]using h2
 -- with nothing ready all has been done
 have hdone:∀(listed:Array Bool),listed.size=ops.size→Region.ready .any ops listed=[]→(plan.filter fun i=>!listed.getD i true)=[]:=by
  intro listed hsz hr;cases hf:plan.filter fun i=>!listed.getD i true with
  |nil=>rfl
  |cons h rest =>
   exfalso
   have hmem:h∈plan.filter fun i=>!listed.getD i true:=by rw[hf];simp
   have hh:=List.mem_filter.1 hmem;have hready:h∈Region.ready .any ops listed:=by
    rw[Ei];refine⟨hlt h hh.1,by simpa using hh.2,fun o ho e he hb=>?_⟩;obtain⟨e1,e2⟩:=hedge h o ho e he hb
    -- what is needed stands ahead in the plan
    cases hl:listed.getD e.on false with
    |true=>rfl
    |false =>
     exfalso
     have hl':listed.getD e.on true=false:=by
      rw[Array.getD_eq_getD_getElem?,Array.getElem?_eq_getElem (by rw[hsz];exact e1)]at hl ⊢;exact hl
     have hin:e.on∈plan.filter fun i=>!listed.getD i true:=List.mem_filter.2 ⟨hall _ e1,by simp[hl']⟩;rw[hf]at hin;have hin2:e.on∈rest:=by
      rcases List.mem_cons.1 hin with q|q
      ·exact absurd q e2
      ·exact q
     -- h stands ahead of e.on in the plan,yet needs it
     obtain⟨A,B,hAB⟩:=List.append_of_mem hin2;have hsub:List.Sublist (h::e.on::[]) plan:=by
      have s1:List.Sublist (h::e.on::[]) (h::rest):=by
       rw[hAB];exact List.Sublist.cons_cons h ((List.Sublist.cons_cons e.on (List.nil_sublist B)).trans (List.sublist_append_right A _))
      rw[←hf]at s1;exact s1.trans List.filter_sublist
     obtain⟨R1,R2,q1⟩:=List.append_of_mem (hall _ e1);have hin1:h∈R1:=by
      rw[q1]at hsub hnd;have:=hnd;rw[List.nodup_append]at this;obtain⟨n1,n2,n3⟩:=this;rcases List.sublist_append_iff.1 hsub with⟨l1,l2,hl12,s1,s2⟩
      cases l1 with
      |cons x xs =>
       have:x=h:=by simp at hl12;exact hl12.1.symm
       subst this;exact s1.subset (by simp)
      |nil =>
       simp at hl12;subst hl12;have hn2:=List.nodup_cons.1 n2;rcases List.sublist_cons_iff.1 s2 with s3 | ⟨r,hr',s3⟩
       ·exact absurd (s3.subset (by simp)) hn2.1
       ·simp at hr';obtain⟨hh1,hh2⟩:=hr';exact absurd hh1.symm (by intro q;exact e2 q)
     have:=(hpair R1 R2 e.on q1 h hin1).1;have hreach:I4 ops ops.size h e.on=true:=by
      have hpos:0<ops.size:=by omega
      obtain⟨f,hf'⟩:∃f,ops.size=f+1:=⟨ops.size-1,by omega⟩;rw[hf'];unfold I4;rw[ho];simp only[Bool.or_eq_true,List.any_eq_true];exact .inl ⟨e,he,by simp[hb]⟩
     rw[hreach]at this;cases this
   rw[hr]at hready;cases hready
 intro fuel
 induction fuel with
 |zero =>
  intro listed s hsep hsz hc hle hk;have hnil:(plan.filter fun i=>!listed.getD i true)=[]:=List.eq_nil_of_length_eq_zero (by omega);refine⟨?_,by rw[hnil]at hk;exact hk⟩;cases hr:Region.ready .any ops listed with
  |nil=>rfl
  |cons i rest =>
   exfalso
   have hi:i∈Region.ready .any ops listed:=by rw[hr];simp
   rw[Ei]at hi;have:i∈plan.filter fun i=>!listed.getD i true:=List.mem_filter.2 ⟨hall i hi.1,by simp[hi.2.1]⟩;rw[hnil]at this;cases this
 |succ fuel ih =>
  intro listed s hsep hsz hc hle hk;refine⟨fun hr=>by rw[hdone listed hsz hr]at hk;exact hk,fun i hi=>?_⟩;have hi':=Ei.1 hi;have hin:i∈plan.filter fun i=>!listed.getD i true:=List.mem_filter.2 ⟨hall i hi'.1,by simp[hi'.2.1]⟩;obtain⟨R1,R2,hR⟩:=List.append_of_mem hin;have hpass:∀j∈R1,Pp P cf.ro q ops j i=true:=by
   intro j hj;have hjf:j∈plan.filter fun i=>!listed.getD i true:=by rw[hR];simp[hj]
   have hjl:=List.mem_filter.1 hjf
   -- j stands ahead of i in the plan
   have hsub:List.Sublist (j::i::[]) plan:=by
    have s1:List.Sublist (j::i::[]) (R1++i::R2):=by
     obtain⟨A,B,hAB⟩:=List.append_of_mem hj;rw[hAB,List.append_assoc];refine List.Sublist.trans ?_ (List.sublist_append_right A _);exact List.Sublist.cons_cons j ((List.Sublist.cons_cons i (List.nil_sublist R2)).trans (List.sublist_append_right B _))
    rw[←hR]at s1;exact s1.trans List.filter_sublist
   have hij:j≠i:=by
    have hndf:(plan.filter fun i=>!listed.getD i true).Nodup:=List.Nodup.sublist List.filter_sublist hnd;rw[hR,List.nodup_append]at hndf;exact fun e=>hndf.2.2 j hj i (by simp) e
   obtain⟨Q1,Q2,q1⟩:=List.append_of_mem (hall i hi'.1);have hin1:j∈Q1:=by
    have hnd':=hnd;rw[q1]at hsub hnd';rw[List.nodup_append]at hnd';obtain⟨n1,n2,n3⟩:=hnd';rcases List.sublist_append_iff.1 hsub with⟨l1,l2,hl12,s1,s2⟩
    cases l1 with
    |cons x xs =>
     have:x=j:=by simp at hl12;exact hl12.1.symm
     subst this;exact s1.subset (by simp)
    |nil =>
     simp at hl12;subst hl12;have hn2:=List.nodup_cons.1 n2;rcases List.sublist_cons_iff.1 s2 with s3 | ⟨r,hr',s3⟩
     ·exact absurd (s3.subset (by simp)) hn2.1
     ·simp at hr';exact absurd hr'.1 hij
   rcases(hpair Q1 Q2 i q1 j hin1).2 with hreach|hp
   ·have:=Lf hsz hc ops.size i j hi'.2.2 hreach;have hjs:j<listed.size:=by rw[hsz];exact hlt j hjl.1
    rw[Array.getD_eq_getD_getElem?,Array.getElem?_eq_getElem hjs]at this;have h2:=hjl.2;rw[Array.getD_eq_getD_getElem?,Array.getElem?_eq_getElem hjs]at h2;simp at this h2;rw[this]at h2;cases h2
   ·exact hp
  rw[hR]at hk;have hfront:=Qmf hdm hdst R1 R2 s hsep hpass hk;unfold Cm at hfront;cases hoi:ops[i]? with
  |none=>simp[hoi]at hfront
  |some o =>
   simp only[hoi]at hfront ⊢;refine Bt (fun v m hk3=>?_) (hsep.step (hdst i o hoi) hfront);have hk2:=hk3.2;have hil:i<listed.size:=by rw[hsz];exact hi'.1
   have hfil:(plan.filter fun j=>!(listed.setIfInBounds i true).getD j true)=R1++R2:=by
    have e1:(plan.filter fun j=>!(listed.setIfInBounds i true).getD j true)=(plan.filter fun j=>!listed.getD j true).filter fun j=>j != i:=by
     rw[List.filter_filter];refine List.filter_congr fun j _=>?_;rw[F8 hil];by_cases h:j=i<;>simp[h]
    have hndf:(plan.filter fun i=>!listed.getD i true).Nodup:=List.Nodup.sublist List.filter_sublist hnd;rw[e1,hR];rw[hR,List.nodup_append]at hndf;obtain⟨n1,n2,n3⟩:=hndf;rw[List.filter_append,List.filter_cons];have f1:R1.filter (fun j=>j != i)=R1:=List.filter_eq_self.2 fun j hj=>by
     have:=n3 j hj i (by simp);simpa using this
    have f2:R2.filter (fun j=>j != i)=R2:=List.filter_eq_self.2 fun j hj=>by
     have:=(List.nodup_cons.1 n2).1;have hne:j≠i:=fun e=>this (e ▸ hj);simpa using hne
    rw[f1,f2];simp
   refine ih _ _ hk3.1 (by simpa using hsz) (fun i' o' ho' hl' e he hb=>?_) (by rw[hfil];rw[hR]at hle;simp at hle ⊢;omega) (by rw[hfil];exact hk2);rw[F8 hil]at hl' ⊢;by_cases h1:e.on=i
   ·rw[if_pos h1]
   ·rw[if_neg h1];by_cases h2:i'=i
    ·subst h2;rw[hoi]at ho';cases ho';exact hi'.2.2 o hoi e he hb
    ·rw[if_neg h2]at hl';exact hc i' o' ho' hl' e he hb
theorem AW.drawV {Q:Exit→St→Prop} {s:St} {id:Nat} {ops:Array Oper} (ro:Nat→Bool) (q:Iu) (blk:Nat→Nat) (av:Nat→Prop) (hsep:Kq q blk av s) (plan:List Nat) (hm:P.follows .mixedOrders=true) (hok:B1 s.n ops=true) (hp:Nk P ro q ops plan=true)
  (hav:∀b,av b→s.m b≠none) (h:Cm P ⟨ro,av,true⟩ ops plan (Q .normal) s):AW P (.region id ops true) Q s:=by
 intro F G w0 a w hr;refine wp_region_any hm ?_;have hok':∀i o,ops[i]?=some o→(Fg s.n o&&Hq ops s.n o)=true:=fun i o ho=>by
  unfold B1 at hok;exact List.all_eq_true.1 hok o (List.mem_of_getElem? (by rw[Array.getElem?_toList];exact ho))
 have hfil:(plan.filter fun i=>!(Array.replicate ops.size false).getD i true)=plan:=by
  refine List.filter_eq_self.2 fun i hi=>?_;have hlt:i<ops.size:=by
   unfold Nk at hp;simp only[Bool.and_eq_true]at hp;have:=List.all_eq_true.1 hp.2.1.1.1.2 i hi;simpa[Nat.blt_eq]using this
  simp[hlt]
 have hlen:plan.length≤ops.size:=by
  unfold Nk at hp;simp only[Bool.and_eq_true]at hp;exact(of_decide_eq_true hp.2.1.1.2).2
 have hany:N6 P ⟨ro,av,true⟩ ops (Q .normal) ops.size (Array.replicate ops.size false) s:=by
  have hcl:Nn ops (Array.replicate ops.size false):=fun i o ho hl e he hb=>by
   have hi:i<ops.size:=(Array.getElem?_eq_some_iff.1 ho).1;rw[Array.getD_eq_getD_getElem?,Array.getElem?_replicate,if_pos hi]at hl;cases hl
  refine Qas (cf:=⟨ro,av,true⟩) rfl hp ops.size _ s hsep Array.size_replicate hcl ?_ ?_
  ·rw[hfil];exact hlen
  ·rw[hfil];exact h
 have hav':∀b,av b→b<w.heap.size:=fun b hb=>hr.lt (hav b hb);have hd:Ee F G w0 s a {w with drawn:=w.drawn+1}:=hr.drew;exact Ls (F:=F) (G:=G) (w0:=w0) (cf:=⟨ro,av,true⟩) s.n w.heap.size hav' (fun a w h=>h) hok' ops.size _ s a {w with drawn:=w.drawn+1} (Nat.le_refl _) rfl hd hany
theorem AW.rdV {Q:Exit→St→Prop} {s:St} {id:Nat} {ops:Array Oper} (ro:List Nat) (plan:List Nat) (hm:P.follows .mixedOrders=true) (h:Cm P ⟨roL ro,fun _=>False,true⟩ ops plan (Q .normal) s)
  (hok:B1 s.n ops=true:=by kernel_rfl) (hp:Nk P (roL ro) Iu.no ops plan=true:=by kernel_rfl):AW P (.region id ops true) Q s :=
 AW.drawV (roL ro) Iu.no (fun r=>r) (fun _=>False) ⟨fun _ h=>(by cases h),fun _ _ h=>(by cases h),fun _ h=>(by cases h),fun _ h=>(by cases h)⟩ plan hm hok hp (fun _ h=>h.elim) h
end
end Go.Av
end
section
namespace Go.Av
section
variable {P:Program}
def Qto (o:Oper):Bool:=match o.op with
 |.call c=>match c.callee,c.args.toList with
  |.builtin .min,[_,_,_]=>true
  |_,_=>false
 |_=>false
def Q0j (a b d:Int):Int:=if d<(if b<a then b else a) then d else (if b<a then b else a)
def Q2c (o:Oper) (s:St):Option AV:=match o.op with
 |.call c=>match c.callee,c.args.toList with
  |.builtin .min,[x,y,z]=>match s.ev x,s.ev y,s.ev z with
   |.int k a,.int _ b,.int _ d=>some (.int k (Q0j a b d))
   |_,_,_=>none
  |_,_=>none
 |_=>none
def Q1y (P:Program) (cf:Dy) (o:Oper) (K:St→Prop) (s:St):Prop:=if Qto o=true then ∃v,Q2c o s=some v∧K ({s with m:=s.m}.put o.dst v) else E0 P cf o K s
def Qgx (P:Program) (cf:Dy):List Oper→(St→Prop)→St→Prop
 |[],K,s=>K s
 |o::rest,K,s=>o.guard=none∧Q1y P cf o (Qgx P cf rest K) s
@[simp] theorem Qzb (cf:Dy) (K:St→Prop) (s:St):Qgx P cf [] K s=K s:=(rfl)
@[simp] theorem Qwl (cf:Dy) (d:Option Tmp) (op:Op) (t:TypeId) (p:String) (a:Array Edge) (l:List Oper) (K:St→Prop) (s:St) :
  Qgx P cf ({dst:=d,op:=op,type:=t,pos:=p,after:=a,guard:=none}::l) K s↔Q1y P cf {dst:=d,op:=op,type:=t,pos:=p,after:=a,guard:=none} (Qgx P cf l K) s:=by
 show(_∧_)↔_
 simp
end
end Go.Av
end
section
namespace Go.Av
section
variable {P:Program}
def isY (o:Oper):Bool:=match o.op with
 |.slice _ _ (some _) (some _) none=>true
 |.call c=>match c.callee with | .builtin .clear=>true | _=>false
 |_=>false
def Qqs (P:Program) (o:Oper) (s:St) (k:AV→Ac→Prop):Prop:=match o.op with
 |.slice t x (some lo) (some hi) none=>∃ti e te b i n blk k1 k2,∃l h:Nat,Ai P t=some ti∧ti.cls=.slice e∧Ai P e=some te∧s.ev x=.osl b te.size i n∧s.m b=some blk∧blk.z=te.size ∧
   s.ev lo=.int k1 l∧s.ev hi=.int k2 h∧l<h∧i+h≤blk.l.length∧k (.osl b te.size (i+l) (h-l)) s.m
 |.call c=>match c.callee with
  |.builtin .clear=>∃x t ti e te b i n l,c.args.toList=[x]∧c.argTypes.toList=[t]∧Ai P t=some ti∧ti.cls=.slice e∧Ai P e=some te∧te.size=1∧te.zero.one=true ∧
    s.ev x=.osl b 1 i n∧s.m b=some ⟨e,1,l⟩∧0<n∧i+n≤l.length∧k .any (s.m.set b ⟨e,1,l.take i++List.replicate n te.zero++l.drop (i+n)⟩)
  |_=>False
 |_=>False
theorem Xe (z:Value) (hz:z.cells=#[z]) (n:Nat):(Builtin.zeroCells z.cells n).toList=List.replicate n z:=by
 rw[hz];refine List.ext_getElem? fun k=>?_;rw[Array.getElem?_toList,List.getElem?_replicate];simp only[Builtin.zeroCells,List.size_toArray,List.length_cons,List.length_nil,Nat.mul_one,Nat.zero_add,Array.getElem?_map];by_cases h:k<n
 ·rw[if_pos h,Array.getElem?_range,if_pos h];simp[Nat.mod_one]
 ·rw[if_neg h,Array.getElem?_range,if_neg h];rfl
theorem Qfe {F G:Nat→Prop} {w0 w:World} {s:St} {a:Act} (hrel:Ee F G w0 s a w) {o:Oper} (hok:Fg s.n o=true) {K:St→Prop} (h:Qqs P o s fun v m'=>K ({s with m:=m'}.put o.dst v)) (Q:Exit→Act→World→Prop):o.wp P a w (En F G w0 s.n K) Q:=by
 have hd:L5 s.n o.dst=true:=by unfold Fg at hok;rw[Bool.and_eq_true]at hok;exact hok.1
 have hall:∀x∈o.op.operands.toList,G6 s.n x=true:=by unfold Fg at hok;rw[Bool.and_eq_true]at hok;exact List.all_eq_true.1 hok.2
 unfold Qqs at h;split at h
 ·rename_i t x lo hi ho
  rw[ho]at hall;obtain⟨ti,e,te,b,i,n,blk,k1,k2,l,hh,ht,hc,hte,hx,hb,hbz,hlo,hhi,hlh,hin,hk⟩:=h;obtain⟨inf,d,z,hinf,hdd,hz,g1,g2,g3,g4,g5⟩:=(Eu ht).get;obtain⟨ie,de,ze,hie,hde,hze,q1,q2,q3,q4,q5⟩:=(Eu hte).get;rw[←g3]at hc;cases d<;>simp only[Ds,reduceCtorEq,Mc.slice.injEq]at hc
  subst hc;have hxv:=hrel.ev (hall x (by simp[Op.operands]));have hlv:=hrel.ev (hall lo (by simp[Op.operands]));have hhv:=hrel.ev (hall hi (by simp[Op.operands]));rw[hx]at hxv;rw[hlo]at hlv;rw[hhi]at hhv;obtain⟨cx,e1⟩:∃c,a.eval x=c:=⟨_,rfl⟩;obtain⟨cl,e2⟩:∃c,a.eval lo=c:=⟨_,rfl⟩;obtain⟨ch,e3⟩:∃c,a.eval hi=c:=⟨_,rfl⟩;rw[e1]at hxv;rw[e2]at hlv;rw[e3]at hhv;obtain⟨z0,zs,ones,cells,cap,h1,h2,h3,h4,h5⟩:=hrel.heap b blk hb;cases hlv;cases hhv;cases hxv with
  |osl _ _ _ _ c hcn hm =>
   obtain⟨cells',e',m1,m2⟩:=hm;rw[h1]at m1;cases m1;have hcap:i+c=cap:=Nat.eq_of_mul_eq_mul_right (m:=te.size) (by rw[←hbz];exact z0) (by rw[m2,h2,hbz]);have hlc:(l:Int)≤((hh:Nat):Int):=by omega
   have b1:=run_sliceBound (P:=P) w k2 (hh:Int) c BoundsCode.sliceAcap (by omega) (by omega);have b2:=run_sliceBound (P:=P) w k1 (l:Int) ((hh:Int).toNat) BoundsCode.sliceB (by omega) (by omega);refine Dr (cv:=.slice (some ⟨b,(i+l)*te.size,none⟩) (hh-l) (c-l)) ?_ ⟨_,hk,H5 _ _ _,hrel.put hd (.osl _ _ _ _ _ (by omega) ⟨_,_,h1,by rw[←m2];congr 1;omega⟩)⟩;unfold execOp;rw[ho];have hne:¬c=l:=by omega
   simp only[Int.toNat_natCast]at b1 b2;simp[e1,e2,e3,Instr.sliceAt,Instr.slice,run_underlying hdd,Instr.sliceBounds,b1,b2,Fz hie,q1,hne,El,Nat.add_mul]
 ·rename_i c ho
  rw[ho]at hall;split at h
  ·rename_i hcal
   obtain⟨x,t,ti,e,te,b,i,n,l,hxs,hts,ht,hc,hte,hz1,hone,hx,hb,hn0,hin,hk⟩:=h;obtain⟨callee,args,argTypes⟩:=c;simp only at hcal hxs hts;subst hcal;have ha:args=#[x]:=Array.toList_inj.1 hxs;have hat:argTypes=#[t]:=Array.toList_inj.1 hts;subst ha;subst hat;obtain⟨inf,d,z,hinf,hdd,hz,g1,g2,g3,g4,g5⟩:=(Eu ht).get;obtain⟨ie,de,ze,hie,hde,hze,q1,q2,q3,q4,q5⟩:=(Eu hte).get;rw[←g3]at hc;cases d<;>simp only[Ds,reduceCtorEq,Mc.slice.injEq]at hc
   subst hc
   rename_i e
   have hxv:=hrel.ev (hall x (by simp[Op.operands,Call.operands]));rw[hx]at hxv;obtain⟨cx,e1⟩:∃c,a.eval x=c:=⟨_,rfl⟩;rw[e1]at hxv;obtain⟨z0,zs,ones,cells,cap,h1,h2,h3,h4,h5⟩:=hrel.heap b _ hb;simp only[Nat.mul_one]at z0 zs ones h1 h2 h4 h5;have hzv:VR w (C2 F s.m) te.zero ze:=by rw[←q4];exact Ig w _ ze
   have hzo:=hzv.oneCell hone;have hzc:ze.cells=#[ze]:=by cases ze<;>first | rfl | (simp[Value.oneCell']at hzo)
   cases hxv with
   |osl _ _ _ _ cc hcn hm =>
    have hlen:(List.replicate n ze).length=n:=List.length_replicate;have hfit:i*1+(List.replicate n ze).length≤cells.size:=by rw[hlen];omega
    have hst:=run_storeCells_at P b (i*1) e (List.replicate n ze) 0 cells w h1 (by simpa using hfit) (fun v hv=>by rw[(List.mem_replicate.1 hv).2];exact hzo);simp only[Nat.add_zero]at hst;have hsz:=Kh cells (List.replicate n ze) (i*1) hfit;refine Dr (cv:=.tuple #[]) (w':=w.setRow b (cells.toList.take (i*1)++List.replicate n ze++cells.toList.drop (i*1+(List.replicate n ze).length)).toArray) ?_ ⟨_,hk,by rw[H5],(hrel.setRow hb (⟨e,1,l.take i++List.replicate n te.zero++l.drop (i+n)⟩:Fb) rfl rfl h1 _ hsz ?_ (fun v hv=>?_) (fun i' j u hu=>?_) (fun i' j u hu=>?_)).put hd (.any _)⟩
    ·unfold execOp;rw[ho];have hn:n≠0:=by omega
     obtain⟨n',rfl⟩:∃n',n=n'+1:=⟨n-1,by omega⟩;have hzv':(zeroValue e).run P w=.ok ze w:=by simp[zeroValue,typeInfo,hie,hze]
     have hzl:=Xe ze hzc (n'+1);simp only[Nat.mul_one,List.length_replicate,List.append_assoc]at hst;simp[resolve,invoke,builtin,e1,Builtin.clear_,run_underlying hdd,hzv',hzl];rw[hst];simp
    ·simp;omega
    ·rcases List.mem_append.1 hv with hv|hv
     ·rcases List.mem_append.1 hv with hv|hv
      ·exact zs v (List.mem_of_mem_take hv)
      ·rw[(List.mem_replicate.1 hv).2];cases hz0:te.zero<;>rw[hz0]at hone<;>first | rfl | cases hone
     ·exact zs v (List.mem_of_mem_drop hv)
    ·have hget:∀k,(l.take i++List.replicate n te.zero++l.drop (i+n))[k]?=if i≤k∧k<i+n then some te.zero else l[k]?:=by
      intro k;by_cases p1:k<i
      ·rw[if_neg (by omega),List.append_assoc,List.getElem?_append_left (by simp;omega),List.getElem?_take,if_pos p1]
      ·by_cases p2:k<i+n
       ·rw[if_pos (by omega),List.append_assoc,List.getElem?_append_right (by simp;omega),List.getElem?_append_left (by simp;omega),List.getElem?_replicate,if_pos (by simp;omega)]
       ·rw[if_neg (by omega),List.getElem?_append_right (by simp;omega),List.getElem?_drop];congr 1;simp;omega
     unfold A4 at hu;rw[hget]at hu;split at hu
     ·have:te.zero.cells=[te.zero]:=by cases hz0:te.zero<;>rw[hz0]at hone<;>first | rfl | cases hone
      simp only[Option.bind_some,this]at hu;rcases j with _ | j
      ·simp at hu;rw[←hu];exact hone
      ·simp at hu
     ·exact ones i' j u hu
    ·have hget:∀k,(l.take i++List.replicate n te.zero++l.drop (i+n))[k]?=if i≤k∧k<i+n then some te.zero else l[k]?:=by
      intro k;by_cases p1:k<i
      ·rw[if_neg (by omega),List.append_assoc,List.getElem?_append_left (by simp;omega),List.getElem?_take,if_pos p1]
      ·by_cases p2:k<i+n
       ·rw[if_pos (by omega),List.append_assoc,List.getElem?_append_right (by simp;omega),List.getElem?_append_left (by simp;omega),List.getElem?_replicate,if_pos (by simp;omega)]
       ·rw[if_neg (by omega),List.getElem?_append_right (by simp;omega),List.getElem?_drop];congr 1;simp;omega
     have hseg:=K7 cells (List.replicate n ze) (i*1) (i'*1+j) hfit;simp only[hlen,Nat.mul_one]at hseg ⊢;have htz:te.zero.cells=[te.zero]:=by cases hz0:te.zero<;>rw[hz0]at hone<;>first | rfl | cases hone
     unfold A4 at hu;rw[hget]at hu;split at hu
     ·rename_i hb'
      simp only[Option.bind_some,htz]at hu;rcases j with _ | j
      ·simp at hu;refine⟨ze,?_,by rw[←hu];exact hzv⟩;rw[hseg,if_pos (by omega),List.getElem?_replicate,if_pos (by omega)]
      ·simp at hu
     ·rename_i hb'
      have hj0:j=0:=by
       obtain⟨v,hv1,hv2⟩:=Option.bind_eq_some_iff.1 hu;have:=zs v (List.mem_of_getElem? hv1);have:=(List.getElem?_eq_some_iff.1 hv2).1;omega
      subst hj0;obtain⟨v,p1,p2⟩:=h5 i' 0 u hu;refine⟨v,?_,p2⟩;rw[hseg,if_neg (by omega)];exact p1
  ·exact h.elim
 ·exact h.elim
def Qig (P:Program) (cf:Dy) (o:Oper) (K:St→Prop) (s:St):Prop:=if isY o=true then Qqs P o s fun v m'=>K ({s with m:=m'}.put o.dst v) else E0 P cf o K s
def N8 (P:Program) (cf:Dy):List Oper→(St→Prop)→St→Prop
 |[],K,s=>K s
 |o::rest,K,s=>o.guard=none∧Qig P cf o (N8 P cf rest K) s
theorem Qew {F G:Nat→Prop} {w0 w:World} {s:St} {a:Act} (hrel:Ee F G w0 s a w) {cf:Dy} (hav:∀b,cf.av b→b<w.heap.size) {o:Oper} (hok:Fg s.n o=true) {K:St→Prop} (h:Qig P cf o K s) (Q:Exit→Act→World→Prop):o.wp P a w (En F G w0 s.n K) Q:=by
 unfold Qig at h;split at h
 ·exact Qfe hrel hok h Q
 ·exact Kp hrel hav hok h Q
theorem S6 {F G:Nat→Prop} {w0:World} {cf:Dy} (hcf:∀b,¬cf.av b) {ops:Array Oper} {K:St→Prop} {QQ:Exit→Act→World→Prop} (n:Nat) (hQ:∀a w,En F G w0 n K a w→QQ .normal a w) :
  ∀(l:List Oper) (s:St) (a:Act) (w:World),s.n=n→(∀o∈l,(Fg n o&&Hq ops n o)=true)→Ee F G w0 s a w→N8 P cf l K s→wpList P ops QQ l a w
 |[],s,a,w,hn,_,hr,hk=>hQ a w ⟨s,hk,hn,hr⟩
 |o::rest,s,a,w,hn,hok,hr,hk=>by
  have ho:=hok o (by simp);rw[Bool.and_eq_true]at ho;have hrest:∀o∈rest,(Fg n o&&Hq ops n o)=true:=fun x hx=>hok x (by simp[hx]);have hmono:∀{s:St} {a:Act} {w:World},s.n=n→En F G w0 s.n (N8 P cf rest K) a w→wpList P ops QQ rest a w:=by
   rintro s a w hn ⟨s',h1,h2,h3⟩;exact S6 hcf n hQ rest s' a w (h2.trans hn) hrest h3 h1
  have hop:Ee F G w0 s a w→Qig P cf o (N8 P cf rest K) s→o.wp P a w (wpList P ops QQ rest) QQ:=by
   intro hr hk;have:=Qew hr (fun b hb=>(hcf b hb).elim) (by rw[hn];exact ho.1) hk QQ;unfold Oper.wp at this ⊢
   revert this
   generalize(execOp a.eval o).run P w=res;intro this;have hm:∀a w,En F G w0 s.n (N8 P cf rest K) a w→wpList P ops QQ rest a w:=fun a w h=>hmono hn h;unfold Oper.upon at this ⊢;split at this<;>first
    |exact hm _ _ this
    |(refine Calls.mono this ?_;intro e w' h;cases e<;>first | exact hm _ _ h | exact h)
    |(refine Rows.mono this ?_;intro e w' h;exact hm _ _ h)
    |exact this
    |exact this.elim
  unfold wpList;unfold N8 at hk;rw[if_pos (by simp[Region.wanted,hk.1])];exact .inl (hop hr hk.2)
theorem AW.rgY {Q:Exit→St→Prop} {s:St} {id:Nat} {ops:Array Oper} (h:N8 P (Dy.txt fun _=>false) ops.toList (Q .normal) s) (hok:B1 s.n ops=true:=by kernel_rfl):AW P (.region id ops false) Q s:=by
 intro F G w0 a w hr;refine wp_region_list (S6 (F:=F) (G:=G) (w0:=w0) (cf:=Dy.txt fun _=>false) (fun _ h=>h) s.n (K:=Q .normal) (fun a w h=>h) ops.toList s a w rfl (fun o ho=>?_) hr h);unfold B1 at hok;exact List.all_eq_true.1 hok o ho
@[simp] theorem Qx0 (cf:Dy) (K:St→Prop) (s:St):N8 P cf [] K s=K s:=(rfl)
@[simp] theorem Qvh (cf:Dy) (d:Option Tmp) (op:Op) (t:TypeId) (p:String) (a:Array Edge) (l:List Oper) (K:St→Prop) (s:St) :
  N8 P cf ({dst:=d,op:=op,type:=t,pos:=p,after:=a,guard:=none}::l) K s↔Qig P cf {dst:=d,op:=op,type:=t,pos:=p,after:=a,guard:=none} (N8 P cf l K) s:=by
 show(_∧_)↔_
 simp
theorem AW.rdL {Q:Exit→St→Prop} {s:St} {id:Nat} {ops:Array Oper} (bl:List Nat) (plan:List Nat) (hm:P.follows .mixedOrders=true) (hb:∀c∈bl,s.m c≠none) (h:Cm P ⟨fun _=>false,fun c=>c∈bl,true⟩ ops plan (Q .normal) s)
  (hok:B1 s.n ops=true:=by kernel_rfl) (hp:Jm P (fun _=>false) ops plan=true:=by kernel_rfl):AW P (.region id ops true) Q s :=
 AW.draw (fun _=>false) (fun c=>c∈bl) plan hm hok hp hb h
theorem AW.rdLR {Q:Exit→St→Prop} {s:St} {id:Nat} {ops:Array Oper} (ro bl:List Nat) (plan:List Nat) (hm:P.follows .mixedOrders=true) (hb:∀c∈bl,s.m c≠none) (h:Cm P ⟨roL ro,fun c=>c∈bl,true⟩ ops plan (Q .normal) s)
  (hok:B1 s.n ops=true:=by kernel_rfl) (hp:Jm P (roL ro) ops plan=true:=by kernel_rfl):AW P (.region id ops true) Q s :=
 AW.draw (roL ro) (fun c=>c∈bl) plan hm hok hp hb h
theorem Ee.shrink {F G:Nat→Prop} {w0 w:World} {s:St} {a:Act} (h:Ee F G w0 s a w) {b:Nat} {e:TypeId} {z:Nat} {l:List AV} (hb:s.m b=some ⟨e,z,l⟩) (k:Nat):Ee F G w0 {s with m:=s.m.set b ⟨e,z,l.take k⟩} a w:=by
 have hO:∀c,s.m.set b ⟨e,z,l.take k⟩ c≠none→s.m c≠none:=fun c hc=>by
  by_cases hcb:c=b
  ·subst hcb;rw[hb];simp
  ·rwa [Ac.set_other _ _ hcb]at hc
 have hF:∀c,c<w.heap.size→C2 F (s.m.set b ⟨e,z,l.take k⟩) c→C2 F s.m c:=fun c _ hc=>hc.elim .inl fun x=>.inr (hO c x);refine h.world _ (Ez.refl _ w) (fun c x hx=>?_) (fun c hc=>.inl (hO c hc));by_cases hcb:c=b
 ·subst hcb;rw[Ac.set_same]at hx;cases hx;obtain⟨z0,zs,ones,cells,cap,h1,h2,h3,h4,h5⟩:=h.heap c _ hb;have hcell:∀i j u,A4 (l.take k) i j=some u→A4 l i j=some u:=fun i j u hu=>by
   unfold A4 at hu ⊢;rw[List.getElem?_take]at hu;split at hu
   ·exact hu
   ·simp at hu
  exact⟨z0,fun v hv=>zs v (List.mem_of_mem_take hv),fun i j u hu=>ones i j u (hcell i j u hu),cells,cap,h1,h2,h3,Nat.le_trans (by simp only[List.length_take];exact Nat.min_le_right _ _) h4,fun i j u hu=>by
   obtain⟨v,p1,p2⟩:=h5 i j u (hcell i j u hu);exact⟨v,p1,p2.mono (Ez.refl (fun _=>False) w) (fun _ _ x=>x.elim) hF⟩⟩
 ·rw[Ac.set_other _ _ hcb]at hx;exact(h.heap c x hx).mono (Ez.refl (fun _=>False) w) (fun x=>x) (fun _ _ x=>x.elim) hF
theorem AW.shrink {Q:Exit→St→Prop} {c:Code} {n:Nat} {L:List (Nat × AV)} {m:Ac} {b:Nat} {e:TypeId} {z:Nat} {l:List AV} (hb:m b=some ⟨e,z,l⟩) (k:Nat) (h:AW P c Q (Av.S n L (m.set b ⟨e,z,l.take k⟩))):AW P c Q (Av.S n L m):=by
 intro F G w0 a w hr;exact h F G w0 a w (hr.shrink hb k)
@[simp] theorem Qol (P:Program) (size bytes m e:Nat) (zero:AV) (fs:List (Nat × Nat × Option Bool)) (b z i j:Nat) (k:IntKind) (n:Int):Ca P ⟨size,bytes,.array m e,zero,fs⟩ (.ptr b z i j) (.int k n)=(Ai P e).bind fun te=>if 0≤n∧n<m then some (.ptr b z i (j+n.toNat*te.size)) else none:=by
 unfold Ca
 dsimp only
 cases Ai P e<;>rfl
@[simp] theorem Qk5 (P:Program) (size bytes m e:Nat) (zero:AV) (fs:List (Nat × Nat × Option Bool)) (cs:List AV) (k:IntKind) (n:Int):Ca P ⟨size,bytes,.array m e,zero,fs⟩ (.rptr cs) (.int k n)=(Ai P e).bind fun te=>if 0≤n∧n<m then some (.rptr (cs.drop (n.toNat*te.size))) else none:=by
 unfold Ca
 dsimp only
 cases Ai P e<;>rfl
section
variable {cf:Dy} {K:St→Prop} {s:St} {d:Option Tmp} {ty:TypeId} {p:String} {a:Array Edge} {g:Option (Nat × Bool)}
@[simp] theorem Qui (t:TypeId) (x m:Operand) (lo hi:Option Operand):E0 P cf ⟨d,.slice t x lo hi (some m),ty,p,a,g⟩ K s↔Ea ((Ai P t).bind fun ti=>Mq P ti (s.ev x) (lo.map s.ev) (hi.map s.ev) (s.ev m)) (F2 K s d):=Iff.rfl
end
@[simp] theorem Qw4 (P:Program) (size bytes e:Nat) (zero:AV) (fs:List (Nat × Nat × Option Bool)) (b z i n:Nat) (k k' k'':IntKind) (l h m:Int):Mq P ⟨size,bytes,.slice e,zero,fs⟩ (.osl b z i n) (some (.int k l)) (some (.int k' h)) (.int k'' m) =
  (Ai P e).bind fun _=>if 0≤m∧m≤n then (E9 m.toNat (some (.int k l)) (some (.int k' h))).map (fun(q:Nat × Nat)=>if m.toNat=q.1 then .zc else .any) else none:=(rfl)
theorem Yw (P:Program) (size bytes e:Nat) (zero:AV) (fs:List (Nat × Nat × Option Bool)) (b z i n:Nat) (lo hi:Option AV):Ih P ⟨size,bytes,.slice e,zero,fs⟩ (.osl b z i n) lo hi=(Ai P e).bind fun te=>if z=te.size then (E9 n lo hi).map fun(q:Nat × Nat)=>if q.1=0 then .osl b z i q.2 else if q.2=q.1 then .sl z [] else .osl b z (i+q.1) (q.2-q.1) else none:=by
 unfold Ih
 dsimp only
 cases Ai P e<;>rfl
end
end Go.Av
end
section
namespace Go.Av
section
variable {P:Program} {cf:Dy} {ops:Array Oper} {K:St→Prop}
def C4 (ops:Array Oper) (a b:Nat):Array Oper:=ops.modify b fun o=>{o with after:=o.after.push ⟨a,.data⟩}
theorem Im (ops:Array Oper) (a b:Nat):(C4 ops a b).size=ops.size:=by simp[C4]
theorem Em (ops:Array Oper) (a b i:Nat):(C4 ops a b)[i]?=(ops[i]?).map fun o=>if i=b then {o with after:=o.after.push ⟨a,.data⟩} else o:=by
 unfold C4;rw[Array.getElem?_modify];by_cases h:b=i
 ·subst h;simp
 ·rw[if_neg h];cases ops[i]? with
  |none=>rfl
  |some o=>simp[Ne.symm h]
theorem Qcy (ops:Array Oper) (a b j:Nat):((C4 ops a b)[j]?).bind (·.dst)=(ops[j]?).bind (·.dst):=by
 rw[Em];cases ops[j]? with
 |none=>rfl
 |some o=>simp only[Option.map_some,Option.bind_some];split<;>rfl
theorem Iq (a b:Nat) (o:Oper) (i:Nat) (K:St→Prop) (s:St):Cr P cf (C4 ops a b) (if i=b then {o with after:=o.after.push ⟨a,.data⟩} else o) K s↔Cr P cf ops o K s:=by
 have key:∀o':Oper,o'.op=o.op→o'.dst=o.dst→o'.guard=o.guard→(Cr P cf (C4 ops a b) o' K s↔Cr P cf ops o K s):=by
  intro o' h1 h2 h3;have he:∀(s:St) (k:AV→Ac→Prop),Fc P cf o' s k↔Fc P cf o s k:=by
   intro s k;unfold Fc Rq;rw[h1,h2]
  unfold Cr Db;rw[h2,h3];cases o.guard with
  |none=>exact he _ _
  |some g =>
   obtain⟨j,want⟩:=g;simp only[Qcy];cases (ops[j]?).bind (·.dst)with
   |none=>exact Iff.rfl
   |some d =>
    refine exists_congr fun t=>and_congr_right fun _=>?_;split
    ·exact he _ _
    ·exact Iff.rfl
 split
 ·exact key _ rfl rfl rfl
 ·exact key _ rfl rfl rfl
theorem O3 (a b:Nat):∀(plan:List Nat) (s:St),Cm P cf ops plan K s→Cm P cf (C4 ops a b) plan K s
 |[],_,h=>h
 |i::rest,s,h=>by
  unfold Cm at h ⊢;rw[Em];cases ho:ops[i]? with
  |none=>rw[ho]at h;exact h
  |some o =>
   rw[ho]at h;simp only[Option.map_some];rw[Iq];unfold Cr at h ⊢;exact Bt (fun v m hk=>O3 a b rest _ hk) h
theorem Hd {a b:Nat} {listed:Array Bool} {i:Nat} (h:i∈Region.ready .any ops listed) (hi:i≠b∨listed.getD a false=true):i∈Region.ready .any (C4 ops a b) listed:=by
 rw[Ei]at h ⊢;obtain⟨h1,h2,h3⟩:=h;refine⟨by rw[Im];exact h1,h2,fun o ho e he hb=>?_⟩;rw[Em]at ho;cases hx:ops[i]? with
 |none=>rw[hx]at ho;cases ho
 |some o' =>
  rw[hx]at ho;simp only[Option.map_some,Option.some.injEq]at ho;subst ho;split at he
  ·rename_i hib
   simp only[Array.toList_push,List.mem_append,List.mem_singleton]at he;rcases he with he | rfl
   ·exact h3 o' hx e he hb
   ·rcases hi with hi|hi
    ·exact absurd hib hi
    ·exact hi
  ·exact h3 o' hx e he hb
theorem R7 {a b:Nat}:∀(fuel:Nat) (listed:Array Bool) (s:St),listed.size=ops.size→listed.getD a false=true→N6 P cf (C4 ops a b) K fuel listed s→N6 P cf ops K fuel listed s
 |0,listed,s,_,ha,h=>by
  refine⟨?_,h.2⟩;cases hr:Region.ready .any ops listed with
  |nil=>rfl
  |cons i l =>
   have:=Hd (a:=a) (b:=b) (show i∈Region.ready .any ops listed by rw[hr];simp) (.inr ha);rw[h.1]at this;cases this
 |fuel+1,listed,s,hsz,ha,h=>by
  refine⟨fun he=>h.1 ?_,fun i hi=>?_⟩
  ·cases hr:Region.ready .any (C4 ops a b) listed with
   |nil=>rfl
   |cons i l =>
    have hi:i∈Region.ready .any (C4 ops a b) listed:=by rw[hr];simp
    have:i∈Region.ready .any ops listed:=by
     rw[Ei]at hi ⊢;refine⟨by rw[←Im ops a b];exact hi.1,hi.2.1,fun o ho e he' hb=>hi.2.2 _ (by rw[Em,ho];rfl) e ?_ hb⟩;split
     ·simp[he']
     ·exact he'
    rw[he]at this;cases this
  ·have h2:=h.2 i (Hd hi (.inr ha));rw[Em]at h2;have hlt:=(Ei.1 hi).1;cases ho:ops[i]? with
   |none=>rw[ho]at h2;exact h2
   |some o =>
    rw[ho]at h2;simp only[Option.map_some]at h2 ⊢;rw[Iq]at h2;unfold Cr at h2 ⊢;refine Bt (fun v m hk=>R7 fuel _ _ (by simpa using hsz) ?_ hk) h2;rw[F8 (by rw[hsz];exact hlt),ha];simp
def Ul (o:Oper):Bool:=match o.op with
 |.store _ _ _=>true
 |_=>false
def Qpv (o:Oper):Bool:=Ul o || match Br o with
 |.q | .l | .a | .z=>true
 |_=>false
theorem Qeb {o:Oper} (ho:Ul o=true) {s:St} {k k':AV→Ac→Prop} (h1:Db P cf ops o s k) (h2:Db P cf ops o s k'):Db P cf ops o s fun v m=>k v m∧k' v m:=by
 have key:∀{k k':AV→Ac→Prop},Fc P cf o s k→Fc P cf o s k'→Fc P cf o s fun v m=>k v m∧k' v m:=by
  intro k k' h1 h2;unfold Ul at ho;unfold Fc at *;split at ho
  ·rename_i t a x hop
   simp only[hop]at h1 h2 ⊢;obtain⟨ti,b,z,i,j,blk,old,q1,q2,q3,q4,q5,q6,q7,q8,q9⟩:=h1;obtain⟨ti',b',z',i',j',blk',old',r1,r2,r3,r4,r5,r6,r7,r8,r9⟩:=h2;rw[q1]at r1;cases r1;rw[q2]at r2;cases r2;rw[q3]at r3;cases r3;rw[q5]at r5;cases r5;exact⟨ti,b,z,i,j,blk,old,q1,q2,q3,q4,q5,q6,q7,q8,q9,r9⟩
  ·cases ho
 unfold Db at *;cases hg:o.guard with
 |none=>rw[hg]at h1 h2;exact key h1 h2
 |some g =>
  obtain⟨j,want⟩:=g;rw[hg]at h1 h2;simp only at h1 h2 ⊢;cases hd:(ops[j]?).bind (·.dst)with
  |none=>rw[hd]at h1;exact h1
  |some d =>
   rw[hd]at h1 h2;simp only at h1 h2 ⊢;obtain⟨t,t1,t2⟩:=h1;obtain⟨t',t3,t4⟩:=h2;rw[t1]at t3;cases t3;refine⟨t,t1,?_⟩;cases t with
   |true=>simp only[if_true]at t2 t4 ⊢;exact key t2 t4
   |false=>simp only[Bool.false_eq_true,if_false]at t2 t4 ⊢;exact⟨t2,t4⟩
theorem Qfl (hdm:cf.dm=true) {o:Oper} (ho:Qpv o=true) {X Y:St→Prop} {s:St} (h1:Cr P cf ops o X s) (h2:Cr P cf ops o Y s):Cr P cf ops o (fun s'=>X s'∧Y s') s:=by
 by_cases hst:Ul o=true
 ·exact Qeb hst h1 h2
 unfold Qpv at ho;rw[Bool.not_eq_true]at hst;rw[hst,Bool.false_or]at ho;have hb:Br o≠.b:=by intro e;rw[e]at ho;cases ho
 have hx:Br o≠.x:=by intro e;rw[e]at ho;cases ho
 have hc:Br o≠.c:=by intro e;rw[e]at ho;cases ho
 obtain⟨fo,f1,f2⟩:=Nu (P:=P) (cf:=cf) (ops:=ops) hb hx hdm s;unfold Cr at *;have e:({s with m:=s.m}:St)=s:=rfl;rw[←e,f2]at h1 h2 ⊢;cases fo with
 |no=>exact h1
 |quiet ev =>
  obtain⟨v,q1,q2⟩:=h1;obtain⟨v',q3,q4⟩:=h2;rw[q1]at q3;cases q3;exact⟨v,q1,q2,q4⟩
 |new fv x=>exact fun b p1 p2=>⟨h1 b p1 p2,h2 b p1 p2⟩
 |call f args=>exact absurd f1 hc
theorem Qdj (hdm:cf.dm=true) (hsoft:∀(i:Nat) (o:Oper),ops[i]?=some o→Qpv o=true) {a b:Nat} (hab:a≠b):∀(fuel:Nat) (listed:Array Bool) (s:St),listed.size=ops.size→N6 P cf (C4 ops a b) K fuel listed s→N6 P cf (C4 ops b a) K fuel listed s→N6 P cf ops K fuel listed s
 |0,listed,s,_,h1,h2=>by
  refine⟨?_,h1.2⟩;cases hr:Region.ready .any ops listed with
  |nil=>rfl
  |cons i l =>
   have hi:i∈Region.ready .any ops listed:=by rw[hr];simp
   by_cases hib:i=b
   ·have:=Hd (a:=b) (b:=a) hi (.inl (by rw[hib];exact Ne.symm hab));rw[h2.1]at this;cases this
   ·have:=Hd (a:=a) (b:=b) hi (.inl hib);rw[h1.1]at this;cases this
 |fuel+1,listed,s,hsz,h1,h2=>by
  refine⟨fun he=>h1.1 ?_,fun i hi=>?_⟩
  ·cases hr:Region.ready .any (C4 ops a b) listed with
   |nil=>rfl
   |cons i l =>
    have hi:i∈Region.ready .any (C4 ops a b) listed:=by rw[hr];simp
    have:i∈Region.ready .any ops listed:=by
     rw[Ei]at hi ⊢;refine⟨by rw[←Im ops a b];exact hi.1,hi.2.1,fun o ho e he' hb=>hi.2.2 _ (by rw[Em,ho];rfl) e ?_ hb⟩;split
     ·simp[he']
     ·exact he'
    rw[he]at this;cases this
  ·have hlt:=(Ei.1 hi).1;cases ho:ops[i]? with
   |none=>have:=(Array.getElem?_eq_none_iff.1 ho);omega
   |some o =>
    simp only;have g1:i≠b→Cr P cf ops o (N6 P cf (C4 ops a b) K fuel (listed.setIfInBounds i true)) s:=fun hib=>by
     have:=h1.2 i (Hd hi (.inl hib));rw[Em,ho]at this;simp only[Option.map_some]at this
     rwa [Iq]at this
    have g2:i≠a→Cr P cf ops o (N6 P cf (C4 ops b a) K fuel (listed.setIfInBounds i true)) s:=fun hia=>by
     have:=h2.2 i (Hd hi (.inl hia));rw[Em,ho]at this;simp only[Option.map_some]at this
     rwa [Iq]at this
    have hsz':(listed.setIfInBounds i true).size=ops.size:=by simpa using hsz
    by_cases hib:i=b
    ·have:=g2 (by rw[hib];exact Ne.symm hab);unfold Cr at this ⊢;refine Bt (fun v m hk=>R7 fuel _ _ hsz' ?_ hk) this;rw[F8 (by rw[hsz];exact hlt),if_pos hib.symm]
    ·by_cases hia:i=a
     ·have:=g1 hib;unfold Cr at this ⊢;refine Bt (fun v m hk=>R7 fuel _ _ hsz' ?_ hk) this;rw[F8 (by rw[hsz];exact hlt),if_pos hia.symm]
     ·have:=Qfl hdm (hsoft i o ho) (g1 hib) (g2 hia);unfold Cr at this ⊢;exact Bt (fun v m hk=>Qdj hdm hsoft hab fuel _ _ hsz' hk.1 hk.2) this
theorem Qgr {Q:Exit→St→Prop} {s:St} (ro:Nat→Bool) (av:Nat→Prop) (plan:List Nat) (hp:Jm P ro ops plan=true) (h:Cm P ⟨ro,av,true⟩ ops plan (Q .normal) s) :
  N6 P ⟨ro,av,true⟩ ops (Q .normal) ops.size (Array.replicate ops.size false) s:=by
 unfold Jm at hp;have hp0:=hp;unfold Ii at hp;simp only[Bool.and_eq_true]at hp;have hfil:(plan.filter fun i=>!(Array.replicate ops.size false).getD i true)=plan:=by
  refine List.filter_eq_self.2 fun i hi=>?_;have hlt:i<ops.size:=by
   have:=List.all_eq_true.1 hp.2.1.1.1.2 i hi;simpa[Nat.blt_eq]using this
  simp[hlt]
 have hcl:Nn ops (Array.replicate ops.size false):=fun i o ho hl e he hb=>by
  have hi:i<ops.size:=(Array.getElem?_eq_some_iff.1 ho).1;rw[Array.getD_eq_getD_getElem?,Array.getElem?_replicate,if_pos hi]at hl;cases hl
 refine Su (cf:=⟨ro,av,true⟩) (q:=Iu.no) (blk:=fun r=>r) rfl hp0 ops.size _ s ⟨fun _ h=>(by cases h),fun _ _ h=>(by cases h),fun _ h=>(by cases h),fun _ h=>(by cases h)⟩ Array.size_replicate hcl ?_ ?_
 ·rw[hfil];exact(of_decide_eq_true hp.2.1.1.2).2
 ·rw[hfil];exact h
theorem AW.rd2 {Q:Exit→St→Prop} {s:St} {id:Nat} (a b:Nat) (plan plan2:List Nat) (hm:P.follows .mixedOrders=true)
  (h1:Cm P ⟨fun _=>false,fun _=>False,true⟩ ops plan (Q .normal) s) (h2:Cm P ⟨fun _=>false,fun _=>False,true⟩ ops plan2 (Q .normal) s)
  (hok:B1 s.n ops=true:=by kernel_rfl) (hp1:Jm P (fun _=>false) (C4 ops a b) plan=true:=by kernel_rfl) (hp2:Jm P (fun _=>false) (C4 ops b a) plan2=true:=by kernel_rfl)
  (hab:Nat.beq a b=false:=by rfl) (hs:ops.toList.all Qpv=true:=by kernel_rfl):AW P (.region id ops true) Q s:=by
 intro F G w0 act w hr;refine wp_region_any hm ?_;have hok':∀i o,ops[i]?=some o→(Fg s.n o&&Hq ops s.n o)=true:=fun i o ho=>by
  unfold B1 at hok;exact List.all_eq_true.1 hok o (List.mem_of_getElem? (by rw[Array.getElem?_toList];exact ho))
 have hne:a≠b:=by intro e;subst e;simp at hab
 have q1:=Qgr (Q:=Q) (ops:=C4 ops a b) _ _ plan hp1 (O3 a b plan s h1);have q2:=Qgr (Q:=Q) (ops:=C4 ops b a) _ _ plan2 hp2 (O3 b a plan2 s h2);rw[Im]at q1 q2;have hany:=Qdj rfl (fun i o ho=>List.all_eq_true.1 hs o (List.mem_of_getElem? (by rw[Array.getElem?_toList];exact ho))) hne ops.size _ s Array.size_replicate q1 q2;have hd:Ee F G w0 s act {w with drawn:=w.drawn+1}:=hr.drew;exact Ls (F:=F) (G:=G) (w0:=w0) (cf:=⟨fun _=>false,fun _=>False,true⟩) s.n w.heap.size (fun _ h=>h.elim) (fun a w h=>h) hok' ops.size _ s act {w with drawn:=w.drawn+1} (Nat.le_refl _) rfl hd hany
end
end Go.Av
end
section
namespace Go.Av
section
variable {P:Program}
def isZ (o:Oper):Bool:=match o.op with
 |.call c=>match c.callee with | .builtin .append=>true | _=>false
 |_=>false
def Q0m (P:Program) (o:Oper) (s:St) (k:AV→Ac→Prop):Prop:=match o.op with
 |.call c=>match c.callee with
  |.builtin .append=>∃x y t ti e te,c.args.toList=[x,y]∧c.argTypes.toList=[t,t]∧Ai P t=some ti∧ti.cls=.slice e∧Ai P e=some te∧0<te.size ∧
    (s.ev x=.nil∨s.ev x=.zc)∧Fq s.m te.size (s.ev y)=some []∧k .zc s.m
  |_=>False
 |_=>False
def Qbo (P:Program) (cf:Dy) (o:Oper) (K:St→Prop) (s:St):Prop:=if isZ o=true then Q0m P o s fun v m'=>K ({s with m:=m'}.put o.dst v) else E0 P cf o K s
def Qhq (P:Program) (cf:Dy):List Oper→(St→Prop)→St→Prop
 |[],K,s=>K s
 |o::rest,K,s=>o.guard=none∧Qbo P cf o (Qhq P cf rest K) s
@[simp] theorem Qxm (cf:Dy) (K:St→Prop) (s:St):Qhq P cf [] K s=K s:=(rfl)
@[simp] theorem Qv3 (cf:Dy) (d:Option Tmp) (op:Op) (t:TypeId) (p:String) (a:Array Edge) (l:List Oper) (K:St→Prop) (s:St) :
  Qhq P cf ({dst:=d,op:=op,type:=t,pos:=p,after:=a,guard:=none}::l) K s↔Qbo P cf {dst:=d,op:=op,type:=t,pos:=p,after:=a,guard:=none} (Qhq P cf l K) s:=by
 show(_∧_)↔_
 simp
@[simp] theorem Qys (cf:Dy) (K:St→Prop) (s:St) (d:Option Tmp) (x:Operand) (ty:TypeId) (p:String) (a:Array Edge) (g:Option (Nat × Bool)):Qbo P cf ⟨d,.move x,ty,p,a,g⟩ K s=E0 P cf ⟨d,.move x,ty,p,a,g⟩ K s:=(rfl)
@[simp] theorem Qra (cf:Dy) (K:St→Prop) (s:St) (d:Option Tmp) (x:Operand) (ty:TypeId) (p:String) (a:Array Edge) (g:Option (Nat × Bool)):Qbo P cf ⟨d,.assign x,ty,p,a,g⟩ K s=E0 P cf ⟨d,.assign x,ty,p,a,g⟩ K s:=(rfl)
@[simp] theorem Qvq (cf:Dy) (K:St→Prop) (s:St) (d:Option Tmp) (t:TypeId) (x:Operand) (lo hi mx:Option Operand) (ty:TypeId) (p:String) (a:Array Edge) (g:Option (Nat × Bool)):Qbo P cf ⟨d,.slice t x lo hi mx,ty,p,a,g⟩ K s=E0 P cf ⟨d,.slice t x lo hi mx,ty,p,a,g⟩ K s:=(rfl)
@[simp] theorem Qtx (cf:Dy) (K:St→Prop) (s:St) (d:Option Tmp) (o:BinOp) (t t':TypeId) (x y:Operand) (ty:TypeId) (p:String) (a:Array Edge) (g:Option (Nat × Bool)):Qbo P cf ⟨d,.binOp o t x y t',ty,p,a,g⟩ K s=E0 P cf ⟨d,.binOp o t x y t',ty,p,a,g⟩ K s:=(rfl)
def emK (x:Option (List AV)) (k:Prop):Prop:=x=some []∧k
@[simp] theorem Q25 (k:Prop):emK (some []) k↔k:=by simp[emK]
@[congr] theorem Qzr {x y:Option (List AV)} {k:Prop} (h:x=y):emK x k=emK y k:=by rw[h]
def zK (x:AV) (k:Prop):Prop:=(x=.nil∨x=.zc)∧k
@[simp] theorem Q30 (k:Prop):zK .nil k↔k:=by simp[zK]
@[simp] theorem Q4g (k:Prop):zK .zc k↔k:=by simp[zK]
@[congr] theorem Q02 {x y:AV} {k:Prop} (h:x=y):zK x k=zK y k:=by rw[h]
@[simp] theorem Qrh (cf:Dy) (K:St→Prop) (s:St) (d:Option Tmp) (x y:Operand) (t ty:TypeId) (p:String) (a:Array Edge) (g:Option (Nat × Bool)):Qbo P cf ⟨d,.call ⟨.builtin .append,#[x,y],#[t,t]⟩,ty,p,a,g⟩ K s↔Qv (Ai P t) fun ti=>eK (Od ti.cls) fun e=>Qv (Ai P e) fun te=>0<te.size∧zK (s.ev x) (emK (Fq s.m te.size (s.ev y)) (I8 K s d .zc s.m)):=by
 unfold Qbo Q0m Qv eK zK emK;simp only[isZ,if_true];constructor
 ·rintro⟨x',y',t',ti,e,te,h1,h2,q1,q2,q3,q4,q5,q6,q7⟩;simp only[List.cons.injEq,and_true]at h1 h2;obtain⟨rfl,rfl⟩:=h1;obtain⟨rfl,_⟩:=h2;exact⟨ti,q1,e,Dk.2 q2,te,q3,q4,q5,q6,q7⟩
 ·rintro⟨ti,q1,e,q2,te,q3,q4,q5,q6,q7⟩;exact⟨x,y,t,ti,e,te,rfl,rfl,q1,Dk.1 q2,q3,q4,q5,q6,q7⟩
end
end Go.Av
end
section
namespace Go.Av
section
variable {P:Program} {F G:Nat→Prop} {w0 w:World} {s:St} {a:Act}
theorem P5 (hrel:Ee F G w0 s a w) {t e:TypeId} {ti te:TI} (ht:Ai P t=some ti) (hc:ti.cls=.slice e) (hte:Ai P e=some te) (hz0:0<te.size) (hzl:te.zero.cells.length=te.size)
  {y:AV} {cy:Value} (hy:VR w (C2 F s.m) y cy) {ys:List AV} (hys:Fq s.m te.size y=some ys) (hall:(ys.all fun v=>v.cells.length==te.size&&v.cells.all AV.one)=true)
  {b:Nat} {l:List AV} (hb:s.m b=some ⟨e,te.size,l⟩) {cx:Value} (hx:VR w (C2 F s.m) (.osl b te.size 0 l.length) cx)
  (hby:((l.length+ys.length)+(l.length+ys.length) / 4+192)*te.bytes≤281474976710656) (hml:l.length+ys.length≤maxLen) (ty:TypeId) :
  ∃b' cv w',(b'=b∨(s.m b'=none∧¬b'<w.heap.size))∧(Builtin.append_ #[t,t] ty #[cx,cy]).run P w=.ok cv w'∧Ee F G w0 {s with m:=s.m.set b' ⟨e,te.size,l++ys⟩} a w' ∧
   VR w' (C2 F (s.m.set b' ⟨e,te.size,l++ys⟩)) (.osl b' te.size 0 (l.length+ys.length)) cv:=by
 obtain⟨inf,d,z,hi,hd,hz,g1,g2,g3,g4,g5⟩:=(Eu ht).get;obtain⟨ie,de,ze,hie,hde,hze,k1,k2,k3,k4,k5⟩:=(Eu hte).get;rw[←g3]at hc;cases d<;>simp only[Ds,reduceCtorEq,Mc.slice.injEq]at hc
 rw[hc]at hd;obtain⟨A,c,rfl,hA,hnews⟩:=Ho hrel hz0 hy hys hall;obtain⟨yzs,yones⟩:=Jw hall;obtain⟨z0,zs,ones,cells,cap,h1,h2,h3,h4,h5⟩:=hrel.heap b _ hb;simp only at z0 zs ones h1 h2 h4 h5;cases hx with
 |osl _ _ _ _ cc hcc hmm =>
  obtain⟨cells',e',m1,m2⟩:=hmm;rw[h1]at m1;cases m1;rw[Nat.zero_add,h2]at m2;have hcc2:cc=cap:=Nat.eq_of_mul_eq_mul_right z0 m2;subst hcc2;simp only[Nat.zero_mul];cases A with
  |none =>
   have hy0:=hA rfl;subst hy0;refine⟨b,.slice (some ⟨b,0,none⟩) l.length cc,w,.inl rfl,by simp[Builtin.append_,run_underlying hd,sizeOf,typeInfo,hie,Builtin.lenOf,Builtin.firstCells,hcc,storeCells],?_,?_⟩
   ·rw[List.append_nil];have:s.m.set b ⟨e,te.size,l⟩=s.m:=by
     funext k
     by_cases hk:k=b
     ·subst hk;rw[Ac.set_same,hb]
     ·rw[Ac.set_other _ _ hk]
    rw[this];exact hrel
   ·have:=VR.osl (w:=w) (F:=C2 F (s.m.set b ⟨e,te.size,l++[]⟩)) b te.size 0 l.length cc hcc ⟨_,_,h1,by rw[Nat.zero_add,h2]⟩
    rwa [Nat.zero_mul]at this
  |some ad =>
   obtain⟨news,e1,e2,e3,e4⟩:=hnews ad rfl;by_cases hroom:l.length+ys.length≤cc
   ·-- room
    have hfit:l.length*te.size+news.length≤cells.size:=by
     rw[e1,h2,←Nat.add_mul];exact Nat.mul_le_mul_right _ hroom
    have hr:=run_append_room (P:=P) w t ty e ie hd hie b l.length cc cells h1 ad ys.length c news (by rw[k1];exact e1) e2 e3 hroom (by rw[k1];exact hfit);rw[k1]at hr;have hsz:=Kh cells news (l.length*te.size) hfit;refine⟨b,_,_,.inl rfl,hr,?_,?_⟩
    ·refine hrel.setRow hb (⟨e,te.size,l++ys⟩:Fb) rfl rfl h1 _ hsz (by rw[List.length_append,Nat.add_mul,←e1];exact hfit) (fun x hx=>?_) (fun i j u hu=>?_) (fun i j u hu=>?_)
     ·rcases List.mem_append.1 hx with hx|hx
      ·exact zs x hx
      ·exact yzs x hx
     ·unfold A4 at hu;rcases Nat.lt_or_ge i l.length with hi | hi
      ·rw[List.getElem?_append_left hi]at hu;exact ones i j u hu
      ·rw[List.getElem?_append_right hi]at hu;exact yones _ j u hu
     ·have hseg:=K7 cells news (l.length*te.size) (i*te.size+j) hfit;simp only at hseg ⊢;rw[hseg];unfold A4 at hu;rcases Nat.lt_or_ge i l.length with hi | hi
      ·rw[List.getElem?_append_left hi]at hu;have hj:=(Dp zs (show A4 l i j=some u from hu)).2;have:(i+1)*te.size≤l.length*te.size:=Nat.mul_le_mul_right _ hi;rw[Nat.add_mul,Nat.one_mul]at this;rw[if_neg (by omega)];exact h5 i j u hu
      ·rw[List.getElem?_append_right hi]at hu;obtain⟨hil,hj⟩:=Dp yzs (show A4 ys (i-l.length) j=some u from hu);have q1:l.length*te.size≤i*te.size:=Nat.mul_le_mul_right _ hi;have q2:(i-l.length)*te.size=i*te.size-l.length*te.size:=Nat.sub_mul _ _ _;have q3:(i-l.length+1)*te.size≤ys.length*te.size:=Nat.mul_le_mul_right _ hil;rw[Nat.add_mul,Nat.one_mul]at q3;rw[if_pos (by rw[e1];omega)];obtain⟨v,p1,p2⟩:=e4 _ j u hu;refine⟨v,?_,p2⟩;rw[←p1];congr 1;omega
    ·have:=VR.osl (w:=w.setRow b (cells.toList.take (l.length*te.size)++news++cells.toList.drop (l.length*te.size+news.length)).toArray) (F:=C2 F (s.m.set b ⟨e,te.size,l++ys⟩)) b te.size 0 (l.length+ys.length) cc hroom
      ⟨_,_,setRow_heap w b cells _ _ _ h1,by rw[hsz,h2,Nat.zero_add]⟩
     rwa [Nat.zero_mul]at this
   ·-- it grows
    have hlt:cc<l.length+ys.length:=by omega
    have h63:((l.length+ys.length:Nat):Int)≤9223372036854775807:=by simp only[maxLen]at hml;omega
    have holds:∀(j:Nat) (v:Value),(cells.toList.take (l.length*te.size))[j]?=some v→w.cell? ((⟨b,0,none⟩:Addr).add j)=some v:=by
     intro j v hv;rw[El,Nat.zero_add];rw[List.getElem?_take]at hv;split at hv
     ·simp[World.cell?,h1];rwa [Array.getElem?_toList]at hv
     ·cases hv
    have hlold:(cells.toList.take (l.length*te.size)).length=l.length*te.size:=by
     have e0:cells.toList.length=cells.size:=Array.length_toList;have:=Nat.mul_le_mul_right te.size h4;rw[List.length_take,e0,h2];omega
    have hr:=run_append_grow (P:=P) w t ty e ie ze hd hie hze ⟨b,0,none⟩ l.length cc (cells.toList.take (l.length*te.size)) (by rw[k1];exact hlold) holds ad ys.length c news (by rw[k1];exact e1) e2 hlt h63 (growslice_fits_wide hlt (by rw[k2];exact hby));have hge:=grownCap_ge w (l.length+ys.length) cc e;have hzsz:ze.cells.size=te.size:=by
     have hzc:VR w (C2 F s.m) te.zero ze:=by rw[←k4];exact Ig w _ ze
     by_cases hany:te.zero=.any
     ·have hz1:te.size=1:=by rw[←hzl,hany];rfl
      rw[hz1];rw[←k4]at hany;unfold Rd at hany;split at hany
      ·cases hany
      ·rename_i v hv
       cases ze<;>first | rfl | exact absurd rfl (hv _)
     ·rw[(hzc.cells hany).1,hzl]
    have hsize:((cells.toList.take (l.length*te.size)).toArray++news.toArray++Builtin.zeroCells ze.cells (grownCap w (l.length+ys.length) cc e-(l.length+ys.length))).size=grownCap w (l.length+ys.length) cc e*te.size:=by
     simp only[Array.size_append,List.size_toArray,size_zeroCells,hlold,e1,hzsz,←Nat.add_mul]
     congr 1
     omega
    have hgd:Ez (fun _=>False) w w.drew:=⟨rfl,rfl,rfl,Nat.le_refl _,fun _ _ _=>rfl,fun _ c _ hc=>⟨c,hc,rfl⟩⟩;have hal:=hrel.drew.alloc (⟨e,te.size,l++ys⟩:Fb) _ hz0 (fun x hx=>by
      rcases List.mem_append.1 hx with hx|hx
      ·exact zs x hx
      ·exact yzs x hx) (fun i j u hu=>by
      unfold A4 at hu;rcases Nat.lt_or_ge i l.length with hi | hi
      ·rw[List.getElem?_append_left hi]at hu;exact ones i j u hu
      ·rw[List.getElem?_append_right hi]at hu;exact yones _ j u hu) (grownCap w (l.length+ys.length) cc e) hsize (grownCap_le_maxLen w _ cc e hml) (by rw[List.length_append];exact hge) (fun i j u hu=>by
      unfold A4 at hu;rcases Nat.lt_or_ge i l.length with hi | hi
      ·rw[List.getElem?_append_left hi]at hu;obtain⟨v,p1,p2⟩:=h5 i j u hu;have hj:=(Dp zs (show A4 l i j=some u from hu)).2;have:(i+1)*te.size≤l.length*te.size:=Nat.mul_le_mul_right _ hi;rw[Nat.add_mul,Nat.one_mul]at this;refine⟨v,?_,p2.mono hgd (fun _ _ x=>x.elim) (fun _ _ x=>x)⟩;show _[i*te.size+j]?=some v
       rw[Array.append_assoc,Array.getElem?_append_left (by rw[List.size_toArray,hlold];omega),List.getElem?_toArray,List.getElem?_take,if_pos (by omega),Array.getElem?_toList];exact p1
      ·rw[List.getElem?_append_right hi]at hu;obtain⟨hil,hj⟩:=Dp yzs (show A4 ys (i-l.length) j=some u from hu);have q1:l.length*te.size≤i*te.size:=Nat.mul_le_mul_right _ hi;have q2:(i-l.length)*te.size=i*te.size-l.length*te.size:=Nat.sub_mul _ _ _;have q3:(i-l.length+1)*te.size≤ys.length*te.size:=Nat.mul_le_mul_right _ hil;rw[Nat.add_mul,Nat.one_mul]at q3;obtain⟨v,p1,p2⟩:=e4 _ j u hu;refine⟨v,?_,p2.mono hgd (fun _ _ x=>x.elim) (fun _ _ x=>x)⟩;show _[i*te.size+j]?=some v
       rw[Array.append_assoc,Array.getElem?_append_right (by rw[List.size_toArray,hlold];omega),Array.getElem?_append_left (by rw[List.size_toArray,List.size_toArray,hlold,e1];omega),List.getElem?_toArray];rw[←p1];congr 1;rw[List.size_toArray,hlold];omega)
    refine⟨w.heap.size,_,_,.inr ⟨hrel.fresh,by omega⟩,hr,hal,?_⟩;have:=VR.osl (w:=w.drew.alloc (.cells ((cells.toList.take (l.length*te.size)).toArray++news.toArray++Builtin.zeroCells ze.cells (grownCap w (l.length+ys.length) cc e-(l.length+ys.length))) e)) (F:=C2 F (s.m.set w.heap.size ⟨e,te.size,l++ys⟩)) w.heap.size te.size 0 (l.length+ys.length) (grownCap w (l.length+ys.length) cc e) hge
     ⟨_,_,Iw w.drew _,by rw[hsize,Nat.zero_add]⟩
    rwa [Nat.zero_mul]at this
end
section
variable {P:Program}
def Qk2 (P:Program) (o:Oper) (s:St) (k:AV→Ac→Prop):Prop:=match o.op with
 |.call c=>match c.callee with
  |.builtin .append=>∃x y t ti e te b l ys,c.args.toList=[x,y]∧c.argTypes.toList=[t,t]∧Ai P t=some ti∧ti.cls=.slice e∧Ai P e=some te∧0<te.size∧te.zero.cells.length=te.size ∧
    s.ev x=.osl b te.size 0 l.length∧s.m b=some ⟨e,te.size,l⟩∧Fq s.m te.size (s.ev y)=some ys∧(ys.all fun v=>v.cells.length==te.size&&v.cells.all AV.one)=true ∧
    ((l.length+ys.length)+(l.length+ys.length) / 4+192)*te.bytes≤281474976710656∧l.length+ys.length≤maxLen ∧
    ∀b',(b'=b∨s.m b'=none)→k (.osl b' te.size 0 (l.length+ys.length)) (s.m.set b' ⟨e,te.size,l++ys⟩)
  |_=>False
 |_=>False
theorem Qe5 {F G:Nat→Prop} {w0 w:World} {s:St} {a:Act} (hrel:Ee F G w0 s a w) {o:Oper} (hok:Fg s.n o=true) {K:St→Prop} (h:Qk2 P o s fun v m'=>K ({s with m:=m'}.put o.dst v)) (Q:Exit→Act→World→Prop):o.wp P a w (En F G w0 s.n K) Q:=by
 have hd:L5 s.n o.dst=true:=by unfold Fg at hok;rw[Bool.and_eq_true]at hok;exact hok.1
 unfold Qk2 at h;split at h
 ·rename_i c ho
  have hargs:=List.all_eq_true.1 (J3 c (n:=s.n) (by unfold Fg at hok;rw[Bool.and_eq_true,ho]at hok;exact hok.2));split at h
  ·rename_i hcal
   obtain⟨x,y,t,ti,e,te,b,l,ys,hxs,hts,ht,hc,hte,hz0,hzl,hx,hb,hys,hall,hby,hml,hk⟩:=h;obtain⟨callee,args,argTypes⟩:=c;simp only at hcal hxs hts hargs;subst hcal;have ha:args=#[x,y]:=Array.toList_inj.1 hxs;have hb':argTypes=#[t,t]:=Array.toList_inj.1 hts;subst ha;subst hb';have hrun:∀{cv:Value} {w':World},(Builtin.append_ #[t,t] o.type #[a.eval x,a.eval y]).run P w=.ok cv w'→(execOp a.eval o).run P w=.ok (.value cv) w':=by
    intro cv w' hq;unfold execOp;rw[ho];simp[resolve,invoke,builtin,hq]
   have hxv:=hrel.ev (hargs x (by simp));have hyv:=hrel.ev (hargs y (by simp));rw[hx]at hxv;obtain⟨b',cv,w',h1,h2,h3,h4⟩:=P5 hrel ht hc hte hz0 hzl hyv hys hall hb hxv hby hml o.type;exact Dr (hrun h2) ⟨_,hk b' (h1.imp id And.left),H5 _ _ _,h3.put hd h4⟩
  ·exact h.elim
 ·exact h.elim
def Ky (P:Program) (cf:Dy) (o:Oper) (K:St→Prop) (s:St):Prop:=if isZ o=true then Qk2 P o s fun v m'=>K ({s with m:=m'}.put o.dst v) else E0 P cf o K s
def Gs (P:Program) (cf:Dy) (ops:Array Oper):List Oper→(St→Prop)→St→Prop
 |[],K,s=>K s
 |o::rest,K,s =>
  match o.guard with
  |none=>Ky P cf o (Gs P cf ops rest K) s
  |some (j,want) =>
   match (ops[j]?).bind (·.dst)with
   |some d=>∃t,Nb (s.r d) want=some t∧if t=true then Ky P cf o (Gs P cf ops rest K) s else Gs P cf ops rest K (s.put o.dst (.tup []))
   |none=>False
theorem Qe9 {F G:Nat→Prop} {w0 w:World} {s:St} {a:Act} (hrel:Ee F G w0 s a w) {cf:Dy} (hav:∀b,cf.av b→b<w.heap.size) {o:Oper} (hok:Fg s.n o=true) {K:St→Prop} (h:Ky P cf o K s) (Q:Exit→Act→World→Prop):o.wp P a w (En F G w0 s.n K) Q:=by
 unfold Ky at h;split at h
 ·exact Qe5 hrel hok h Q
 ·exact Kp hrel hav hok h Q
theorem Ni {F G:Nat→Prop} {w0:World} {cf:Dy} (hcf:∀b,¬cf.av b) {ops:Array Oper} {K:St→Prop} {QQ:Exit→Act→World→Prop} (n:Nat) (hQ:∀a w,En F G w0 n K a w→QQ .normal a w) :
  ∀(l:List Oper) (s:St) (a:Act) (w:World),s.n=n→(∀o∈l,(Fg n o&&Hq ops n o)=true)→Ee F G w0 s a w→Gs P cf ops l K s→wpList P ops QQ l a w
 |[],s,a,w,hn,_,hr,hk=>hQ a w ⟨s,hk,hn,hr⟩
 |o::rest,s,a,w,hn,hok,hr,hk=>by
  have ho:=hok o (by simp);rw[Bool.and_eq_true]at ho;have hrest:∀o∈rest,(Fg n o&&Hq ops n o)=true:=fun x hx=>hok x (by simp[hx]);have hmono:∀{s:St} {a:Act} {w:World},s.n=n→En F G w0 s.n (Gs P cf ops rest K) a w→wpList P ops QQ rest a w:=by
   rintro s a w hn ⟨s',h1,h2,h3⟩;exact Ni hcf n hQ rest s' a w (h2.trans hn) hrest h3 h1
  have hop:Ee F G w0 s a w→Ky P cf o (Gs P cf ops rest K) s→o.wp P a w (wpList P ops QQ rest) QQ:=by
   intro hr hk;have:=Qe9 hr (fun b hb=>(hcf b hb).elim) (by rw[hn];exact ho.1) hk QQ;unfold Oper.wp at this ⊢
   revert this
   generalize(execOp a.eval o).run P w=res;intro this;have hm:∀a w,En F G w0 s.n (Gs P cf ops rest K) a w→wpList P ops QQ rest a w:=fun a w h=>hmono hn h;unfold Oper.upon at this ⊢;split at this<;>first
    |exact hm _ _ this
    |(refine Calls.mono this ?_;intro e w' h;cases e<;>first | exact hm _ _ h | exact h)
    |(refine Rows.mono this ?_;intro e w' h;exact hm _ _ h)
    |exact this
    |exact this.elim
  unfold wpList;unfold Gs at hk;split at hk
  ·rename_i hg
   rw[if_pos (by simp[Region.wanted,hg])];exact .inl (hop hr hk)
  ·rename_i j want hg
   split at hk
   ·rename_i d hd
    obtain⟨t,ht,hk⟩:=hk;have hdn:d<s.n:=by
     have h2:=ho.2;unfold Hq at h2;simp only[hg,hd]at h2;rw[hn];simpa[Nat.blt_eq]using h2
    have hw:=hr.wanted hdn hg hd ht;rw[hw];by_cases htw:t=true
    ·rw[if_pos htw]at hk;rw[if_pos htw];exact .inl (hop hr hk)
    ·rw[if_neg htw]at hk;rw[if_neg htw];have hdst:L5 n o.dst=true:=by have h1:=ho.1;unfold Fg at h1;rw[Bool.and_eq_true]at h1;exact h1.1
     exact Ni hcf n hQ rest _ _ w ((H5 _ _ _).trans hn) hrest (hr.put (by rw[hn];exact hdst) (.skip _ _)) hk
   ·exact hk.elim
theorem AW.rgK {Q:Exit→St→Prop} {s:St} {id:Nat} {ops:Array Oper} (h:Gs P (Dy.txt fun _=>false) ops ops.toList (Q .normal) s) (hok:B1 s.n ops=true:=by kernel_rfl):AW P (.region id ops false) Q s:=by
 intro F G w0 a w hr;refine wp_region_list (Ni (F:=F) (G:=G) (w0:=w0) (cf:=Dy.txt fun _=>false) (fun _ h=>h) s.n (K:=Q .normal) (fun a w h=>h) ops.toList s a w rfl (fun o ho=>?_) hr h);unfold B1 at hok;exact List.all_eq_true.1 hok o ho
@[simp] theorem Qzd (cf:Dy) (ops:Array Oper) (K:St→Prop) (s:St):Gs P cf ops [] K s=K s:=(rfl)
@[simp] theorem Qvg (cf:Dy) (ops:Array Oper) (K:St→Prop) (s:St) (d:Option Tmp) (op:Op) (t:TypeId) (p:String) (a:Array Edge) (rest:List Oper) :
  Gs P cf ops ({dst:=d,op:=op,type:=t,pos:=p,after:=a,guard:=none}::rest) K s=Ky P cf {dst:=d,op:=op,type:=t,pos:=p,after:=a,guard:=none} (Gs P cf ops rest K) s:=rfl
@[simp] theorem Qw7 (cf:Dy) (ops:Array Oper) (K:St→Prop) (s:St) (d:Option Tmp) (op:Op) (t:TypeId) (p:String) (a:Array Edge) (j:Nat) (want:Bool) (rest:List Oper) :
  Gs P cf ops ({dst:=d,op:=op,type:=t,pos:=p,after:=a,guard:=some (j,want)}::rest) K s ↔
   Qb (U8 s ((ops[j]?).bind (·.dst))) want (Ky P cf {dst:=d,op:=op,type:=t,pos:=p,after:=a,guard:=some (j,want)} (Gs P cf ops rest K) s) (Gs P cf ops rest K (s.put d (.tup []))):=by
 show(match (ops[j]?).bind (·.dst)with
   |some d'=>∃t',Nb (s.r d') want=some t'∧if t'=true then Ky P cf {dst:=d,op:=op,type:=t,pos:=p,after:=a,guard:=some (j,want)} (Gs P cf ops rest K) s else Gs P cf ops rest K (s.put d (.tup []))
   |none=>False)↔_
 cases (ops[j]?).bind (·.dst)with
 |none=>simp[U8,Qb,Nb]
 |some d' =>
  simp only[O0];exact Vj _ _ _ _
@[congr] theorem Qtg {cf:Dy} {ops:Array Oper} {l:List Oper} {K:St→Prop} {s s':St} (h:s=s'):Gs P cf ops l K s=Gs P cf ops l K s':=by rw[h]
@[congr] theorem Qv2 {cf:Dy} {o:Oper} {K:St→Prop} {s s':St} (h:s=s'):Ky P cf o K s=Ky P cf o K s':=by rw[h]
variable {cf:Dy} {K:St→Prop} {s:St} {d:Option Tmp} {ty:TypeId} {p:String} {a:Array Edge} {g:Option (Nat × Bool)}
@[simp] theorem Qzz (x:Operand):Ky P cf ⟨d,.move x,ty,p,a,g⟩ K s=E0 P cf ⟨d,.move x,ty,p,a,g⟩ K s:=(rfl)
@[simp] theorem Qtb (x:Operand):Ky P cf ⟨d,.assign x,ty,p,a,g⟩ K s=E0 P cf ⟨d,.assign x,ty,p,a,g⟩ K s:=(rfl)
@[simp] theorem Qy4 (c x y:Operand):Ky P cf ⟨d,.pick c x y,ty,p,a,g⟩ K s=E0 P cf ⟨d,.pick c x y,ty,p,a,g⟩ K s:=(rfl)
@[simp] theorem Qw3 (o:BinOp) (t t':TypeId) (x y:Operand):Ky P cf ⟨d,.binOp o t x y t',ty,p,a,g⟩ K s=E0 P cf ⟨d,.binOp o t x y t',ty,p,a,g⟩ K s:=(rfl)
@[simp] theorem Q0l (x:Operand) (t:TypeId):Ky P cf ⟨d,.call ⟨.builtin .len,#[x],#[t]⟩,ty,p,a,g⟩ K s=E0 P cf ⟨d,.call ⟨.builtin .len,#[x],#[t]⟩,ty,p,a,g⟩ K s:=(rfl)
@[simp] theorem Qyj (f:FuncId) (args:Array Operand) (ts:Array TypeId):Ky P cf ⟨d,.call ⟨.value (.func f),args,ts⟩,ty,p,a,g⟩ K s=E0 P cf ⟨d,.call ⟨.value (.func f),args,ts⟩,ty,p,a,g⟩ K s:=(rfl)
def Qho (m:Ac) (b:Nat) (k:Nat→Prop):Prop:=∀b',(b'=b∨m b'=none)→k b'
@[congr] theorem Qrc {m m':Ac} {b:Nat} {k:Nat→Prop} (h:m=m'):Qho m b k=Qho m' b k:=by rw[h]
def Yp (e:TypeId) (te:TI) (x:AV) (m:Ac) (ys:List AV) (k:AV→Ac→Prop):Prop :=
 match x with
 |.osl b z i n=>0<te.size∧te.zero.cells.length=te.size∧z=te.size∧i=0∧(ys.all fun v=>v.cells.length==te.size&&v.cells.all AV.one)=true∧∃l,m b=some ⟨e,te.size,l⟩∧n=l.length∧((l.length+ys.length)+(l.length+ys.length) / 4+192)*te.bytes≤281474976710656∧l.length+ys.length≤maxLen ∧
   Qho m b fun b'=>k (.osl b' te.size 0 (l.length+ys.length)) (m.set b' ⟨e,te.size,l++ys⟩)
 |_=>False
@[simp] theorem Qy6 (e:TypeId) (te:TI) (b z i n:Nat) (m:Ac) (ys:List AV) (k:AV→Ac→Prop):Yp e te (.osl b z i n) m ys k↔0<te.size∧te.zero.cells.length=te.size∧z=te.size∧i=0∧(ys.all fun v=>v.cells.length==te.size&&v.cells.all AV.one)=true∧∃l,m b=some ⟨e,te.size,l⟩∧n=l.length∧((l.length+ys.length)+(l.length+ys.length) / 4+192)*te.bytes≤281474976710656∧l.length+ys.length≤maxLen ∧
   Qho m b fun b'=>k (.osl b' te.size 0 (l.length+ys.length)) (m.set b' ⟨e,te.size,l++ys⟩):=Iff.rfl
@[congr] theorem Qta {e:TypeId} {te:TI} {x x':AV} {m m':Ac} {ys ys':List AV} {k:AV→Ac→Prop} (h:x=x') (h':m=m') (h'':ys=ys'):Yp e te x m ys k=Yp e te x' m' ys' k:=by rw[h,h',h'']
theorem Qaj (x y:Operand) (t:TypeId) (h:Qv (Ai P t) fun ti=>eK (Od ti.cls) fun e=>Qv (Ai P e) fun te=>Gv (Fq s.m te.size (s.ev y)) fun ys=>Yp e te (s.ev x) s.m ys (I8 K s d)):Ky P cf ⟨d,.call ⟨.builtin .append,#[x,y],#[t,t]⟩,ty,p,a,g⟩ K s:=by
 unfold Ky Qk2;unfold Qv eK Gv Yp at h;simp only[isZ,if_true];obtain⟨ti,q1,e,q2,te,q3,ys,q6,q7⟩:=h;split at q7
 ·rename_i b z i n g1
  obtain⟨r1,r2,rfl,rfl,r5,l,r6,rfl,r8,r9,r10⟩:=q7;exact⟨x,y,t,ti,e,te,b,l,ys,rfl,rfl,q1,Dk.1 q2,q3,r1,r2,g1,r6,q6,r5,r8,r9,r10⟩
 ·exact q7.elim
@[simp] theorem Qs5 (x y:Operand) (t:TypeId):Ky P cf ⟨d,.call ⟨.builtin .append,#[x,y],#[t,t]⟩,ty,p,a,g⟩ K s↔Qv (Ai P t) fun ti=>eK (Od ti.cls) fun e=>Qv (Ai P e) fun te=>Gv (Fq s.m te.size (s.ev y)) fun ys=>Yp e te (s.ev x) s.m ys (I8 K s d):=by
 refine⟨fun h=>?_,Qaj x y t⟩;unfold Ky Qk2 at h;simp only[isZ,if_true]at h;obtain⟨x',y',t',ti,e,te,b,l,ys,h1,h2,q1,q2,q3,r1,r2,g1,r6,q6,r5,r8,r9,r10⟩:=h;simp only[List.cons.injEq,and_true]at h1 h2;obtain⟨rfl,rfl⟩:=h1;obtain⟨rfl,_⟩:=h2;unfold Qv eK Gv;refine⟨ti,q1,e,Dk.2 q2,te,q3,ys,q6,?_⟩;rw[g1];exact⟨r1,r2,rfl,rfl,r5,l,r6,rfl,r8,r9,r10⟩
end
end Go.Av
end
section
namespace Go.Av
@[simp] theorem Q1o (a b:Nat):(a:Int)+(b:Int)=((a+b:Nat):Int):=by omega
@[simp] theorem Qn1 (a b:Nat):(a:Int)*(b:Int)=((a*b:Nat):Int):=(Int.natCast_mul a b).symm
@[simp] theorem Q2a (a b:Nat):(a:Int) / (b:Int)=((a / b:Nat):Int):=rfl
@[simp] theorem Q17 (a b:Nat):(a:Int) % (b:Int)=((a % b:Nat):Int):=rfl
@[simp] theorem Q0u (a j:Nat):Int.fdiv (a:Int) (2^j)=((a / 2^j:Nat):Int):=by
 rw[Qo2,show((2:Int)^j)=((2^j:Nat):Int) by simp[Int.natCast_pow]];rfl
@[simp] theorem Q2f (a j:Nat):(a:Int)*2^j=((a*2^j:Nat):Int):=by
 rw[show((2:Int)^j)=((2^j:Nat):Int) by simp[Int.natCast_pow],Qn1]
theorem Qc6 {a b:Nat} (h:b≤a):(a:Int)-(b:Int)=((a-b:Nat):Int):=by omega
@[simp] theorem Qwg (a:Nat):(a:Int)+1=((a+1:Nat):Int):=by omega
@[simp] theorem Qtu (a:Nat):1+(a:Int)=((1+a:Nat):Int):=by omega
@[simp] theorem Qu4 (a:Nat):(a:Int)*1=((a*1:Nat):Int):=by omega
@[simp] theorem Qwh (a:Nat):1*(a:Int)=((1*a:Nat):Int):=by omega
@[simp] theorem Qw8 (a:Nat):(a:Int) / 1=((a / 1:Nat):Int):=rfl
@[simp] theorem Qt4 (a:Nat):(a:Int) % 1=((a % 1:Nat):Int):=rfl
@[simp] theorem Qsw (a:Nat):Int.tdiv (a:Int) 1=((a / 1:Nat):Int):=rfl
@[simp] theorem Qr7 (a:Nat):Int.tmod (a:Int) 1=((a % 1:Nat):Int):=rfl
@[simp] theorem Qy2 (a:Nat):(a:Int)<1↔a<1:=by omega
@[simp] theorem Qzu (a:Nat):1<(a:Int)↔1<a:=by omega
@[simp] theorem Qz2 (a:Nat):(a:Int)≤1↔a≤1:=by omega
@[simp] theorem Qxr (a:Nat):1≤(a:Int)↔1≤a:=by omega
@[simp] theorem Qyz (a:Nat):(a:Int)=1↔a=1:=by omega
@[simp] theorem Qtq (a:Nat):(a:Int)+2=((a+2:Nat):Int):=by omega
@[simp] theorem Qwu (a:Nat):2+(a:Int)=((2+a:Nat):Int):=by omega
@[simp] theorem Qtz (a:Nat):(a:Int)*2=((a*2:Nat):Int):=by omega
@[simp] theorem Qud (a:Nat):2*(a:Int)=((2*a:Nat):Int):=by omega
@[simp] theorem Qvp (a:Nat):(a:Int) / 2=((a / 2:Nat):Int):=rfl
@[simp] theorem Qu5 (a:Nat):(a:Int) % 2=((a % 2:Nat):Int):=rfl
@[simp] theorem Qsa (a:Nat):Int.tdiv (a:Int) 2=((a / 2:Nat):Int):=rfl
@[simp] theorem Qtl (a:Nat):Int.tmod (a:Int) 2=((a % 2:Nat):Int):=rfl
@[simp] theorem Qy3 (a:Nat):(a:Int)<2↔a<2:=by omega
@[simp] theorem Qx4 (a:Nat):2<(a:Int)↔2<a:=by omega
@[simp] theorem Qxo (a:Nat):(a:Int)≤2↔a≤2:=by omega
@[simp] theorem Qyo (a:Nat):2≤(a:Int)↔2≤a:=by omega
@[simp] theorem Qzw (a:Nat):(a:Int)=2↔a=2:=by omega
@[simp] theorem Qul (a:Nat):(a:Int)+4=((a+4:Nat):Int):=by omega
@[simp] theorem Qvu (a:Nat):4+(a:Int)=((4+a:Nat):Int):=by omega
@[simp] theorem Qwf (a:Nat):(a:Int)*4=((a*4:Nat):Int):=by omega
@[simp] theorem Qw0 (a:Nat):4*(a:Int)=((4*a:Nat):Int):=by omega
@[simp] theorem Qty (a:Nat):(a:Int) / 4=((a / 4:Nat):Int):=rfl
@[simp] theorem Qvv (a:Nat):(a:Int) % 4=((a % 4:Nat):Int):=rfl
@[simp] theorem Qsf (a:Nat):Int.tdiv (a:Int) 4=((a / 4:Nat):Int):=rfl
@[simp] theorem Qsr (a:Nat):Int.tmod (a:Int) 4=((a % 4:Nat):Int):=rfl
@[simp] theorem Qx3 (a:Nat):(a:Int)<4↔a<4:=by omega
@[simp] theorem Qy0 (a:Nat):4<(a:Int)↔4<a:=by omega
@[simp] theorem Qzo (a:Nat):(a:Int)≤4↔a≤4:=by omega
@[simp] theorem Qx2 (a:Nat):4≤(a:Int)↔4≤a:=by omega
@[simp] theorem Qz5 (a:Nat):(a:Int)=4↔a=4:=by omega
@[simp] theorem Qsq (a:Nat):(a:Int)+10=((a+10:Nat):Int):=by omega
@[simp] theorem Qq9 (a:Nat):10+(a:Int)=((10+a:Nat):Int):=by omega
@[simp] theorem Qsz (a:Nat):(a:Int)*10=((a*10:Nat):Int):=by omega
@[simp] theorem Qrb (a:Nat):10*(a:Int)=((10*a:Nat):Int):=by omega
@[simp] theorem Qrq (a:Nat):(a:Int) / 10=((a / 10:Nat):Int):=rfl
@[simp] theorem Qtn (a:Nat):(a:Int) % 10=((a % 10:Nat):Int):=rfl
@[simp] theorem Qq2 (a:Nat):Int.tdiv (a:Int) 10=((a / 10:Nat):Int):=rfl
@[simp] theorem Qp7 (a:Nat):Int.tmod (a:Int) 10=((a % 10:Nat):Int):=rfl
@[simp] theorem Qun (a:Nat):(a:Int)<10↔a<10:=by omega
@[simp] theorem Qwv (a:Nat):10<(a:Int)↔10<a:=by omega
@[simp] theorem Qvc (a:Nat):(a:Int)≤10↔a≤10:=by omega
@[simp] theorem Qwq (a:Nat):10≤(a:Int)↔10≤a:=by omega
@[simp] theorem Qw1 (a:Nat):(a:Int)=10↔a=10:=by omega
@[simp] theorem Qrl (a:Nat):(a:Int)+31=((a+31:Nat):Int):=by omega
@[simp] theorem Qsx (a:Nat):31+(a:Int)=((31+a:Nat):Int):=by omega
@[simp] theorem Qs4 (a:Nat):(a:Int)*31=((a*31:Nat):Int):=by omega
@[simp] theorem Qtm (a:Nat):31*(a:Int)=((31*a:Nat):Int):=by omega
@[simp] theorem Qrf (a:Nat):(a:Int) / 31=((a / 31:Nat):Int):=rfl
@[simp] theorem Qsk (a:Nat):(a:Int) % 31=((a % 31:Nat):Int):=rfl
@[simp] theorem Qpt (a:Nat):Int.tdiv (a:Int) 31=((a / 31:Nat):Int):=rfl
@[simp] theorem Qp6 (a:Nat):Int.tmod (a:Int) 31=((a % 31:Nat):Int):=rfl
@[simp] theorem Quf (a:Nat):(a:Int)<31↔a<31:=by omega
@[simp] theorem Que (a:Nat):31<(a:Int)↔31<a:=by omega
@[simp] theorem Qwy (a:Nat):(a:Int)≤31↔a≤31:=by omega
@[simp] theorem Qu9 (a:Nat):31≤(a:Int)↔31≤a:=by omega
@[simp] theorem Qus (a:Nat):(a:Int)=31↔a=31:=by omega
@[simp] theorem Qsi (a:Nat):(a:Int)+32=((a+32:Nat):Int):=by omega
@[simp] theorem Qtc (a:Nat):32+(a:Int)=((32+a:Nat):Int):=by omega
@[simp] theorem Qr3 (a:Nat):(a:Int)*32=((a*32:Nat):Int):=by omega
@[simp] theorem Qs0 (a:Nat):32*(a:Int)=((32*a:Nat):Int):=by omega
@[simp] theorem Qse (a:Nat):(a:Int) / 32=((a / 32:Nat):Int):=rfl
@[simp] theorem Qs1 (a:Nat):(a:Int) % 32=((a % 32:Nat):Int):=rfl
@[simp] theorem Qt7 (a:Nat):(a:Int)<32↔a<32:=by omega
@[simp] theorem Qu2 (a:Nat):32<(a:Int)↔32<a:=by omega
@[simp] theorem Qvf (a:Nat):(a:Int)≤32↔a≤32:=by omega
@[simp] theorem Qwi (a:Nat):32≤(a:Int)↔32≤a:=by omega
@[simp] theorem Qwd (a:Nat):(a:Int)=32↔a=32:=by omega
@[simp] theorem Qsn (a:Nat):(a:Int)+63=((a+63:Nat):Int):=by omega
@[simp] theorem Qrz (a:Nat):63+(a:Int)=((63+a:Nat):Int):=by omega
@[simp] theorem Qrr (a:Nat):(a:Int)*63=((a*63:Nat):Int):=by omega
@[simp] theorem Qrk (a:Nat):63*(a:Int)=((63*a:Nat):Int):=by omega
@[simp] theorem Qsl (a:Nat):(a:Int) / 63=((a / 63:Nat):Int):=rfl
@[simp] theorem Qso (a:Nat):(a:Int) % 63=((a % 63:Nat):Int):=rfl
@[simp] theorem Qpw (a:Nat):Int.tdiv (a:Int) 63=((a / 63:Nat):Int):=rfl
@[simp] theorem Qp8 (a:Nat):Int.tmod (a:Int) 63=((a % 63:Nat):Int):=rfl
@[simp] theorem Qwn (a:Nat):(a:Int)<63↔a<63:=by omega
@[simp] theorem Qv0 (a:Nat):63<(a:Int)↔63<a:=by omega
@[simp] theorem Qwr (a:Nat):(a:Int)≤63↔a≤63:=by omega
@[simp] theorem Qt2 (a:Nat):63≤(a:Int)↔63≤a:=by omega
@[simp] theorem Qvi (a:Nat):(a:Int)=63↔a=63:=by omega
@[simp] theorem Qsv (a:Nat):(a:Int)+64=((a+64:Nat):Int):=by omega
@[simp] theorem Qru (a:Nat):64+(a:Int)=((64+a:Nat):Int):=by omega
@[simp] theorem Qrt (a:Nat):(a:Int)*64=((a*64:Nat):Int):=by omega
@[simp] theorem Qs7 (a:Nat):64*(a:Int)=((64*a:Nat):Int):=by omega
@[simp] theorem Qsy (a:Nat):(a:Int) / 64=((a / 64:Nat):Int):=rfl
@[simp] theorem Qss (a:Nat):(a:Int) % 64=((a % 64:Nat):Int):=rfl
@[simp] theorem Qqx (a:Nat):Int.tdiv (a:Int) 64=((a / 64:Nat):Int):=rfl
@[simp] theorem Qo9 (a:Nat):Int.tmod (a:Int) 64=((a % 64:Nat):Int):=rfl
@[simp] theorem Qva (a:Nat):(a:Int)<64↔a<64:=by omega
@[simp] theorem Quh (a:Nat):64<(a:Int)↔64<a:=by omega
@[simp] theorem Qvt (a:Nat):(a:Int)≤64↔a≤64:=by omega
@[simp] theorem Quq (a:Nat):64≤(a:Int)↔64≤a:=by omega
@[simp] theorem Qu8 (a:Nat):(a:Int)=64↔a=64:=by omega
@[simp] theorem Qqk (a:Nat):(a:Int)+128=((a+128:Nat):Int):=by omega
@[simp] theorem Qqt (a:Nat):128+(a:Int)=((128+a:Nat):Int):=by omega
@[simp] theorem Qqh (a:Nat):(a:Int)*128=((a*128:Nat):Int):=by omega
@[simp] theorem Qqz (a:Nat):128*(a:Int)=((128*a:Nat):Int):=by omega
@[simp] theorem Qov (a:Nat):(a:Int) / 128=((a / 128:Nat):Int):=rfl
@[simp] theorem Qqn (a:Nat):(a:Int) % 128=((a % 128:Nat):Int):=rfl
@[simp] theorem Qoc (a:Nat):Int.tdiv (a:Int) 128=((a / 128:Nat):Int):=rfl
@[simp] theorem Qoa (a:Nat):Int.tmod (a:Int) 128=((a % 128:Nat):Int):=rfl
@[simp] theorem Qrg (a:Nat):(a:Int)<128↔a<128:=by omega
@[simp] theorem Qsj (a:Nat):128<(a:Int)↔128<a:=by omega
@[simp] theorem Qs3 (a:Nat):(a:Int)≤128↔a≤128:=by omega
@[simp] theorem Qr5 (a:Nat):128≤(a:Int)↔128≤a:=by omega
@[simp] theorem Qs9 (a:Nat):(a:Int)=128↔a=128:=by omega
@[simp] theorem Qd2 (a:Nat):(a:Int)+4294967295=((a+4294967295:Nat):Int):=by omega
@[simp] theorem Qdw (a:Nat):4294967295+(a:Int)=((4294967295+a:Nat):Int):=by omega
@[simp] theorem Qdy (a:Nat):(a:Int)*4294967295=((a*4294967295:Nat):Int):=by omega
@[simp] theorem Qd3 (a:Nat):4294967295*(a:Int)=((4294967295*a:Nat):Int):=by omega
@[simp] theorem Qdv (a:Nat):(a:Int) / 4294967295=((a / 4294967295:Nat):Int):=rfl
@[simp] theorem Qd4 (a:Nat):(a:Int) % 4294967295=((a % 4294967295:Nat):Int):=rfl
@[simp] theorem Qbh (a:Nat):Int.tdiv (a:Int) 4294967295=((a / 4294967295:Nat):Int):=rfl
@[simp] theorem Qbt (a:Nat):Int.tmod (a:Int) 4294967295=((a % 4294967295:Nat):Int):=rfl
@[simp] theorem Qek (a:Nat):(a:Int)<4294967295↔a<4294967295:=by omega
@[simp] theorem Qf7 (a:Nat):4294967295<(a:Int)↔4294967295<a:=by omega
@[simp] theorem Qfy (a:Nat):(a:Int)≤4294967295↔a≤4294967295:=by omega
@[simp] theorem Qge (a:Nat):4294967295≤(a:Int)↔4294967295≤a:=by omega
@[simp] theorem Qes (a:Nat):(a:Int)=4294967295↔a=4294967295:=by omega
@[simp] theorem Qd0 (a:Nat):(a:Int)+4294967296=((a+4294967296:Nat):Int):=by omega
@[simp] theorem Qdz (a:Nat):4294967296+(a:Int)=((4294967296+a:Nat):Int):=by omega
@[simp] theorem Qds (a:Nat):(a:Int)*4294967296=((a*4294967296:Nat):Int):=by omega
@[simp] theorem Qdu (a:Nat):4294967296*(a:Int)=((4294967296*a:Nat):Int):=by omega
@[simp] theorem Qd1 (a:Nat):(a:Int) / 4294967296=((a / 4294967296:Nat):Int):=rfl
@[simp] theorem Qdt (a:Nat):(a:Int) % 4294967296=((a % 4294967296:Nat):Int):=rfl
@[simp] theorem Qc5 (a:Nat):Int.tdiv (a:Int) 4294967296=((a / 4294967296:Nat):Int):=rfl
@[simp] theorem Qcj (a:Nat):Int.tmod (a:Int) 4294967296=((a % 4294967296:Nat):Int):=rfl
@[simp] theorem Qf9 (a:Nat):(a:Int)<4294967296↔a<4294967296:=by omega
@[simp] theorem Qf8 (a:Nat):4294967296<(a:Int)↔4294967296<a:=by omega
@[simp] theorem Qf2 (a:Nat):(a:Int)≤4294967296↔a≤4294967296:=by omega
@[simp] theorem Qfu (a:Nat):4294967296≤(a:Int)↔4294967296≤a:=by omega
@[simp] theorem Qf1 (a:Nat):(a:Int)=4294967296↔a=4294967296:=by omega
@[simp] theorem Sa (a:Nat):(a:Int)+18446744073709551616=((a+18446744073709551616:Nat):Int):=by omega
@[simp] theorem Sk (a:Nat):18446744073709551616+(a:Int)=((18446744073709551616+a:Nat):Int):=by omega
@[simp] theorem Sd (a:Nat):(a:Int)*18446744073709551616=((a*18446744073709551616:Nat):Int):=by omega
@[simp] theorem Sc (a:Nat):18446744073709551616*(a:Int)=((18446744073709551616*a:Nat):Int):=by omega
@[simp] theorem So (a:Nat):(a:Int) / 18446744073709551616=((a / 18446744073709551616:Nat):Int):=rfl
@[simp] theorem Sq (a:Nat):(a:Int) % 18446744073709551616=((a % 18446744073709551616:Nat):Int):=rfl
@[simp] theorem Q9 (a:Nat):Int.tdiv (a:Int) 18446744073709551616=((a / 18446744073709551616:Nat):Int):=rfl
@[simp] theorem Rw (a:Nat):Int.tmod (a:Int) 18446744073709551616=((a % 18446744073709551616:Nat):Int):=rfl
@[simp] theorem Tu (a:Nat):(a:Int)<18446744073709551616↔a<18446744073709551616:=by omega
@[simp] theorem Tq (a:Nat):18446744073709551616<(a:Int)↔18446744073709551616<a:=by omega
@[simp] theorem T2 (a:Nat):(a:Int)≤18446744073709551616↔a≤18446744073709551616:=by omega
@[simp] theorem Tr (a:Nat):18446744073709551616≤(a:Int)↔18446744073709551616≤a:=by omega
@[simp] theorem T4 (a:Nat):(a:Int)=18446744073709551616↔a=18446744073709551616:=by omega
attribute [simp] set_set Qq0 Qo7
end Go.Av
end
section
namespace Go.Av
open Go.Proofs
theorem Pr (x i:Nat) (hi:i<2^50) (lx:(Ap x).length<2^40):Ak Tryz.prog 114 [Ao (Ap x),.int .i64 i] Ac.emp fun v m=>v=.int .u32 ((x / 2^i % 2:Nat):Int)∧m=Ac.emp:=by
 refine Ad Tryz.func114 rfl rfl 19 rfl (Nat.le_of_ble_eq_true rfl) ?_;have hw:=Aq (i / 32) (by omega);(repeat refine AW.seq ?_);refine AW.rg ?_;simp[-Int.natCast_ediv,-Int.natCast_emod,-Int.natCast_pow,Al];(repeat refine AW.seq ?_);refine AW.rg ?_;simp[-Int.natCast_emod,-Int.natCast_ediv,hw];(repeat refine AW.seq ?_);refine AW.cs (fun h=>?_) (fun h=>?_) rfl<;>simp at h
 ·(repeat refine AW.seq ?_);refine AW.rg ?_;simp[-Int.natCast_emod,-Int.natCast_ediv];have:x / 2^i % 2=0:=by
   rw[←Qll,←Fp,Mx h];simp
  exact AW.ret (Af [.int .u32 0] rfl (by simp[-Int.natCast_ediv]) ⟨by rw[this];rfl,rfl⟩)
 ·refine AW.skip ?_;try simp[-Int.natCast_ediv,-Int.natCast_emod,-Int.natCast_pow]
  have hm:min (i % 32) 32=i % 32:=by omega
  (repeat refine AW.seq ?_);refine AW.rg ?_;simp[-Int.natCast_emod,-Int.natCast_ediv,hw,hm];have q:=(Bb x).nth (i / 32);refine⟨by omega,?_⟩;have e2:nth (Ap x) (i / 32) / 2^(i % 32)<4294967296:=Nat.lt_of_le_of_lt (Nat.div_le_self _ _) q;refine AW.ret (Ah rfl _ (.same _) ⟨?_,rfl⟩);have e3:=Qoz e2 (show 1<4294967296 by omega);have e4:nth (Ap x) (i / 32) / 2^(i % 32) &&& 1=x / 2^i % 2:=by rw[Nat.and_one_is_mod,Fp,Qll]
  rw[e4]at e3;simp[-Int.natCast_ediv,-Int.natCast_emod,-Int.natCast_pow]at e3 ⊢;exact e3
def Qg2 (y:Nat) (v:AV):Prop:=∃t,v=.tup [Ao (Ap y),.bool t]
theorem Qey (x n:Nat) (hn:n<2^50) (lx:(Ap x).length<2^40):Ak Tryz.prog 161 [Ao (Ap x),.int .i64 n] Ac.emp fun v m=>Qg2 (x / 2^n) v∧m=Ac.emp:=by
 refine Ad Tryz.func161 rfl rfl 100 rfl (Nat.le_of_ble_eq_true rfl) ?_;have hw:=Aq (n / 32) (by omega);have hx:=A5 x;have hb:=Bb x;have hnth:=Fp x;generalize ha:Ap x=a at *;have hx2:x<4294967296^a.length:=by rw[←hx];exact Lm hb
 (repeat refine AW.seq ?_);refine AW.rg ?_;simp[Al];(repeat refine AW.seq ?_);refine AW.rg ?_;simp[-Int.natCast_ediv,hw];(repeat refine AW.seq ?_);refine AW.cs (fun h=>?_) (fun h=>?_) rfl<;>simp at h
 ·(repeat refine AW.seq ?_);refine AW.rg ?_;simp[-Int.natCast_ediv];have:x / 2^n=0:=by
   have h3:=Ln hb h;rw[H3]at h3;have h4:2^(32*(n / 32))≤2^n:=Nat.pow_le_pow_right (by omega) (by omega);exact Nat.div_eq_of_lt (by omega)
  exact AW.ret (Af [Ao [],.bool (decide (0<a.length))] rfl (by simp[-Int.natCast_ediv]) ⟨⟨decide (0<a.length),by simp[this,Bg]⟩,rfl⟩)
 ·refine AW.skip ?_;try simp[-Int.natCast_ediv]
  (repeat refine AW.seq ?_);refine AW.rg ?_;simp[-Int.natCast_ediv];refine AW.seq_ex (ι:=Bool) (fun t=>[(0,Ao a),(1,.int .i64 n),(6,.bool t)]) (fun _=>Ac.emp) (fun _=>True) ?_ ?_
  ·(repeat refine AW.seq ?_);refine AW.rg ?_;simp[-Int.natCast_ediv];refine AW.block (AW.loopS (ι:=Nat × Bool) (fun x=>[(0,Ao a),(1,.int .i64 n),(6,.bool x.2),(7,.int .i64 x.1)]) (fun _=>Ac.emp) (fun x=>x.1≤n / 32) (fun x=>n / 32-x.1) (0,false) (by simp) rfl (by simp[-Int.natCast_ediv]) ?_);rintro⟨i,t⟩ h1;simp only at h1;simp only;have hw2:=Aq (i+1) (by omega);(repeat refine AW.seq ?_);refine AW.rg ?_;simp[-Int.natCast_ediv,hw];(repeat refine AW.seq ?_);refine AW.cs (fun h2=>?_) (fun h2=>?_) rfl<;>simp at h2
   ·refine AW.skip ?_;try simp[-Int.natCast_ediv]
    (repeat refine AW.seq ?_);refine AW.block ?_;cases t
    ·(repeat refine AW.seq ?_);refine AW.rg ?_;simp[-Int.natCast_ediv];refine⟨by omega,?_⟩;(repeat refine AW.seq ?_);refine AW.rg ?_;simp[-Int.natCast_add,-Int.natCast_ediv,hw2];refine⟨i+1,?_⟩;by_cases hz:nth a i=0<;>simp[-Int.natCast_add,hz]<;>omega
    ·(repeat refine AW.seq ?_);refine AW.rg ?_;simp[-Int.natCast_ediv];(repeat refine AW.seq ?_);refine AW.rg ?_;simp[-Int.natCast_add,-Int.natCast_ediv,hw2];exact⟨i+1,by omega,by omega,rfl⟩
   ·refine AW.exit ?_;try simp[-Int.natCast_ediv]
  ·rintro t -;have hw3:IntKind.i64.wrap ((a.length:Int)-((n / 32:Nat):Int))=((a.length-n / 32:Nat):Int):=by rw[Qc6 (by omega)];exact wi (by omega)
   (repeat refine AW.seq ?_);refine AW.rg ?_;simp[-Int.natCast_mul,-Int.natCast_ediv,hw,hw3];refine⟨by omega,Ae.intro fun bl _=>?_⟩;generalize hN:a.length-n / 32=N at *;refine AW.seq_ex (ι:=List Nat) (fun o=>[(0,Ao a),(1,.int .i64 n),(6,.bool t),(8,.osl bl 1 0 o.length)]) (fun o=>Ac.emp.set bl ⟨124,1,Bp o⟩) (fun o=>Lb o∧val o=x / 2^n∧o.length<2^41) ?_ ?_
   ·(repeat refine AW.seq ?_);refine AW.rg ?_;simp[-Int.natCast_ediv];refine AW.block (AW.loopS (ι:=Nat × List Nat) (fun x=>[(0,Ao a),(1,.int .i64 n),(6,.bool t),(8,.osl bl 1 0 N),(9,.int .i64 (x.1:Nat))]) (fun x=>Ac.emp.set bl ⟨124,1,Bp x.2⟩)
     (fun y=>y.1≤N∧Lb y.2∧y.2.length=N∧val (y.2.take y.1)=x / 2^n % 4294967296^y.1) (fun x=>N-x.1) (0,List.replicate N 0) ⟨by simp,Lb.rep _,by simp,by simp[val,Nat.mod_one]⟩ (by simp[C5]) (by simp[-Int.natCast_ediv]) ?_)
    rintro⟨i,o⟩ ⟨h1,h3,h4,h5⟩;simp only at h1 h3 h4 h5;simp only;(repeat refine AW.seq ?_);refine AW.rg ?_;simp;(repeat refine AW.seq ?_);refine AW.cs (fun hi=>?_) (fun hi=>?_) rfl<;>simp at hi
    ·refine AW.skip ?_;try simp
     have hw4:=Aq (i+n / 32) (by omega);have hw5:=Aq (i+n / 32+1) (by omega);have hw6:=Aq (i+1) (by omega);have q1:=hb.nth (i+n / 32);have q2:=hb.nth (i+n / 32+1);(repeat refine AW.seq ?_);refine AW.block ?_;(repeat refine AW.seq ?_);refine AW.rg ?_;simp[-Int.natCast_emod,-Int.natCast_add,-Int.natCast_ediv,hw,hw4];refine⟨by omega,?_⟩;refine AW.seq_has [(0,Ao a),(1,.int .i64 n),(6,.bool t),(8,.osl bl 1 0 N),(9,.int .i64 (i:Nat)),(10,.int .u64 ((nth a (i+n / 32)+nth a (i+n / 32+1)*4294967296:Nat):Int))] (Ac.emp.set bl ⟨124,1,Bp o⟩) ?_ ?_
     ·(repeat refine AW.seq ?_);refine AW.rg ?_;simp[-Int.natCast_add,-Int.natCast_ediv,-Int.natCast_emod,hw,hw4,hw5];(repeat refine AW.seq ?_);refine AW.cs (fun hl=>?_) (fun hl=>?_) rfl<;>simp at hl
      ·(repeat refine AW.seq ?_);refine AW.rg ?_;simp[-Int.natCast_mul,-Int.natCast_emod,-Int.natCast_add,-Int.natCast_ediv,hw,hw4,hw5];omega
      ·refine AW.skip ?_;try simp[-Int.natCast_emod,-Int.natCast_ediv,-Int.natCast_add,-Int.natCast_mul]
       simp[-Int.natCast_emod,Mx hl];omega
     ·have hm:min (n % 32) 64=n % 32:=by omega
      have e:(nth a (i+n / 32)+nth a (i+n / 32+1)*4294967296) / 2^(n % 32) % 4294967296=x / 2^n / 4294967296^i % 4294967296:=by rw[←Sg,hnth,hnth]
      (repeat refine AW.seq ?_);refine AW.rg ?_;simp[-Int.natCast_ediv,-Int.natCast_pow,-Int.natCast_emod,-Int.natCast_add,-Int.natCast_mul,hw,hm,hi,h4,e];(repeat refine AW.seq ?_);refine AW.rg ?_;simp[-Int.natCast_ediv,-Int.natCast_emod,-Int.natCast_pow,-Int.natCast_add,-Int.natCast_mul,hw6];refine⟨i+1,_,⟨by omega,h3.set i _ (Nat.mod_lt _ (by omega)),by simpa using h4,?_⟩,by omega,rfl,rfl⟩;rw[Bn _ _ _ (by omega),h5,Io]
    ·have hiN:i=N:=by omega
     refine AW.exit ?_;try simp
     refine⟨o,⟨h3,?_,by omega⟩,by simp[h4]⟩;rw[Ax o i (by omega)]at h5;rw[h5];apply Nat.mod_eq_of_lt;refine Nat.div_lt_of_lt_mul (Nat.lt_of_lt_of_le hx2 ?_);rw[H3,H3,←Nat.pow_add];exact Nat.pow_le_pow_right (by omega) (by omega)
   ·rintro o ⟨h1,h2,h3⟩;refine AW.toEmp [(0,Ao a),(1,.int .i64 n),(6,.bool t),(8,Ao o)] (by simp;exact De (e:=124) (by simp)) ?_;(repeat refine AW.seq ?_);refine AW.rg ?_;simp[-Int.natCast_emod,hw];cases t
    ·(repeat refine AW.seq ?_);refine AW.rd [0,2,1,3,4,5,6,7,8,9,10,11,12,13,14,15] Dm ?_;simp[-Int.natCast_emod];refine Aa.val (D3 o (by omega)) ?_;simp[-Int.natCast_ediv,-Int.natCast_emod,hw,h];refine AW.ret (Af [Ao (Ap (x / 2^n)),.bool _] rfl (by simp[-Int.natCast_ediv,-Int.natCast_emod,Ck h1,h2];exact .same _) ⟨⟨_,rfl⟩,rfl⟩)
    ·(repeat refine AW.seq ?_);refine AW.rd [0,2,1,3,4,5,6,7,8,9,10,11,12,13,14,15] Dm ?_;simp[-Int.natCast_emod];refine Aa.val (D3 o (by omega)) ?_;try simp[-Int.natCast_emod]
     refine AW.ret (Af [Ao (Ap (x / 2^n)),.bool _] rfl (by simp[-Int.natCast_emod,Ck h1,h2];exact .same _) ⟨⟨_,rfl⟩,rfl⟩)
theorem Wx (x:Nat) (hx:x≠0) (lx:(Ap x).length<2^40):Ak Tryz.prog 115 [Ao (Ap x)] Ac.emp fun v m=>(∃k,2^k ∣ x∧x / 2^k % 2=1∧v=Ao (Ap (x / 2^k)))∧m=Ac.emp:=by
 refine Ad Tryz.func115 rfl rfl 19 rfl (Nat.le_of_ble_eq_true rfl) ?_;have hlen:x<2^(32*(Ap x).length):=by rw[←H3];exact A8.1 (Nat.le_refl _)
 (repeat refine AW.seq ?_);refine AW.rg ?_;simp[Al];(repeat refine AW.seq ?_);refine AW.rg ?_;simp;refine AW.seq_ex (ι:=Nat) (fun k=>[(0,Ao (Ap x)),(3,.int .i64 k)]) (fun _=>Ac.emp) (fun k=>2^k ∣ x∧x / 2^k % 2=1) ?_ ?_
 ·refine AW.block (AW.loopS (ι:=Nat) (fun k=>[(0,Ao (Ap x)),(3,.int .i64 k)]) (fun _=>Ac.emp) (fun k=>2^k ∣ x) (fun k=>32*(Ap x).length-k) 0 (by simp) rfl (by simp) ?_);rintro k h1;have hk:k<32*(Ap x).length:=by
   rcases Nat.lt_or_ge k (32*(Ap x).length)with h|h
   ·exact h
   ·have h3:2^(32*(Ap x).length)≤2^k:=Nat.pow_le_pow_right (by omega) h;have h4:=Nat.le_of_dvd (by omega) h1;omega
  have hw2:=Aq (k+1) (by omega);(repeat refine AW.seq ?_);refine AW.rg ?_;simp;refine Aa.val (Pr x k (by omega) lx) ?_;simp[-Int.natCast_ediv,-Int.natCast_emod,-Int.natCast_pow];(repeat refine AW.seq ?_);refine AW.cs (fun h2=>?_) (fun h2=>?_) rfl<;>simp at h2
  ·refine AW.skip ?_;try simp[-Int.natCast_ediv,-Int.natCast_emod,-Int.natCast_pow]
   (repeat refine AW.seq ?_);refine AW.block ?_;(repeat refine AW.seq ?_);refine AW.rg ?_;simp[-Int.natCast_ediv,-Int.natCast_emod,-Int.natCast_pow,-Int.natCast_add,hw2];refine⟨k+1,?_,by omega,rfl⟩;rw[Nat.pow_succ];obtain⟨c,hc⟩:=h1;rw[hc,Nat.mul_div_cancel_left _ (Nat.pow_pos (by omega))]at h2;rw[hc];exact Nat.mul_dvd_mul_left _ (Nat.dvd_of_mod_eq_zero h2)
  ·refine AW.exit ?_;try simp[-Int.natCast_ediv,-Int.natCast_emod,-Int.natCast_pow]
   exact⟨k,⟨h1,by omega⟩,rfl⟩
 ·rintro k ⟨h1,h2⟩;have hk:k<32*(Ap x).length:=by
   rcases Nat.lt_or_ge k (32*(Ap x).length)with h|h
   ·exact h
   ·have h3:2^(32*(Ap x).length)≤2^k:=Nat.pow_le_pow_right (by omega) h;have h4:=Nat.le_of_dvd (by omega) h1;omega
  (repeat refine AW.seq ?_);refine AW.rg ?_;simp;refine Aa.pure (Qey x k (by omega) lx) ?_;rintro v ⟨t,rfl⟩;simp;(repeat refine AW.seq ?_);refine AW.rg ?_;simp;exact AW.ret (Vq [Ao (Ap (x / 2^k))] rfl (by simp) ⟨⟨k,h1,h2,rfl⟩,rfl⟩)
end Go.Av
end
section
namespace Go.Av
open Go.Proofs
theorem Qim (x n:Nat) (hn:n<2^40) (lx:(Ap x).length<2^40):Ak Tryz.prog 118 [Ao (Ap x),.int .i64 n] Ac.emp fun v m=>v=Ao (Ap (x*2^n))∧m=Ac.emp:=by
 refine Ad Tryz.func118 rfl rfl 57 rfl (Nat.le_of_ble_eq_true rfl) ?_;have hw:=Aq (n / 32) (by omega);have hx:=A5 x;have hb:=Bb x;have hnth:=Fp x;generalize ha:Ap x=a at *;have hx2:x<4294967296^a.length:=by rw[←hx];exact Lm hb
 have hw1:=Aq (a.length+n / 32) (by omega);have hw3:=Aq (a.length+n / 32+1) (by omega);(repeat refine AW.seq ?_);refine AW.rg ?_;simp[Al];(repeat refine AW.seq ?_);refine AW.rg ?_;simp[-Int.natCast_mul,-Int.natCast_add,-Int.natCast_ediv,hw,hw1,hw3];refine⟨by omega,Ae.intro fun bl _=>?_⟩;generalize hN:a.length+n / 32+1=N at *;have hpow:2^(n % 32)*2^(32-n % 32)=4294967296:=by rw[←Nat.pow_add,show n % 32+(32-n % 32)=32 by omega]
 have hr:n % 32<32:=Nat.mod_lt _ (by omega);have hn2:2^n=4294967296^(n / 32)*2^(n % 32):=by rw[H3,←Nat.pow_add,Nat.div_add_mod]
 refine AW.seq_ex (ι:=List Nat) (fun o=>[(5,.osl bl 1 0 o.length)]) (fun o=>Ac.emp.set bl ⟨124,1,Bp o⟩) (fun o=>Lb o∧val o=x*2^n∧o.length<2^42) ?_ ?_
 ·(repeat refine AW.seq ?_);refine AW.rg ?_;simp[-Int.natCast_add,-Int.natCast_ediv];refine AW.block (AW.loopS (ι:=Nat × List Nat) (fun x=>[(0,Ao a),(1,.int .i64 n),(5,.osl bl 1 0 N),(6,.int .i64 (x.1:Nat))]) (fun x=>Ac.emp.set bl ⟨124,1,Bp x.2⟩)
   (fun y=>y.1≤a.length∧Lb y.2∧y.2.length=N∧nth y.2 (y.1+n / 32)<2^(n % 32)∧val (y.2.take (y.1+n / 32+1))=x % 4294967296^y.1*2^n) (fun y=>a.length-y.1) (0,List.replicate N 0) ⟨by simp,Lb.rep _,by simp,by simp[Nat.pow_pos],by simp[Lu,Nat.mod_one]⟩ (by simp[C5]) (by simp[-Int.natCast_add,-Int.natCast_ediv]) ?_)
  rintro⟨i,o⟩ ⟨h1,h3,h4,h6,h5⟩;simp only at h1 h3 h4 h5 h6;simp only;(repeat refine AW.seq ?_);refine AW.rg ?_;simp;(repeat refine AW.seq ?_);refine AW.cs (fun hi=>?_) (fun hi=>?_) rfl<;>simp at hi
  ·refine AW.skip ?_;try simp
   have hw4:=Aq (i+n / 32) (by omega);have hw5:=Aq (i+n / 32+1) (by omega);have hw6:=Aq (i+1) (by omega);have hm:min (n % 32) 64=n % 32:=by omega
   have q1:=hb.nth i;have q2:=h3.nth (i+n / 32);(repeat refine AW.seq ?_);refine AW.block ?_;generalize hd:nth a i=d at *;have q3:d*2^(n % 32)<18446744073709551616:=by
    have:2^(n % 32)≤2^32:=Nat.pow_le_pow_right (by omega) (by omega)
    calc d*2^(n % 32)≤d*2^32:=Nat.mul_le_mul_left _ this
     _<18446744073709551616:=by omega
   have q4:d*2^(n % 32) % 18446744073709551616=d*2^(n % 32):=Nat.mod_eq_of_lt q3;(repeat refine AW.seq ?_);refine AW.rg ?_;simp[-Int.natCast_mul,-Int.natCast_pow,-Int.natCast_emod,hi,hd,hm,q4];have q5:G9 .or .u32 (nth o (i+n / 32):Int) ((d*2^(n % 32) % 4294967296:Nat):Int)=((nth o (i+n / 32)+d*2^(n % 32) % 4294967296:Nat):Int):=by
    rw[Qmu q2 (Nat.mod_lt _ (by omega)),Qae (by omega) h6]
   have q6:i+n / 32<N:=by omega
   have q7:i+n / 32+1<N:=by omega
   (repeat refine AW.seq ?_);refine AW.rg ?_;simp[-Int.natCast_add,-Int.natCast_ediv,-Int.natCast_emod,-Int.natCast_mul,-Int.natCast_pow,hw,hw4,h4,q6,q5];(repeat refine AW.seq ?_);refine AW.rg ?_;simp[-Int.natCast_ediv,-Int.natCast_add,-Int.natCast_emod,-Int.natCast_mul,-Int.natCast_pow,hw,hw4,hw5,h4,q7];have q8:d*2^(n % 32) / 4294967296<2^(n % 32):=by
    refine Nat.div_lt_of_lt_mul ?_;exact Nat.mul_lt_mul_of_pos_right q1 (Nat.pow_pos (n:=n % 32) (show 0<2 by omega))
   have q9:nth o (i+n / 32)+d*2^(n % 32) % 4294967296<4294967296:=by
    rw[←Qae (show n % 32≤32 by omega) h6];exact Nat.or_lt_two_pow (n:=32) q2 (Nat.mod_lt _ (by omega))
   (repeat refine AW.seq ?_);refine AW.rg ?_;simp[-Int.natCast_add,-Int.natCast_ediv,-Int.natCast_emod,-Int.natCast_mul,-Int.natCast_pow,hw6];refine⟨i+1,_,⟨by omega,(h3.set _ _ q9).set _ _ (Nat.mod_lt _ (by omega)),by simpa using h4,?_,?_⟩,by omega,rfl,rfl⟩
   ·rw[show i+1+n / 32=i+n / 32+1 by omega,Ov _ (by rw[List.length_set];omega)];exact Nat.lt_of_le_of_lt (Nat.mod_le _ _) q8
   ·have q10:d*2^(n % 32) / 4294967296<4294967296:=Nat.lt_of_lt_of_le q8 (Nat.pow_le_pow_right (n:=2) (by omega) (show n % 32≤32 by omega));rw[show i+1+n / 32=i+n / 32+1 by omega,Bn _ _ _ (by rw[List.length_set];omega),Bn _ _ _ (by omega),Nat.mod_eq_of_lt q10];rw[A1]at h5;have c:=F9 (4294967296^(i+n / 32)) (d*2^(n % 32));rw[Io,←hnth,hd,Nat.add_mul,←h5,Nat.mul_add,Nat.pow_succ];have e:4294967296^i*d*2^n=4294967296^(i+n / 32)*(d*2^(n % 32)):=by
     rw[hn2,Nat.pow_add]
     ac_rfl
    rw[e,←c];omega
  ·refine AW.exit ?_;try simp
   refine⟨o,⟨h3,?_,by omega⟩,by simp[h4]⟩;have:i=a.length:=by omega
   subst this;rw[Ax o _ (by omega)]at h5;rw[h5,Nat.mod_eq_of_lt hx2]
 ·rintro o ⟨h1,h2,h3⟩;refine AW.toEmp [(5,Ao o)] (by simp;exact De (e:=124) (by simp)) ?_;(repeat refine AW.seq ?_);refine AW.rg ?_;simp;refine Aa.val (D3 o (by omega)) ?_;try simp
  exact AW.ret (Ah rfl _ (.same _) ⟨by simp[Ck h1,h2],rfl⟩)
end Go.Av
end
section
namespace Go.Av
open Go.Proofs
def Fs (neg:Bool) (l:List Nat):Bool:=if 128<l.length then false else if l.length=0 then !neg else decide (nth l (l.length-1)≠0)
def Er (neg:Bool) (l:List Nat):AV:=.agg [.bool neg,Ao l]
def Ay (z:Int):AV:=.agg [.bool (decide (z<0)),Ao (Ap z.natAbs)]
def Bj:Nat:=4294967296^128
def fz (z:Int):Int:=if z.natAbs<Bj then z else 0
def fe (z:Int):Int:=if z.natAbs<Bj then 0 else 2
def Bx (z:Int):AV:=.tup [Ay (fz z),.int .i64 (fe z)]
theorem Dl (z:Int):Bx z=.tup [.agg [.bool (decide (fz z<0)),Ao (Ap (fz z).natAbs)],.int .i64 (fe z)]:=rfl
theorem Qsu (z:Int):(fz z).natAbs<Bj:=by
 unfold fz;split
 ·assumption
 ·decide
theorem Ti {z:Int} (h:z.natAbs<Bj):fz z=z:=if_pos h
theorem S0 {z:Int} (h:z.natAbs<Bj):fe z=0:=if_pos h
theorem Dh {n c t b:Nat} {L:List (Nat × AV)} {m:Ac} {R:AV→Ac→Prop} {x y e:AV} (x' y':AV) (hc:look L c=.ptr b 2 0 0) (he:look L t=e) (hm:m b=some ⟨42,2,[.agg [x,y]]⟩) (hn:(Nat.blt c n&&Nat.blt t n)=true)
  (hv:Eo m Ac.emp [x,y] [x',y']) (hR:R (.tup [.agg [x',y'],e]) Ac.emp):Q3 Tryz.prog [.cell c 42,.tmp t] R .ret (S n L m):=by
 rw[Bool.and_eq_true]at hn;refine Af (vs:=[.agg [x,y],e]) [.agg [x',y'],e] ?_ ?_ hR
 ·simp only[Py,Sp,Td,Uz,hn.1,hn.2,if_true,hc,he,Q3y,Option.bind_some,Ww,hm];simp
 ·simp only[Na,Ol,and_true,Ek,V8]at hv ⊢;exact hv
theorem Hm (neg:Bool) (l:List Nat):Ak Tryz.prog 77 [Er neg l] Ac.emp fun v m=>v=.bool (Fs neg l)∧m=Ac.emp:=by
 refine Ad Tryz.func77 rfl rfl 23 rfl (Nat.le_of_ble_eq_true rfl) ?_;(repeat refine AW.seq ?_);refine AW.rgR [1] ?_;simp[Al,Er];(repeat refine AW.seq ?_);refine AW.rg ?_;simp;(repeat refine AW.seq ?_);refine AW.cs (fun h=>?_) (fun h=>?_) rfl<;>simp at h
 ·(repeat refine AW.seq ?_);refine AW.rg ?_;simp;exact AW.ret (Ah rfl _ (.same _) ⟨by simp[Fs,h],rfl⟩)
 ·refine AW.skip ?_;try simp
  (repeat refine AW.seq ?_);refine AW.rg ?_;simp;(repeat refine AW.seq ?_);refine AW.cs (fun h2=>?_) (fun h2=>?_) rfl<;>simp at h2
  ·(repeat refine AW.seq ?_);refine AW.rg ?_;simp;exact AW.ret (Ah rfl _ (.same _) ⟨by simp[Fs,h2],rfl⟩)
  ·refine AW.skip ?_;try simp
   have hl:0<l.length:=by
    rcases l with _|_
    ·simp at h2
    ·simp
   have hw:IntKind.i64.wrap ((l.length:Int)-1)=((l.length-1:Nat):Int):=by rw[Pk (by omega)];omega
   (repeat refine AW.seq ?_);refine AW.rg ?_;simp[hw];refine⟨by omega,?_⟩;exact AW.ret (Ah rfl _ (.same _) ⟨by simp[Fs,show ¬128<l.length by omega,h2],rfl⟩)
theorem Ev (neg:Bool) (l:List Nat) (hb:Lb l) (hl:l.length<2^40):Ak Tryz.prog 112 [.bool neg,Ao l] Ac.emp fun v m=>v=Bx (if neg=true then -(val l:Int) else val l)∧m=Ac.emp:=by
 refine Ad Tryz.func112 rfl rfl 22 rfl (Nat.le_of_ble_eq_true rfl) ?_;(repeat refine AW.seq ?_);refine AW.rg ?_;simp[Al];refine Ae.intro fun b4 _=>?_;(repeat refine AW.seq ?_);refine AW.rg ?_;simp;refine Aa.val (D3 l (by omega)) ?_;simp[Ck hb];have hlen:=A8 (n:=val l) (k:=128);generalize hn:val l=n at *;(repeat refine AW.seq ?_);refine AW.rg ?_;simp;(repeat refine AW.seq ?_);refine AW.cs (fun h=>?_) (fun h=>?_) rfl<;>simp at h
 ·(repeat refine AW.seq ?_);refine AW.rg ?_;simp;have:¬n<Bj:=fun h'=>by have:=hlen.2 h';omega
  refine AW.ret (Af (vs:=[.agg [.bool false,.nil],.int .i64 2]) [Ay 0,.int .i64 2] (by simp) (by simp[Ay,Bg]) ⟨?_,rfl⟩);cases neg<;>simp[Bx,fz,fe,this]
 ·refine AW.skip ?_;try simp
  have hn':n<Bj:=hlen.1 h;have key:∀(t:Bool) (z:Int),z.natAbs=n→t=decide (z<0)→∀(b b':Nat) (m:Ac),b4≠b→b4≠b'→m b4=some ⟨42,2,[.agg [.bool t,.osl b' 1 0 (Ap n).length]]⟩→m b'=some ⟨124,1,Bp (Ap n)⟩→∀L,look L 4=.ptr b4 2 0 0→look L 5=.int .i64 0 →
    AW Tryz.prog .ret (Q3 Tryz.prog [.cell 4 42,.tmp 5] fun v m=>v=Bx z∧m=Ac.emp) (S 22 L m):=by
   intro t z hz ht b b' m e1 e2 e3 e4 L e5 e6;refine AW.ret (Af (vs:=[.agg [.bool t,.osl b' 1 0 (Ap n).length],.int .i64 0]) [Ay z,.int .i64 0] (by simp[e5,e6,e3]) ?_ ⟨?_,rfl⟩)
   ·simp only[Na,Ol,and_true,Ek,Ay,V8,ht,hz];exact⟨trivial,De e4⟩
   ·simp[Bx,fz,fe,hz,hn']
  (repeat refine AW.seq ?_);refine AW.rg ?_;have hr:=Qou (Ap n);simp only[List.all_eq_true]at hr;by_cases h0:n=0
  ·subst h0;cases neg<;>simp[Bg]
   all_goals
    refine Ae.intro fun b hb=>?_;have e1:b4≠b:=by rintro rfl;simp at hb
    refine Ae.intro fun b' hb'=>?_;have e2:b4≠b':=by rintro rfl;simp[e1]at hb'
    simp[e1,e2];exact key false 0 rfl rfl b b' _ e1 e2 (by simp[Bg]) (by simp[Ne.symm e2,Bg]) _ (by simp) (by simp)
  ·have h1:0<(Ap n).length:=by
    rcases hd:Ap n with _|_
    ·exact absurd (Cw.1 hd) h0
    ·simp
   have h2:decide (-(n:Int)<0)=true:=by simp;omega
   have h3:decide ((n:Int)<0)=false:=by simp
   cases neg<;>simp
   ·refine Ae.intro fun b hb=>?_;have e1:b4≠b:=by rintro rfl;simp at hb
    simp[e1];refine⟨by omega,by unfold maxLen;omega,Ae.intro fun b' hb'=>?_⟩;have e2:b4≠b':=by rintro rfl;simp[e1]at hb'
    simp[e2];exact key false n (by simp) h3.symm b b' _ e1 e2 (by simp) (by simp[Ne.symm e2]) _ (by simp) (by simp)
   ·refine Ae.intro fun b hb=>?_;have e1:b4≠b:=by rintro rfl;simp at hb
    simp[e1];refine⟨by omega,by unfold maxLen;omega,Ae.intro fun b' hb'=>?_⟩;have e2:b4≠b':=by rintro rfl;simp[e1]at hb'
    simp[e2];exact key true (-n) (by simp) h2.symm b b' _ e1 e2 (by simp[h1]) (by simp[Ne.symm e2]) _ (by simp) (by simp)
end Go.Av
end
section
namespace Go.Av
theorem Qah {k n:Nat} (h:n % 2=1):Nat.Coprime (2^k) n:=by
 apply Nat.Coprime.pow_left;rw[Nat.coprime_iff_gcd_eq_one];have h1:Nat.gcd 2 n ∣ 2:=Nat.gcd_dvd_left 2 n;have h2:Nat.gcd 2 n ∣ n:=Nat.gcd_dvd_right 2 n;have h3:Nat.gcd 2 n≤2:=Nat.le_of_dvd (by omega) h1;have h4:Nat.gcd 2 n≠0:=fun e=>by rw[e]at h1;simp at h1
 have h5:Nat.gcd 2 n≠2:=fun e=>by rw[e]at h2;omega
 omega
theorem Qpl {x k y:Nat} (h:2^k ∣ x) (hy:y % 2=1):Nat.gcd (x / 2^k) y=Nat.gcd x y:=by
 obtain⟨c,rfl⟩:=h;rw[Nat.mul_div_cancel_left _ (Nat.pow_pos (by omega)),Nat.Coprime.gcd_mul_left_cancel _ (Qah hy)]
theorem Qkx {x y k i j:Nat} (hx:2^k ∣ x) (hy:2^k ∣ y) (ho:x / 2^k % 2=1∨y / 2^k % 2=1) (hi:2^i ∣ x) (hio:x / 2^i % 2=1) (hj:2^j ∣ y) (hjo:y / 2^j % 2=1) :
  Nat.gcd x y=Nat.gcd (x / 2^i) (y / 2^j)*2^k:=by
 have hp:0<2^k:=Nat.pow_pos (by omega);have pi:0<2^i:=Nat.pow_pos (by omega);have pj:0<2^j:=Nat.pow_pos (by omega);have uniq:∀{z a b:Nat},2^a ∣ z→z / 2^a % 2=1→2^b ∣ z→b≤a:=by
  intro z a b h1 h2 h3;rcases Nat.lt_or_ge a b with h | h
  ·exfalso
   obtain⟨c,rfl⟩:=h3;have e:2^b=2^a*(2*2^(b-a-1)):=by
    rw[←Nat.pow_succ',←Nat.pow_add];congr 1;omega
   rw[e,Nat.mul_assoc,Nat.mul_div_cancel_left _ (Nat.pow_pos (by omega)),Nat.mul_assoc,Nat.mul_mod_right]at h2;omega
  ·exact h
 have hki:=uniq hi hio hx;have hkj:=uniq hj hjo hy;obtain⟨a,ha⟩:=hi;obtain⟨b,hb⟩:=hj;have ea:x / 2^i=a:=by rw[ha,Nat.mul_div_cancel_left _ pi]
 have eb:y / 2^j=b:=by rw[hb,Nat.mul_div_cancel_left _ pj]
 rw[ea]at hio;rw[eb]at hjo;rw[ea,eb];have hx':x=2^k*(2^(i-k)*a):=by rw[ha,←Nat.mul_assoc,←Nat.pow_add];congr 2;omega
 have hy':y=2^k*(2^(j-k)*b):=by rw[hb,←Nat.mul_assoc,←Nat.pow_add];congr 2;omega
 rw[hx',hy',Nat.gcd_mul_left,Nat.mul_comm]
 congr 1
 rcases ho with ho|ho
 ·have hxx:x / 2^k=2^(i-k)*a:=by rw[hx',Nat.mul_div_cancel_left _ hp]
  have hik:i-k=0:=by
   rcases Nat.eq_zero_or_pos (i-k)with h|h
   ·exact h
   ·obtain⟨m,hm⟩:∃m,i-k=m+1:=⟨i-k-1,by omega⟩;rw[hxx,hm,Nat.pow_succ,Nat.mul_comm (2^m),Nat.mul_assoc,Nat.mul_mod_right]at ho;omega
  rw[hik,Nat.pow_zero,Nat.one_mul,Nat.gcd_comm,Nat.Coprime.gcd_mul_left_cancel _ (Qah hio),Nat.gcd_comm]
 ·have hyy:y / 2^k=2^(j-k)*b:=by rw[hy',Nat.mul_div_cancel_left _ hp]
  have hik:j-k=0:=by
   rcases Nat.eq_zero_or_pos (j-k)with h|h
   ·exact h
   ·obtain⟨m,hm⟩:∃m,j-k=m+1:=⟨j-k-1,by omega⟩;rw[hyy,hm,Nat.pow_succ,Nat.mul_comm (2^m),Nat.mul_assoc,Nat.mul_mod_right]at ho;omega
  rw[hik,Nat.pow_zero,Nat.one_mul,Nat.Coprime.gcd_mul_left_cancel _ (Qah hjo)]
theorem Qpm {x y:Nat} (h:y≤x):Nat.gcd (x-y) y=Nat.gcd x y:=by
 have e:x=(x-y)+y:=by omega
 generalize x-y=d at e;subst e;rw[Nat.gcd_add_self_left]
end Go.Av
end
section
namespace Go.Av
open Go.Proofs
theorem Bi {n:Nat} (h:n<Bj):(Ap n).length≤128:=A8.2 h
theorem Fh {z:Int} (h:z.natAbs<Bj):Fs (decide (z<0)) (Ap z.natAbs)=true:=by
 have h1:=Bi h;unfold Fs;rw[if_neg (by omega)];split
 ·rename_i h2
  have:=Cw.1 (List.eq_nil_of_length_eq_zero h2);simp;omega
 ·rename_i h2
  rcases List.eq_nil_or_concat (Ap z.natAbs)with h3|⟨l,x,h3⟩
  ·rw[h3]at h2;exact absurd rfl h2
  ·rw[List.concat_eq_append]at h3;have h4:=Qn3 _ l x h3;rw[h3];simp[nth,h4]
theorem Qlz {x y:Nat}:Hn x y=0↔x=y:=by unfold Hn;split<;>(try split)<;>omega
theorem Rt {x y:Nat}:Hn x y<0↔x<y:=by unfold Hn;split<;>(try split)<;>omega
theorem Y4 (x y:Int) (hx:x.natAbs<Bj) (hy:y.natAbs<Bj):Ak Tryz.prog 79 [Ay x,Ay y] Ac.emp fun v m=>v=.tup [Ay (Nat.gcd x.natAbs y.natAbs:Nat),.int .i64 0]∧m=Ac.emp:=by
 refine Ad Tryz.func79 rfl rfl 78 rfl (Nat.le_of_ble_eq_true rfl) ?_;have vx:=Hm (decide (x<0)) (Ap x.natAbs);have vy:=Hm (decide (y<0)) (Ap y.natAbs);rw[Fh hx]at vx;rw[Fh hy]at vy;have lx:=Bi hx;have ly:=Bi hy;have bx:=A5 x.natAbs;have hg:Nat.gcd x.natAbs y.natAbs<Bj:=by
  rcases Nat.eq_zero_or_pos x.natAbs with h|h
  ·rw[h,Nat.gcd_zero_left];exact hy
  ·exact Nat.lt_of_le_of_lt (Nat.le_of_dvd h (Nat.gcd_dvd_left _ _)) hx
 (repeat refine AW.seq ?_);refine AW.rgR [2,3] ?_;simp[Al,Ay];refine Ae.intro fun b4 _=>?_;generalize ha:Ap x.natAbs=a at *;generalize hb:Ap y.natAbs=b at *;(repeat refine AW.seq ?_);refine AW.rg ?_;simp;refine Aa.val vx ?_;try simp
 refine Aa.val vy ?_;simp;refine AW.no ?_ rfl;refine AW.skip ?_;try simp
 (repeat refine AW.seq ?_);refine AW.rg ?_;simp;refine Ae.intro fun b6 h6=>?_;have e46:b4≠b6:=by rintro rfl;simp at h6
 refine⟨by omega,by unfold maxLen;omega,Ae.intro fun b6' h6'=>?_⟩;have e46':b4≠b6':=by rintro rfl;simp[e46]at h6'
 refine AW.turn [(4,.ptr b4 2 0 0),(5,.int .i64 0),(6,Ao a),(3,.rptr [.bool (decide (y<0)),Ao b])] (Ac.emp.set b4 ⟨42,2,[.agg [.bool false,.nil]]⟩) (Bm.one (by simp[e46,e46']) (by simp)) ?_ ?_
 ·simp;exact Fk (e:=124) (by simp) (by simp[Ne.symm e46'])
 (repeat refine AW.seq ?_);refine AW.rg ?_;simp;refine Ae.intro fun b6 h6=>?_;have e46:b4≠b6:=by rintro rfl;simp at h6
 refine⟨by omega,by unfold maxLen;omega,Ae.intro fun b6' h6'=>?_⟩;have e46':b4≠b6':=by rintro rfl;simp[e46]at h6'
 refine AW.turn [(4,.ptr b4 2 0 0),(5,.int .i64 0),(6,Ao a),(7,Ao b)] (Ac.emp.set b4 ⟨42,2,[.agg [.bool false,.nil]]⟩) (Bm.one (by simp[e46,e46']) (by simp)) ?_ ?_
 ·simp;exact Fk (e:=124) (by simp) (by simp[Ne.symm e46'])
 have key:∀(g:Nat),g<Bj→∀L,look L 4=.ptr b4 2 0 0→look L 5=.int .i64 0→Q3 Tryz.prog [.cell 4 42,.tmp 5] (fun v m=>v=.tup [Ay (g:Nat),.int .i64 0]∧m=Ac.emp) .ret (S 78 L (Ac.emp.set b4 ⟨42,2,[Ay (g:Nat)]⟩)):=by
  intro g hg L e4 e5;exact Af (vs:=[Ay (g:Nat),.int .i64 0]) [Ay (g:Nat),.int .i64 0] (by simp[e4,e5,Ay]) (by simp) ⟨rfl,rfl⟩
 have la:(Ap x.natAbs).length≤128:=by rw[ha];exact lx
 have lb:(Ap y.natAbs).length≤128:=by rw[hb];exact ly
 (repeat refine AW.seq ?_);refine AW.rg ?_;have e0:Bx (if false=true then -(val (Ap (Nat.gcd x.natAbs y.natAbs)):Int) else val (Ap (Nat.gcd x.natAbs y.natAbs)))=.tup [Ay (Nat.gcd x.natAbs y.natAbs:Nat),.int .i64 0]:=by
  simp[Bx,fz,fe,A5,hg]
 have l6:=Bi hg;have hLb:Lb a:=by rw[←ha];exact Bb _
 have hLb':Lb b:=by rw[←hb];exact Bb _
 have by':val b=y.natAbs:=by rw[←hb,A5]
 by_cases hx0:x.natAbs=0
 ·have h1:a.length=0:=by rw[←ha,hx0,Bg];rfl
  simp[h1];refine AW.yes ?_ rfl;have h2:val a+val b=Nat.gcd x.natAbs y.natAbs:=by rw[bx,by',hx0,Nat.gcd_zero_left];omega
  (repeat refine AW.seq ?_);refine AW.rg ?_;simp;refine Aa.val (Ku a b hLb hLb' (by omega) (by omega)) ?_;rw[h2];try simp
  refine Aa.val (Ev false _ (Bb _) (by omega)) ?_;rw[e0];simp[Ay];refine AW.ret (key _ hg _ ?_ ?_)<;>rfl
 by_cases hy0:y.natAbs=0
 ·have h1:b.length=0:=by rw[←hb,hy0,Bg];rfl
  have h1':a≠[]:=fun h=>hx0 (Cw.1 (by rw[ha,h]));simp[h1,h1'];refine AW.yes ?_ rfl;have h2:val a+val b=Nat.gcd x.natAbs y.natAbs:=by rw[bx,by',hy0,Nat.gcd_zero_right];omega
  (repeat refine AW.seq ?_);refine AW.rg ?_;simp;refine Aa.val (Ku a b hLb hLb' (by omega) (by omega)) ?_;rw[h2];try simp
  refine Aa.val (Ev false _ (Bb _) (by omega)) ?_;rw[e0];simp[Ay];refine AW.ret (key _ hg _ ?_ ?_)<;>rfl
 have pa:a≠[]:=fun h=>hx0 (Cw.1 (by rw[ha,h]));have pb:b≠[]:=fun h=>hy0 (Cw.1 (by rw[hb,h]));simp[pa,pb];refine AW.no ?_ rfl;refine AW.skip ?_;try simp
 rw[←ha,←hb];generalize x.natAbs=x at *;generalize y.natAbs=y at *;(repeat refine AW.seq ?_);refine AW.rg ?_;simp;refine AW.seq_ex (ι:=Nat) (fun k=>[(4,.ptr b4 2 0 0),(6,Ao (Ap x)),(7,Ao (Ap y)),(8,.int .i64 k)]) (fun _=>Ac.emp.set b4 ⟨42,2,[.agg [.bool false,.nil]]⟩) (fun k=>k<4096∧2^k ∣ x∧2^k ∣ y∧(x / 2^k % 2=1∨y / 2^k % 2=1)) ?_ ?_
 ·refine AW.block (AW.loopS (ι:=Nat) (fun k=>[(4,.ptr b4 2 0 0),(6,Ao (Ap x)),(7,Ao (Ap y)),(8,.int .i64 k)]) (fun _=>Ac.emp.set b4 ⟨42,2,[.agg [.bool false,.nil]]⟩) (fun k=>2^k ∣ x∧2^k ∣ y) (fun k=>4096-k) 0 (by simp) rfl (by simp) ?_);rintro k ⟨h1,h2⟩;have hk:k<4096:=by
   obtain⟨K,hK1,hK2⟩:∃K,K=4096∧x<2^K:=⟨32*128,rfl,by rw[←H3];exact hx⟩;rcases Nat.lt_or_ge k K with h|h
   ·omega
   ·have h3:2^K≤2^k:=Nat.pow_le_pow_right (by omega) h;have h4:=Nat.le_of_dvd (by omega) h1;omega
  have hw2:=Aq (k+1) (by omega);have step:∀{z:Nat},2^k ∣ z→z / 2^k % 2=0→2^(k+1) ∣ z:=by
   intro z h3 h4;rw[Nat.pow_succ];obtain⟨c,hc⟩:=h3;rw[hc,Nat.mul_div_cancel_left _ (Nat.pow_pos (by omega))]at h4;rw[hc];exact Nat.mul_dvd_mul_left _ (Nat.dvd_of_mod_eq_zero h4)
  (repeat refine AW.seq ?_);refine AW.rg ?_;simp;refine Aa.val (Pr x k (by omega) (by omega)) ?_;try simp[-Int.natCast_ediv,-Int.natCast_emod,-Int.natCast_pow]
  by_cases c1:x / 2^k % 2=0
  ·simp[c1];refine Aa.val (Pr y k (by omega) (by omega)) ?_;try simp[-Int.natCast_ediv,-Int.natCast_emod,-Int.natCast_pow]
   (repeat refine AW.seq ?_);refine AW.cs (fun c2=>?_) (fun c2=>?_) rfl<;>simp at c2
   ·refine AW.skip ?_;try simp[-Int.natCast_ediv,-Int.natCast_emod,-Int.natCast_pow]
    (repeat refine AW.seq ?_);refine AW.block ?_;(repeat refine AW.seq ?_);refine AW.rg ?_;simp[-Int.natCast_ediv,-Int.natCast_emod,-Int.natCast_pow,-Int.natCast_add,hw2];exact⟨k+1,⟨step h1 c1,step h2 c2⟩,by omega,rfl⟩
   ·refine AW.exit ?_;try simp[-Int.natCast_ediv,-Int.natCast_emod,-Int.natCast_pow]
    exact⟨k,⟨hk,h1,h2,.inr (by omega)⟩,rfl⟩
  ·simp[-Int.natCast_ediv,-Int.natCast_emod,-Int.natCast_pow,c1];refine AW.no ?_ rfl;refine AW.exit ?_;try simp[-Int.natCast_ediv,-Int.natCast_emod,-Int.natCast_pow]
   exact⟨k,⟨hk,h1,h2,.inl (by omega)⟩,rfl⟩
 ·rintro k ⟨hk,h1,h2,h3⟩;(repeat refine AW.seq ?_);refine AW.rg ?_;simp;refine Aa.pure (Wx x hx0 (by omega)) ?_;rintro _ ⟨i,i1,i2,rfl⟩;try simp
  (repeat refine AW.seq ?_);refine AW.rg ?_;simp;refine Aa.pure (Wx y hy0 (by omega)) ?_;rintro _ ⟨j,j1,j2,rfl⟩;try simp
  have hgcd:=Qkx h1 h2 h3 i1 i2 j1 j2;have hx1:x / 2^i≤x:=Nat.div_le_self _ _;have hy1:y / 2^j≤y:=Nat.div_le_self _ _;generalize x / 2^i=u at *;generalize y / 2^j=w at *;refine AW.seq_has [(4,.ptr b4 2 0 0),(6,Ao (Ap (Nat.gcd u w))),(8,.int .i64 k)] (Ac.emp.set b4 ⟨42,2,[.agg [.bool false,.nil]]⟩) ?_ ?_
  ·refine AW.block (AW.loopS (ι:=Nat × Nat) (fun z=>[(4,.ptr b4 2 0 0),(6,Ao (Ap z.1)),(7,Ao (Ap z.2)),(8,.int .i64 k)]) (fun _=>Ac.emp.set b4 ⟨42,2,[.agg [.bool false,.nil]]⟩) (fun z=>z.1<Bj∧z.2<Bj∧z.1 % 2=1∧z.2 % 2=1∧Nat.gcd z.1 z.2=Nat.gcd u w) (fun z=>z.1+z.2) (u,w) ⟨by omega,by omega,i2,j2,rfl⟩ rfl (by simp) ?_);rintro⟨p,q⟩ ⟨p1,p2,p3,p4,p5⟩;simp only at p1 p2 p3 p4 p5;simp only;have l1:=Bi p1;have l2:=Bi p2;(repeat refine AW.seq ?_);refine AW.rg ?_;simp;refine Aa.val (I6 p q (by omega) (by omega)) ?_;simp[Qlz]
   (repeat refine AW.seq ?_);refine AW.cs (fun h4=>?_) (fun h4=>?_) rfl<;>simp at h4
   ·refine AW.skip ?_;try simp
    (repeat refine AW.seq ?_);refine AW.block ?_;refine AW.seq_ex (ι:=Nat × Nat) (fun z=>[(4,.ptr b4 2 0 0),(6,Ao (Ap z.1)),(7,Ao (Ap z.2)),(8,.int .i64 k)]) (fun _=>Ac.emp.set b4 ⟨42,2,[.agg [.bool false,.nil]]⟩) (fun z=>z.2<z.1∧z.1<Bj∧z.1+z.2=p+q∧z.1 % 2=1∧z.2 % 2=1∧Nat.gcd z.1 z.2=Nat.gcd u w) ?_ ?_
    ·(repeat refine AW.seq ?_);refine AW.rg ?_;simp;refine Aa.val (I6 p q (by omega) (by omega)) ?_;simp[Rt];(repeat refine AW.seq ?_);refine AW.cs (fun h5=>?_) (fun h5=>?_) rfl<;>simp at h5
     ·(repeat refine AW.seq ?_);refine AW.rg ?_;simp;(repeat refine AW.seq ?_);refine AW.rg ?_;simp;(repeat refine AW.seq ?_);refine AW.rg ?_;simp;exact⟨q,p,⟨by omega,by omega,by omega,p4,p3,by rw[Nat.gcd_comm];exact p5⟩,rfl,rfl⟩
     ·refine AW.skip ?_;try simp
      exact⟨p,q,⟨by omega,by omega,by omega,p3,p4,p5⟩,rfl,rfl⟩
    ·rintro⟨p',q'⟩ ⟨r1,r2,r3,r4,r5,r6⟩;simp only at r1 r2 r3 r4 r5 r6;simp only;have l3:=Bi r2;have l4:=Bi (show p'-q'<Bj by omega);(repeat refine AW.seq ?_);refine AW.rg ?_;simp;refine Aa.val (Gc p' q' (by omega) (by omega)) ?_;try simp
     refine Aa.pure (Wx (p'-q') (by omega) (by omega)) ?_;rintro _ ⟨i',s1,s2,rfl⟩;try simp
     have s3:(p'-q') / 2^i'≤p'-q':=Nat.div_le_self _ _;try simp
     exact⟨(p'-q') / 2^i',q',⟨by omega,by omega,s2,r5,by rw[Qpl s1 r5,Qpm (by omega)];exact r6⟩,by omega,rfl,rfl⟩
   ·refine AW.exit ?_;try simp
    rw[←h4,Nat.gcd_self]at p5;rw[p5]
  ·(repeat refine AW.seq ?_);refine AW.rg ?_;simp;have hB:Nat.gcd u w<Bj:=Nat.lt_of_le_of_lt (Nat.le_of_dvd (by omega) (Nat.gcd_dvd_left u w)) (by omega);have l5:=Bi hB;refine Aa.val (Qim (Nat.gcd u w) k (by omega) (by omega)) ?_;try simp
   rw[←hgcd];have l6:=Bi hg;refine Aa.val (Ev false _ (Bb _) (by omega)) ?_;have e:Bx (if false=true then -(val (Ap (Nat.gcd x y)):Int) else val (Ap (Nat.gcd x y)))=.tup [Ay (Nat.gcd x y:Nat),.int .i64 0]:=by
    simp[Bx,fz,fe,A5,hg]
   rw[e];simp[Ay];refine AW.ret (key _ hg _ ?_ ?_)<;>rfl
end Go.Av
end
section
namespace Go.Av
open Go.Proofs
theorem Gg {neg:Bool} {l:List Nat} (hb:Lb l) (h:Fs neg l=true):∃z:Int,z.natAbs<Bj∧neg=decide (z<0)∧l=Ap z.natAbs∧z.natAbs=val l:=by
 unfold Fs at h;split at h
 ·cases h
 ·rename_i h1
  split at h
  ·rename_i h2
   have h3:l=[]:=List.eq_nil_of_length_eq_zero h2;subst h3;refine⟨0,by decide,?_,by simp[Bg],rfl⟩;simpa using h
  ·rename_i h2
   have h3:Ap (val l)=l:=Qgu hb (fun l' x e=>by
    rw[e]at h;simpa[nth]using h)
   have h4:val l≠0:=fun e=>by rw[e,Bg]at h3;rw[←h3]at h2;exact h2 rfl
   have h5:val l<Bj:=Nat.lt_of_lt_of_le (Lm hb) (Nat.pow_le_pow_right (by omega) (by omega));cases neg
   ·exact⟨val l,h5,by simp,by simp[h3],by simp⟩
   ·exact⟨-(val l),by simpa using h5,by simp;omega,by simp[h3],by simp⟩
theorem Qg4 {n:Nat}:((Ap n).length=1∧nth (Ap n) 0=1)↔n=1:=by
 constructor
 ·rintro⟨h1,h2⟩;have h3:=A5 n;rcases hd:Ap n with _|⟨a,_|⟨b,l⟩⟩
  ·rw[hd]at h1;cases h1
  ·rw[hd]at h2 h3;simp[nth]at h2;simp[val]at h3;omega
  ·rw[hd]at h1;simp at h1
 ·rintro rfl;rw[Li (by omega)];simp[Bg,nth]
theorem Jz (neg:Bool) (l:List Nat):Ak Tryz.prog 78 [Er neg l] Ac.emp fun v m=>v=.bool (decide (l.length=0))∧m=Ac.emp:=by
 refine Ad Tryz.func78 rfl rfl 7 rfl (Nat.le_of_ble_eq_true rfl) ?_;(repeat refine AW.seq ?_);refine AW.rgR [1] ?_;simp[Al,Er];(repeat refine AW.seq ?_);refine AW.rg ?_;simp;exact AW.ret (Ah rfl _ (.same _) ⟨by simp,rfl⟩)
theorem Kx (neg:Bool) (l:List Nat):Ak Tryz.prog 86 [Er neg l] Ac.emp fun v m=>v=.bool (decide (l.length=0))∧m=Ac.emp:=by
 refine Ad Tryz.func86 rfl rfl 7 rfl (Nat.le_of_ble_eq_true rfl) ?_;(repeat refine AW.seq ?_);refine AW.rgR [1] ?_;simp[Al,Er];(repeat refine AW.seq ?_);refine AW.rg ?_;simp;exact AW.ret (Ah rfl _ (.same _) ⟨by simp,rfl⟩)
theorem Qfb (z:Int) (hz:z.natAbs<Bj):Ak Tryz.prog 80 [Ay z] Ac.emp fun v m=>v=.bool (decide (z=1))∧m=Ac.emp:=by
 unfold Ay;refine Ad Tryz.func80 rfl rfl 19 rfl (Nat.le_of_ble_eq_true rfl) ?_;have hd:=Qg4 (n:=z.natAbs);have hl:=Bi hz;generalize Ap z.natAbs=l at *;(repeat refine AW.seq ?_);refine AW.rgR [1] ?_;simp[Al];by_cases h1:z<0
 ·(repeat refine AW.seq ?_);refine AW.rg ?_;simp[h1];have:z≠1:=by omega
  exact AW.ret (Ah rfl _ (.same _) ⟨by simp[this],rfl⟩)
 ·by_cases h2:l.length=1
  ·(repeat refine AW.seq ?_);refine AW.rg ?_;simp[h1,h2];have h3:(z=1)↔nth l 0=1:=by
    constructor
    ·intro e;exact(hd.2 (by omega)).2
    ·intro e;have:=hd.1 ⟨h2,e⟩;omega
   exact AW.ret (Ah rfl _ (.same _) ⟨by simp[h3],rfl⟩)
  ·(repeat refine AW.seq ?_);refine AW.rg ?_;simp[h1,h2];have:z≠1:=fun e=>h2 ((hd.2 (by omega)).1);exact AW.ret (Ah rfl _ (.same _) ⟨by simp[this],rfl⟩)
theorem Vb (z:Int) (hz:z.natAbs<Bj):Ak Tryz.prog 87 [Ay z] Ac.emp fun v m=>v=.bool (decide (z=1))∧m=Ac.emp:=by
 unfold Ay;refine Ad Tryz.func87 rfl rfl 19 rfl (Nat.le_of_ble_eq_true rfl) ?_;have hd:=Qg4 (n:=z.natAbs);have hl:=Bi hz;generalize Ap z.natAbs=l at *;(repeat refine AW.seq ?_);refine AW.rgR [1] ?_;simp[Al];by_cases h1:z<0
 ·(repeat refine AW.seq ?_);refine AW.rg ?_;simp[h1];have:z≠1:=by omega
  exact AW.ret (Ah rfl _ (.same _) ⟨by simp[this],rfl⟩)
 ·by_cases h2:l.length=1
  ·(repeat refine AW.seq ?_);refine AW.rg ?_;simp[h1,h2];have h3:(z=1)↔nth l 0=1:=by
    constructor
    ·intro e;exact(hd.2 (by omega)).2
    ·intro e;have:=hd.1 ⟨h2,e⟩;omega
   exact AW.ret (Ah rfl _ (.same _) ⟨by simp[h3],rfl⟩)
  ·(repeat refine AW.seq ?_);refine AW.rg ?_;simp[h1,h2];have:z≠1:=fun e=>h2 ((hd.2 (by omega)).1);exact AW.ret (Ah rfl _ (.same _) ⟨by simp[this],rfl⟩)
def Qej (n1:Bool) (l1:List Nat) (n2:Bool) (l2:List Nat):AV:=.agg [.bool n1,Ao l1,.bool n2,Ao l2]
def Pt (n1:Bool) (l1:List Nat) (n2:Bool) (l2:List Nat):Bool:=Fs n1 l1&&Fs n2 l2&&!n2&&decide (l2.length≠0)&&decide (Nat.gcd (val l1) (val l2)=1)
theorem Jt (n1:Bool) (l1:List Nat) (n2:Bool) (l2:List Nat) (h1:Lb l1) (h2:Lb l2):Ak Tryz.prog 42 [Qej n1 l1 n2 l2] Ac.emp fun v m=>v=.bool (Pt n1 l1 n2 l2)∧m=Ac.emp:=by
 refine Ad Tryz.func42 rfl rfl 39 rfl (Nat.le_of_ble_eq_true rfl) ?_;(repeat refine AW.seq ?_);refine AW.rgR [1] ?_;simp[Al,Qej];(repeat refine AW.seq ?_);refine AW.rg ?_;simp;refine Aa.val (Hm n1 l1) ?_;try simp
 (repeat refine AW.seq ?_);refine AW.rg ?_;simp;refine Aa.val (Hm n2 l2) ?_;try simp
 unfold Pt;cases o1:Fs n1 l1
 ·(repeat refine AW.seq ?_);refine AW.rg ?_;simp[o1];refine AW.yes ?_ rfl;(repeat refine AW.seq ?_);refine AW.rg ?_;simp;exact AW.ret (Ah rfl _ (.same _) ⟨by simp,rfl⟩)
 cases o2:Fs n2 l2
 ·(repeat refine AW.seq ?_);refine AW.rg ?_;simp[o1,o2];refine AW.yes ?_ rfl;(repeat refine AW.seq ?_);refine AW.rg ?_;simp;exact AW.ret (Ah rfl _ (.same _) ⟨by simp,rfl⟩)
 cases n2
 ·(repeat refine AW.seq ?_);refine AW.rg ?_;simp[o1,o2];refine Aa.val (Jz false l2) ?_;simp;(repeat refine AW.seq ?_);refine AW.cs (fun hl=>?_) (fun hl=>?_) rfl<;>simp at hl
  ·(repeat refine AW.seq ?_);refine AW.rg ?_;simp;exact AW.ret (Ah rfl _ (.same _) ⟨by simp[hl],rfl⟩)
  ·refine AW.skip ?_;try simp
   obtain⟨z1,b1,rfl,rfl,c1⟩:=Gg h1 o1;obtain⟨z2,b2,e2,rfl,c2⟩:=Gg h2 o2;have g:=Y4 z1 z2 b1 b2;unfold Ay at g;rw[←e2]at g;(repeat refine AW.seq ?_);refine AW.rg ?_;simp;refine Aa.val g ?_;try simp
   have hg:Nat.gcd z1.natAbs z2.natAbs<Bj:=by
    refine Nat.lt_of_le_of_lt (Nat.le_of_dvd ?_ (Nat.gcd_dvd_right _ _)) b2;rcases Nat.eq_zero_or_pos z2.natAbs with h | h
    ·exact absurd (Cw.2 h) hl
    ·exact h
   try simp[Ay]
   refine Ae.intro fun b5 _=>?_;(repeat refine AW.seq ?_);refine AW.rg ?_;simp;refine Aa.val (Qfb (Nat.gcd z1.natAbs z2.natAbs:Nat) (by simpa using hg)) ?_;try simp
   exact AW.ret (Af [.bool (decide (Nat.gcd z1.natAbs z2.natAbs=1))] rfl (by simp) ⟨by simp[←c1,←c2,hl],rfl⟩)
 ·(repeat refine AW.seq ?_);refine AW.rg ?_;simp[o1,o2];refine AW.yes ?_ rfl;(repeat refine AW.seq ?_);refine AW.rg ?_;simp;exact AW.ret (Ah rfl _ (.same _) ⟨by simp,rfl⟩)
end Go.Av
end
section
namespace Go.Av
@[simp] theorem Q29 (a b:Nat):(a:Int)=(b:Int)↔a=b:=by omega
@[simp] theorem Qrw (a:Nat):Int.fdiv (a:Int) 4294967296=((a / 4294967296:Nat):Int):=by
 rw[Int.fdiv_eq_ediv_of_nonneg _ (by omega)];rfl
@[simp] theorem Qtd (a:Nat):Int.fdiv (a:Int) 9223372036854775808=((a / 9223372036854775808:Nat):Int):=by
 rw[Int.fdiv_eq_ediv_of_nonneg _ (by omega)];rfl
@[simp] theorem Qoh (l:List Nat):(Bp l).drop l.length=[]:=List.drop_eq_nil_of_le (by simp)
@[simp] theorem Qoo (n:Nat):(Bp (List.replicate n 0)).drop n=[]:=List.drop_eq_nil_of_le (by simp)
end Go.Av
end
section
namespace Go.Av
open Go.Proofs
theorem Hp (neg:Bool) (l:List Nat):Ak Tryz.prog 85 [Er neg l] Ac.emp fun v m=>v=.bool (Fs neg l)∧m=Ac.emp:=by
 refine Ad Tryz.func85 rfl rfl 23 rfl (Nat.le_of_ble_eq_true rfl) ?_;(repeat refine AW.seq ?_);refine AW.rgR [1] ?_;simp[Al,Er];(repeat refine AW.seq ?_);refine AW.rg ?_;simp;(repeat refine AW.seq ?_);refine AW.rg ?_;simp;(repeat refine AW.seq ?_);refine AW.cs (fun h2=>?_) (fun h2=>?_) rfl<;>simp at h2
 ·(repeat refine AW.seq ?_);refine AW.rg ?_;simp;exact AW.ret (Ah rfl _ (.same _) ⟨by simp[Fs,h2],rfl⟩)
 ·refine AW.skip ?_;try simp
  have hp:0<l.length:=by
   rcases l with _|_
   ·simp at h2
   ·simp
  by_cases h:l.length≤128
  ·have hw:IntKind.i64.wrap ((l.length:Int)-1)=((l.length-1:Nat):Int):=by rw[Pk (by omega)];omega
   (repeat refine AW.seq ?_);refine AW.rg ?_;simp[hw,h];refine⟨by omega,?_⟩;exact AW.ret (Ah rfl _ (.same _) ⟨by simp[Fs,show ¬128<l.length by omega,h2],rfl⟩)
  ·(repeat refine AW.seq ?_);refine AW.rg ?_;simp[h];exact AW.ret (Ah rfl _ (.same _) ⟨by simp[Fs,show 128<l.length by omega],rfl⟩)
theorem Vu (neg:Bool) (l:List Nat) (_:l.length<2^40):Ak Tryz.prog 85 [Er neg l] Ac.emp fun v m=>v=.bool (Fs neg l)∧m=Ac.emp:=Hp neg l
theorem Qjx (n1:Bool) (l1:List Nat) (n2:Bool) (l2:List Nat) (h1:l1.length<2^40) (h2:l2.length<2^40):Ak Tryz.prog 120 [Er n1 l1,Er n2 l2] Ac.emp fun v m=>v=.bool (Fs n1 l1&&Fs n2 l2)∧m=Ac.emp:=by
 refine Ad Tryz.func120 rfl rfl 11 rfl (Nat.le_of_ble_eq_true rfl) ?_;have v1:=Vu n1 l1 h1;have v2:=Vu n2 l2 h2;unfold Er at *;(repeat refine AW.seq ?_);refine AW.rgR [2,3] ?_;simp[Al];(repeat refine AW.seq ?_);refine AW.rg ?_;simp;refine Aa.val v1 ?_;try simp
 cases o1:Fs n1 l1
 ·simp;exact AW.ret (Ah rfl _ (.same _) ⟨by simp,rfl⟩)
 ·simp;refine Aa.val v2 ?_;try simp
  exact AW.ret (Ah rfl _ (.same _) ⟨by simp,rfl⟩)
theorem Q4 (x y:Int) (hx:x.natAbs<Bj) (hy:y.natAbs<Bj):Ak Tryz.prog 120 [Ay x,Ay y] Ac.emp fun v m=>v=.bool true∧m=Ac.emp:=by
 have h1:=Bi hx;have h2:=Bi hy;have:=Qjx (decide (x<0)) (Ap x.natAbs) (decide (y<0)) (Ap y.natAbs) (by omega) (by omega);rw[Fh hx,Fh hy]at this;exact this
theorem Ik (x y:Nat) (lx:(Ap x).length<2^40) (ly:(Ap y).length<2^40):Ak Tryz.prog 163 [Ao (Ap x),Ao (Ap y)] Ac.emp fun v m=>v=.int .i64 (Hn x y)∧m=Ac.emp:=by
 refine Ad Tryz.func163 rfl rfl 46 rfl (Nat.le_of_ble_eq_true rfl) ?_;generalize ha:Ap x=a at *;generalize hb:Ap y=b at *;have va:val a=x:=by rw[←ha,A5]
 have vb:val b=y:=by rw[←hb,A5]
 have la:Lb a:=by rw[←ha];exact Bb x
 have lb:Lb b:=by rw[←hb];exact Bb y
 (repeat refine AW.seq ?_);refine AW.rg ?_;simp[Al];(repeat refine AW.seq ?_);refine AW.rg ?_;simp;(repeat refine AW.seq ?_);refine AW.cs (fun h=>?_) (fun h=>?_) rfl<;>simp at h
 ·(repeat refine AW.seq ?_);refine AW.rg ?_;simp;(repeat refine AW.seq ?_);refine AW.cs (fun h2=>?_) (fun h2=>?_) rfl<;>simp at h2
  ·(repeat refine AW.seq ?_);refine AW.rg ?_;simp;have:=I9 (x:=x) (y:=y) (by rw[ha,hb];omega);exact AW.ret (Ah rfl _ (.same _) ⟨by simp[Ug this],rfl⟩)
  ·refine AW.skip ?_;try simp
   (repeat refine AW.seq ?_);refine AW.rg ?_;simp;have:=I9 (x:=y) (y:=x) (by rw[ha,hb];omega);exact AW.ret (Ah rfl _ (.same _) ⟨by simp[Ue this],rfl⟩)
 ·have hl:a.length=b.length:=by omega
  refine AW.skip ?_;try simp
  (repeat refine AW.seq ?_);refine AW.rg ?_;simp;refine AW.block (AW.loopS (ι:=Nat) (fun k=>[(0,Ao a),(1,Ao b),(18,.int .i64 a.length),(19,.int .i64 k)]) (fun _=>Ac.emp) (fun k=>k≤a.length∧val a+val (b.take (a.length-k))=val b+val (a.take (a.length-k))) (fun k=>a.length-k) 0 ⟨Nat.zero_le _,by rw[Ax b _ (by omega),Ax a _ (by omega)];omega⟩ rfl (by simp[hl]) ?_);rintro k ⟨h1,h2⟩;(repeat refine AW.seq ?_);refine AW.rg ?_;simp;(repeat refine AW.seq ?_);refine AW.cs (fun h3=>?_) (fun h3=>?_) rfl<;>simp at h3
  ·obtain⟨i,hi⟩:∃i,a.length-k=i+1:=⟨a.length-k-1,by omega⟩;rw[hi]at h2;have hw:IntKind.i64.wrap ((a.length:Int)-1)=((a.length-1:Nat):Int):=by rw[Pk (by omega)];omega
   have hw2:IntKind.i64.wrap (((a.length-1:Nat):Int)-(k:Int))=(i:Int):=by rw[Pk (by omega)];omega
   have hw3:=Aq (k+1) (by omega);have i1:i<a.length:=by omega
   have i2:i<b.length:=by omega
   refine AW.skip ?_;try simp
   (repeat refine AW.seq ?_);refine AW.block ?_;(repeat refine AW.seq ?_);refine AW.rg ?_;simp;(repeat refine AW.seq ?_);refine AW.rg ?_;simp[hw,hw2];(repeat refine AW.seq ?_);refine AW.rd [0,1,2,3,4,5,6,7,8] Dm ?_;simp[i1,i2];(repeat refine AW.seq ?_);refine AW.cs (fun h4=>?_) (fun h4=>?_) rfl<;>simp at h4
   ·(repeat refine AW.seq ?_);refine AW.rd [0,1,2,3,4,5,6,7,8] Dm ?_;simp[i1,i2];(repeat refine AW.seq ?_);refine AW.cs (fun h5=>?_) (fun h5=>?_) rfl<;>simp at h5
    ·(repeat refine AW.seq ?_);refine AW.rg ?_;simp;have:=Ly la h2 h5;exact AW.ret (Ah rfl _ (.same _) ⟨by simp[Ug (show x<y by omega)],rfl⟩)
    ·refine AW.skip ?_;try simp
     (repeat refine AW.seq ?_);refine AW.rg ?_;simp;have:=Ly lb h2.symm (show nth b i<nth a i by omega);exact AW.ret (Ah rfl _ (.same _) ⟨by simp[Ue (show y<x by omega)],rfl⟩)
   ·refine AW.skip ?_;try simp
    (repeat refine AW.seq ?_);refine AW.rg ?_;simp[-Int.natCast_add,hw3];refine⟨⟨by omega,?_⟩,by omega⟩;rw[A1,A1,h4]at h2;rw[show a.length-(k+1)=i by omega];omega
  ·refine AW.exit ?_;try simp
   (repeat refine AW.seq ?_);refine AW.rg ?_;simp;have:a.length-k=0:=by omega
   rw[this]at h2;simp[val]at h2;exact AW.ret (Ah rfl _ (.same _) ⟨by simp[Qgy (show x=y by omega)],rfl⟩)
theorem Cz (l:List Nat) (hl:l.length<2^42):Ak Tryz.prog 165 [Ao l] Ac.emp fun v m=>v=Ao (Fe l)∧m=Ac.emp:=by
 refine Ad Tryz.func165 rfl rfl 21 rfl (Nat.le_of_ble_eq_true rfl) ?_;(repeat refine AW.seq ?_);refine AW.rg ?_;simp[Al];(repeat refine AW.seq ?_);refine AW.rg ?_;simp;refine AW.seq_has [(0,Ao l),(3,.int .i64 (Fe l).length)] Ac.emp ?_ ?_
 ·refine AW.block (AW.loopS (ι:=Nat) (fun k=>[(0,Ao l),(3,.int .i64 k)]) (fun _=>Ac.emp) (fun k=>k≤l.length∧Fe (l.take k)=Fe l) (fun k=>k) l.length ⟨Nat.le_refl _,by simp⟩ rfl (by simp) ?_);rintro k ⟨h1,h2⟩;rcases Nat.eq_zero_or_pos k with rfl | hk
  ·(repeat refine AW.seq ?_);refine AW.rg ?_;simp;refine AW.no ?_ rfl;refine AW.exit ?_;try simp
   simp at h2;rw[←h2];rfl
  ·obtain⟨i,rfl⟩:∃i,k=i+1:=⟨k-1,by omega⟩;have hw:IntKind.i64.wrap (((i+1:Nat):Int)-1)=(i:Int):=by rw[Pk (by omega)];omega
   have e:l.take (i+1)=l.take i++[nth l i]:=by
    rw[List.take_add_one,List.getElem?_eq_getElem (by omega),Zi (by omega)];rfl
   have i1:i<l.length:=by omega
   (repeat refine AW.seq ?_);refine AW.rg ?_;simp[-Int.natCast_add,hw,i1];(repeat refine AW.seq ?_);refine AW.cs (fun h3=>?_) (fun h3=>?_) rfl<;>simp at h3
   ·refine AW.skip ?_;try simp[-Int.natCast_add]
    (repeat refine AW.seq ?_);refine AW.block ?_;(repeat refine AW.seq ?_);refine AW.rg ?_;simp[-Int.natCast_add,hw];refine⟨by omega,?_⟩;rw[e,h3,Ml]at h2;exact h2
   ·refine AW.exit ?_;try simp[-Int.natCast_add]
    rw[e,O6 _ h3,←e]at h2;rw[←h2];simp;omega
 ·have h1:(Fe l).length≤l.length:=by
   unfold Fe;have:=(List.dropWhile_sublist (l:=l.reverse) (·==0)).length_le;simpa using this
  have h2:l.take (Fe l).length=Fe l:=by
   have:Fe l <+: l:=by
    unfold Fe;rw[←List.reverse_suffix,List.reverse_reverse];exact List.dropWhile_suffix _
   exact List.prefix_iff_eq_take.1 this |>.symm
  (repeat refine AW.seq ?_);refine AW.rg ?_;simp;refine⟨h1,?_⟩;exact AW.ret (Ah rfl _ (.same _) ⟨by simp[h2],rfl⟩)
end Go.Av
end
section
namespace Go.Av
open Go.Proofs
@[simp] theorem Qop (l:List Nat):(Bp l).take l.length=Bp l:=by rw[Rm,List.take_length]
theorem C3 (neg:Bool) (l:List Nat) (hb:Lb l) (hl:l.length<2^40):Ak Tryz.prog 122 [.bool neg,Ao l] Ac.emp fun v m=>v=Bx (if neg=true then -(val l:Int) else val l)∧m=Ac.emp:=by
 refine Ad Tryz.func122 rfl rfl 27 rfl (Nat.le_of_ble_eq_true rfl) ?_;(repeat refine AW.seq ?_);refine AW.rg ?_;simp[Al];refine Ae.intro fun b4 _=>?_;(repeat refine AW.seq ?_);refine AW.rg ?_;simp;refine Aa.val (Cz l (by omega)) ?_;simp[Ck hb];have hlen:=A8 (n:=val l) (k:=128);generalize hn:val l=n at *;(repeat refine AW.seq ?_);refine AW.rg ?_;simp;(repeat refine AW.seq ?_);refine AW.cs (fun h=>?_) (fun h=>?_) rfl<;>simp at h
 ·(repeat refine AW.seq ?_);refine AW.rg ?_;simp;have:¬n<Bj:=fun h'=>by have:=hlen.2 h';omega
  refine AW.ret (Dh (b:=b4) (.bool false) (Ao []) rfl rfl (by simp;exact⟨rfl,rfl⟩) rfl ?_ ⟨?_,rfl⟩)
  ·simp
  ·cases neg<;>simp[Bx,fz,fe,this,Ay,Bg]
 ·refine AW.skip ?_;try simp
  have hn':n<Bj:=hlen.1 h;(repeat refine AW.seq ?_);refine AW.rg ?_;simp[-Int.natCast_mul];refine⟨by omega,Ae.intro fun b6 h6=>?_⟩;have e1:b4≠b6:=by rintro rfl;simp at h6
  (repeat refine AW.seq ?_);refine AW.rg ?_;simp[C5];(repeat refine AW.seq ?_);refine AW.rg ?_;have h2:(decide (-(n:Int)<0))=decide (0<n):=by congr 1;simp
  have h3:0<(Ap n).length↔0<n:=by
   rw[List.length_pos_iff,ne_eq,Cw];omega
  cases neg
  ·simp[e1];refine AW.ret (Dh (b:=b4) (.bool false) (Ao (Ap n)) rfl rfl (by simp;exact⟨rfl,rfl⟩) rfl ?_ ⟨?_,rfl⟩)
   ·simp;exact De (e:=124) (by simp[Ne.symm e1])
   ·simp[Bx,fz,fe,hn',Ay]
  ·simp[e1,h3];refine AW.ret (Dh (b:=b4) (.bool (decide (0<n))) (Ao (Ap n)) rfl rfl (by simp;exact⟨rfl,rfl⟩) rfl ?_ ⟨?_,rfl⟩)
   ·simp;exact De (e:=124) (by simp[Ne.symm e1])
   ·simp[Bx,fz,fe,hn',Ay,h2]
theorem W3 (a b:List Nat) (ha:Lb a) (hb:Lb b) (la:a.length<2^40) (lb:b.length<2^40):Ak Tryz.prog 210 [Ao a,Ao b] Ac.emp fun v m=>v=Ao (Ap (val a+val b))∧m=Ac.emp:=by
 refine Ad Tryz.func210 rfl rfl 62 rfl (Nat.le_of_ble_eq_true rfl) ?_;(repeat refine AW.seq ?_);refine AW.rg ?_;simp[Al];refine AW.seq_ex (ι:=List Nat × List Nat) (fun p=>[(0,Ao p.1),(1,Ao p.2)]) (fun _=>Ac.emp) (fun p=>Lb p.1∧Lb p.2∧p.2.length≤p.1.length∧p.1.length<2^40∧val p.1+val p.2=val a+val b) ?_ ?_
 ·(repeat refine AW.seq ?_);refine AW.rg ?_;simp;(repeat refine AW.seq ?_);refine AW.cs (fun h=>?_) (fun h=>?_) rfl<;>simp at h
  ·(repeat refine AW.seq ?_);refine AW.rg ?_;simp;exact⟨b,a,⟨hb,ha,by omega,by omega,by omega⟩,rfl,rfl⟩
  ·refine AW.skip ?_;try simp
   exact⟨a,b,⟨ha,hb,by omega,by omega,rfl⟩,rfl,rfl⟩
 rintro⟨p,q⟩ ⟨hp,hq,hl,hl2,hv⟩;simp only at hp hq hl hl2 hv;rw[←hv];simp only;have hw:=Aq (p.length+1) (by omega);(repeat refine AW.seq ?_);refine AW.rg ?_;simp[-Int.natCast_mul,-Int.natCast_add,hw];refine⟨by omega,Ae.intro fun bl _=>?_⟩;(repeat refine AW.seq ?_);refine AW.rg ?_;simp[-Int.natCast_add,C5,Rm,Rz,S1];(repeat refine AW.seq ?_);refine AW.rg ?_;simp[-Int.natCast_add];refine AW.seq_ex (ι:=List Nat × Nat) (fun x=>[(0,Ao p),(5,.osl bl 1 0 (p.length+1)),(6,.int .u64 (x.2:Nat))]) (fun x=>Ac.emp.set bl ⟨124,1,Bp x.1⟩) (fun x=>Lb x.1∧x.1.length=p.length+1∧x.2<2∧val (x.1.take p.length)+4294967296^p.length*x.2=val p+val q) ?_ ?_
 ·(repeat refine AW.seq ?_);refine AW.rg ?_;simp[-Int.natCast_add];refine AW.block (AW.loopS (ι:=Nat × Nat × List Nat) (fun x=>[(0,Ao p),(1,Ao q),(5,.osl bl 1 0 (p.length+1)),(6,.int .u64 (x.2.1:Nat)),(24,.int .i64 p.length),(25,.int .i64 (x.1:Nat))]) (fun x=>Ac.emp.set bl ⟨124,1,Bp x.2.2⟩)
   (fun x=>x.1≤p.length∧x.2.1<2∧Lb x.2.2∧x.2.2.length=p.length+1∧val (x.2.2.take x.1)+4294967296^x.1*x.2.1=val (p.take x.1)+val (q.take x.1)) (fun x=>p.length-x.1) (0,0,p++[0]) ⟨by simp,by simp,?_,by simp,by simp[val]⟩ ?_ (by simp[-Int.natCast_add]) ?_)
  ·intro x hx;rcases List.mem_append.1 hx with h | h
   ·exact hp x h
   ·simp at h;omega
  ·simp only[];rw[List.take_of_length_le (by omega)]
  ·rintro⟨i,c,o⟩ ⟨h1,h2,h3,h4,h5⟩;simp only at h1 h2 h3 h4 h5;simp only;(repeat refine AW.seq ?_);refine AW.rg ?_;simp;(repeat refine AW.seq ?_);refine AW.cs (fun hi=>?_) (fun hi=>?_) rfl<;>simp at hi
   ·refine AW.skip ?_;try simp
    have qa:=hp.nth i;have qb:=hq.nth i;have hw2:=Aq (i+1) (by omega);have m1:nth p i % 18446744073709551616=nth p i:=by omega
    have m2:nth q i % 18446744073709551616=nth q i:=by omega
    have m3:(nth p i+c) % 18446744073709551616=nth p i+c:=by omega
    have m4:(nth p i+c+nth q i) % 18446744073709551616=nth p i+c+nth q i:=by omega
    (repeat refine AW.seq ?_);refine AW.block ?_;(repeat refine AW.seq ?_);refine AW.rg ?_;simp;(repeat refine AW.seq ?_);refine AW.rg ?_;simp[-Int.natCast_add,hi,m1,m3];refine AW.seq_has [(0,Ao p),(1,Ao q),(5,.osl bl 1 0 (p.length+1)),(7,.int .i64 (i:Nat)),(8,.int .u64 (nth p i+c+nth q i:Nat)),(24,.int .i64 p.length),(25,.int .i64 (i:Nat))] (Ac.emp.set bl ⟨124,1,Bp o⟩) ?_ ?_
    ·(repeat refine AW.seq ?_);refine AW.rg ?_;simp[-Int.natCast_add];(repeat refine AW.seq ?_);refine AW.cs (fun hl=>?_) (fun hl=>?_) rfl<;>simp at hl
     ·(repeat refine AW.seq ?_);refine AW.rg ?_;simp[-Int.natCast_add,hl,m2,m4]
     ·refine AW.skip ?_;try simp[-Int.natCast_add]
      simp[Mx hl]
    generalize hs:nth p i+c+nth q i=s at *;have hi2:i<p.length+1:=by omega
    (repeat refine AW.seq ?_);refine AW.rg ?_;simp[-Int.natCast_add,-Int.natCast_emod,hi2,h4];(repeat refine AW.seq ?_);refine AW.rg ?_;simp[-Int.natCast_ediv,-Int.natCast_emod];(repeat refine AW.seq ?_);refine AW.rg ?_;simp[-Int.natCast_add,-Int.natCast_emod,-Int.natCast_ediv,hw2];refine⟨i+1,_,_,⟨by omega,by omega,h3.set i _ (by omega),by simpa using h4,?_⟩,by omega,rfl,rfl,rfl⟩;rw[Bn _ _ _ (by omega),A1,A1,Nat.pow_succ];have q:=F9 (4294967296^i) s;rw[←hs,Nat.mul_add,Nat.mul_add,hs]at q;omega
   ·refine AW.exit ?_;try simp
    have:i=p.length:=by omega
    subst this;rw[Ax p _ (by omega),Ax q _ (by omega)]at h5;exact⟨o,⟨h3,h4,h2,h5⟩,rfl⟩
 ·rintro⟨o,c⟩ ⟨h3,h4,h2,h5⟩;simp only at h2 h3 h4 h5;simp only;have m1:c % 4294967296=c:=by omega
  have hi2:p.length<p.length+1:=by omega
  (repeat refine AW.seq ?_);refine AW.rg ?_;simp[-Int.natCast_add,h4,m1];have hv2:val (o.set p.length c)=val p+val q:=by
   rw[←Ax (o.set p.length c) (p.length+1) (by simp[h4]),Bn _ _ _ (by omega),h5]
  refine AW.toEmp [(5,Ao (o.set p.length c))] ?_ ?_
  ·simp;have:=De (m:=Ac.emp.set bl ⟨124,1,Bp (o.set p.length c)⟩) (b:=bl) (e:=124) (l:=o.set p.length c) (by simp);rw[List.length_set,h4]at this;exact this
  (repeat refine AW.seq ?_);refine AW.rg ?_;simp;refine Aa.val (Cz _ (by simp[h4];omega)) ?_;rw[Ck (h3.set _ _ (by omega)),hv2];try simp
  exact AW.ret (Ah rfl _ (.same _) ⟨by simp,rfl⟩)
theorem Ex (x y:Nat) (hxy:y≤x) (lx:(Ap x).length<2^40):Ak Tryz.prog 211 [Ao (Ap x),Ao (Ap y)] Ac.emp fun v m=>v=Ao (Ap (x-y))∧m=Ac.emp:=by
 refine Ad Tryz.func211 rfl rfl 48 rfl (Nat.le_of_ble_eq_true rfl) ?_;have hlen:=Lz hxy;generalize ha:Ap x=a at *;generalize hb:Ap y=b at *;have va:val a=x:=by rw[←ha,A5]
 have vb:val b=y:=by rw[←hb,A5]
 have la:Lb a:=by rw[←ha];exact Bb x
 have lb:Lb b:=by rw[←hb];exact Bb y
 (repeat refine AW.seq ?_);refine AW.rg ?_;simp[Al];(repeat refine AW.seq ?_);refine AW.rg ?_;simp[-Int.natCast_mul];refine⟨by omega,Ae.intro fun bl _=>?_⟩;(repeat refine AW.seq ?_);refine AW.rg ?_;simp[C5];(repeat refine AW.seq ?_);refine AW.rg ?_;simp;refine AW.seq_ex (ι:=List Nat) (fun o=>[(5,.osl bl 1 0 o.length)]) (fun o=>Ac.emp.set bl ⟨124,1,Bp o⟩) (fun o=>Lb o∧val o=x-y∧o.length<2^41) ?_ ?_
 ·(repeat refine AW.seq ?_);refine AW.rg ?_;simp;refine AW.block (AW.loopS (ι:=Nat × Nat × List Nat) (fun x=>[(0,Ao a),(1,Ao b),(5,.osl bl 1 0 a.length),(6,.int .u64 (x.2.1:Nat)),(16,.int .i64 a.length),(17,.int .i64 (x.1:Nat))]) (fun x=>Ac.emp.set bl ⟨124,1,Bp x.2.2⟩)
   (fun x=>x.1≤a.length∧x.2.1<2∧Lb x.2.2∧x.2.2.length=a.length∧val (x.2.2.take x.1)+val (b.take x.1)=val (a.take x.1)+4294967296^x.1*x.2.1) (fun x=>a.length-x.1) (0,0,a) ⟨by simp,by simp,la,rfl,by simp[val]⟩ (by simp) (by simp) ?_)
  rintro⟨i,c,o⟩ ⟨h1,h2,h3,h4,h5⟩;simp only at h1 h2 h3 h4 h5;simp only;(repeat refine AW.seq ?_);refine AW.rg ?_;simp;(repeat refine AW.seq ?_);refine AW.cs (fun hi=>?_) (fun hi=>?_) rfl<;>simp at hi
  ·refine AW.skip ?_;try simp
   have qa:=la.nth i;have qb:=lb.nth i;have hw2:=Aq (i+1) (by omega);have m1:nth a i % 18446744073709551616=nth a i:=by omega
   have m2:nth b i % 18446744073709551616=nth b i:=by omega
   (repeat refine AW.seq ?_);refine AW.block ?_;(repeat refine AW.seq ?_);refine AW.rg ?_;simp;(repeat refine AW.seq ?_);refine AW.rg ?_;simp[hi,m1];refine AW.seq_has [(0,Ao a),(1,Ao b),(5,.osl bl 1 0 a.length),(7,.int .i64 (i:Nat)),(8,.int .u64 ((18446744073709551616+nth a i-c-nth b i) % 18446744073709551616:Nat)),(16,.int .i64 a.length),(17,.int .i64 (i:Nat))] (Ac.emp.set bl ⟨124,1,Bp o⟩) ?_ ?_
   ·(repeat refine AW.seq ?_);refine AW.rg ?_;simp[-Int.natCast_emod];(repeat refine AW.seq ?_);refine AW.cs (fun hl=>?_) (fun hl=>?_) rfl<;>simp at hl
    ·(repeat refine AW.seq ?_);refine AW.rg ?_;simp[-Int.natCast_emod,hl,m2];omega
    ·refine AW.skip ?_;try simp[-Int.natCast_emod]
     simp[-Int.natCast_emod,Mx hl];omega
   generalize hs:(18446744073709551616+nth a i-c-nth b i) % 18446744073709551616=s at *;(repeat refine AW.seq ?_);refine AW.rg ?_;simp[-Int.natCast_emod,hi,h4];(repeat refine AW.seq ?_);refine AW.rg ?_;simp[-Int.natCast_ediv,-Int.natCast_emod];(repeat refine AW.seq ?_);refine AW.rg ?_;simp[-Int.natCast_add,-Int.natCast_ediv,-Int.natCast_emod,hw2];refine⟨i+1,_,_,⟨by omega,by omega,h3.set i _ (by omega),by simpa using h4,?_⟩,by omega,rfl,rfl,rfl⟩;rw[Bn _ _ _ (by omega),A1,A1,Nat.pow_succ];by_cases hc:nth a i<c+nth b i
   ·have s1:s / 9223372036854775808=1:=by omega
    have s2:s % 4294967296=nth a i+4294967296-(c+nth b i):=by omega
    rw[s1,s2];have q:4294967296^i*(nth a i+4294967296-(c+nth b i))+4294967296^i*(c+nth b i)=4294967296^i*(nth a i)+4294967296^i*4294967296:=by
     rw[←Nat.mul_add,←Nat.mul_add];congr 1;omega
    rw[Nat.mul_add _ c]at q;omega
   ·have s1:s / 9223372036854775808=0:=by omega
    have s2:s % 4294967296=nth a i-(c+nth b i):=by omega
    rw[s1,s2];have q:4294967296^i*(nth a i-(c+nth b i))+4294967296^i*(c+nth b i)=4294967296^i*(nth a i):=by
     rw[←Nat.mul_add];congr 1;omega
    rw[Nat.mul_add _ c]at q;omega
  ·refine AW.exit ?_;try simp
   refine⟨o,⟨h3,?_,by omega⟩,rfl,h4.symm⟩;have:i=a.length:=by omega
   subst this;rw[Ax o _ (by omega),Ax a _ (by omega),Ax b _ (by omega)]at h5;have q1:=Ln h3 (k:=a.length) (by omega);have q4:c=0:=by
    rcases Nat.eq_zero_or_pos c with h|h
    ·exact h
    ·have:=Nat.le_mul_of_pos_right (4294967296^a.length) h;omega
   subst q4;omega
 ·rintro o ⟨h1,h2,h3⟩;refine AW.toEmp [(5,Ao o)] (by simp;exact De (e:=124) (by simp)) ?_;(repeat refine AW.seq ?_);refine AW.rg ?_;simp;refine Aa.val (Cz o (by omega)) ?_;rw[Ck h1,h2];try simp
  exact AW.ret (Ah rfl _ (.same _) ⟨by simp,rfl⟩)
end Go.Av
end
section
namespace Go.Av
open Go.Proofs
theorem Z3 (a b:List Nat) (ha:Lb a) (hb:Lb b) (la:a.length<2^39) (lb:b.length<2^39):Ak Tryz.prog 200 [Ao a,Ao b] Ac.emp fun v m=>v=Ao (Ap (val a*val b))∧m=Ac.emp:=by
 refine Ad Tryz.func200 rfl rfl 68 rfl (Nat.le_of_ble_eq_true rfl) ?_;(repeat refine AW.seq ?_);refine AW.rg ?_;simp[Al];generalize hN:a.length+b.length=N;have hw:IntKind.i64.wrap (N:Int)=N:=wi (by omega);(repeat refine AW.seq ?_);refine AW.rg ?_;simp[-Int.natCast_mul,hN,hw];refine⟨by omega,Ae.intro fun bl _=>?_⟩;simp only[C5];refine AW.seq_ex (ι:=List Nat) (fun o=>[(5,.osl bl 1 0 o.length)]) (fun o=>Ac.emp.set bl ⟨124,1,Bp o⟩) (fun o=>Lb o∧val o=val a*val b∧o.length<2^41) ?_ ?_
 ·(repeat refine AW.seq ?_);refine AW.rg ?_;simp;refine AW.block (AW.loopS (ι:=Nat × List Nat) (fun x=>[(0,Ao a),(1,Ao b),(5,.osl bl 1 0 N),(18,.int .i64 (x.1:Nat)),(17,.int .i64 a.length)]) (fun x=>Ac.emp.set bl ⟨124,1,Bp x.2⟩)
   (fun x=>x.1≤a.length∧Lb x.2∧x.2.length=N∧val (x.2.take (x.1+b.length))=val (a.take x.1)*val b) (fun x=>a.length-x.1) (0,List.replicate N 0) ⟨by simp,Lb.rep _,by simp,by simp[val,Lu]⟩ (by simp) (by simp) ?_)
  rintro⟨i,o0⟩ ⟨h1,h3,h4,h5⟩;simp only at h1 h3 h4 h5;simp only;have hw2:=Aq (i+1) (by omega);(repeat refine AW.seq ?_);refine AW.rg ?_;simp;(repeat refine AW.seq ?_);refine AW.cs (fun hi=>?_) (fun hi=>?_) rfl<;>simp at hi
  ·refine AW.skip ?_;try simp
   (repeat refine AW.seq ?_);refine AW.block ?_;(repeat refine AW.seq ?_);refine AW.rg ?_;simp;(repeat refine AW.seq ?_);refine AW.rg ?_;simp;refine AW.seq_ex (ι:=Nat × List Nat) (fun x=>[(0,Ao a),(1,Ao b),(5,.osl bl 1 0 N),(6,.int .i64 (i:Nat)),(7,.int .u64 (x.1:Nat)),(17,.int .i64 a.length),(18,.int .i64 (i:Nat))]) (fun x=>Ac.emp.set bl ⟨124,1,Bp x.2⟩)
    (fun x=>x.1<4294967296∧Lb x.2∧x.2.length=N∧val (x.2.take (i+b.length))+4294967296^(i+b.length)*x.1=val (o0.take (i+b.length))+4294967296^i*nth a i*val b) ?_ ?_
   ·(repeat refine AW.seq ?_);refine AW.rg ?_;simp;refine AW.block (AW.loopS (ι:=Nat × Nat × List Nat) (fun x=>[(0,Ao a),(1,Ao b),(5,.osl bl 1 0 N),(6,.int .i64 (i:Nat)),(7,.int .u64 (x.2.1:Nat)),(23,.int .i64 (x.1:Nat)),(22,.int .i64 b.length),(17,.int .i64 a.length),(18,.int .i64 (i:Nat))]) (fun x=>Ac.emp.set bl ⟨124,1,Bp x.2.2⟩)
     (fun x=>x.1≤b.length∧x.2.1<4294967296∧Lb x.2.2∧x.2.2.length=N∧(∀j,i+x.1≤j→nth x.2.2 j=nth o0 j)∧val (x.2.2.take (i+x.1))+4294967296^(i+x.1)*x.2.1=val (o0.take (i+x.1))+4294967296^i*nth a i*val (b.take x.1)) (fun x=>b.length-x.1) (0,0,o0) ⟨by simp,by simp,h3,h4,fun _ _=>rfl,by simp[val]⟩ rfl (by simp) ?_)
    rintro⟨k,c,o⟩ ⟨g1,g2,g3,g4,g5,g6⟩;simp only at g1 g2 g3 g4 g5 g6;simp only;(repeat refine AW.seq ?_);refine AW.rg ?_;simp;(repeat refine AW.seq ?_);refine AW.cs (fun hk=>?_) (fun hk=>?_) rfl<;>simp at hk
    ·refine AW.skip ?_;try simp
     (repeat refine AW.seq ?_);refine AW.block ?_;(repeat refine AW.seq ?_);refine AW.rg ?_;simp;have qa:=ha.nth i;have qb:=hb.nth k;have qo:=g3.nth (i+k);have hik:=Aq (i+k) (by omega);have hk2:=Aq (k+1) (by omega);have ik:i+k<N:=by omega
     have m0:nth a i*nth b k≤4294967295*4294967295:=Nat.mul_le_mul (by omega) (by omega);have m1:nth a i % 18446744073709551616=nth a i:=by omega
     have m2:nth b k % 18446744073709551616=nth b k:=by omega
     have m3:nth o (i+k) % 18446744073709551616=nth o (i+k):=by omega
     have m4:nth a i*nth b k % 18446744073709551616=nth a i*nth b k:=by omega
     have m5:(nth a i*nth b k+nth o (i+k)) % 18446744073709551616=nth a i*nth b k+nth o (i+k):=by omega
     have m6:(nth a i*nth b k+nth o (i+k)+c) % 18446744073709551616=nth a i*nth b k+nth o (i+k)+c:=by omega
     (repeat refine AW.seq ?_);refine AW.rdA bl [0,1,2,3,4,5,6,7,8,9,10,11,12,13,14,15,16,17,18,19,20,21] Dm (by simp) ?_;simp[-Int.natCast_add,-Int.natCast_mul,hi,hk,hik,g4,ik,m1,m2,m3,m4,m5,m6];generalize hs:nth a i*nth b k+nth o (i+k)+c=s at *;(repeat refine AW.seq ?_);refine AW.rg ?_;simp[-Int.natCast_emod,-Int.natCast_add,-Int.natCast_mul,hik,g4,ik];have m7:s / 4294967296 % 18446744073709551616=s / 4294967296:=by omega
     (repeat refine AW.seq ?_);refine AW.rg ?_;simp[-Int.natCast_ediv,-Int.natCast_mul,-Int.natCast_add,-Int.natCast_emod,m7];(repeat refine AW.seq ?_);refine AW.rg ?_;simp[-Int.natCast_mul,-Int.natCast_add,-Int.natCast_emod,-Int.natCast_ediv,hk2];refine⟨k+1,_,_,⟨by omega,?_,g3.set (i+k) _ (Nat.mod_lt s (by omega)),by simpa using g4,?_,?_⟩,by omega,rfl,rfl,rfl⟩
     ·omega
     ·intro j hj;rw[Ox _ (by omega)];exact g5 j (by omega)
     ·rw[show i+(k+1)=i+k+1 by omega,Bn _ _ _ (by omega),A1,A1,Nat.pow_succ];have q:=F9 (4294967296^(i+k)) s;rw[←hs,Nat.mul_add,Nat.mul_add,hs,g5 _ (Nat.le_refl _)]at q;have e:4294967296^i*nth a i*(val (b.take k)+4294967296^k*nth b k)=4294967296^i*nth a i*val (b.take k)+4294967296^(i+k)*(nth a i*nth b k):=by
       rw[Nat.mul_add,Nat.pow_add]
       congr 1
       ac_rfl
      rw[e];omega
    ·refine AW.exit ?_;try simp
     have:k=b.length:=by omega
     subst this;rw[Ax b _ (Nat.le_refl _)]at g6;exact⟨c,o,⟨g2,g3,g4,g6⟩,rfl,rfl⟩
   ·rintro⟨c,o⟩ ⟨g2,g3,g4,g6⟩;simp only at g2 g3 g4 g6;simp only;have hil:=Aq (i+b.length) (by omega);have il:i+b.length<N:=by omega
    have m1:c % 4294967296=c:=by omega
    (repeat refine AW.seq ?_);refine AW.rg ?_;simp[-Int.natCast_add,hil,il,g4,m1];(repeat refine AW.seq ?_);refine AW.rg ?_;simp[-Int.natCast_add,hw2];refine⟨i+1,_,⟨by omega,g3.set (i+b.length) c g2,by simpa using g4,?_⟩,by omega,rfl,rfl⟩;rw[show i+1+b.length=i+b.length+1 by omega,Bn _ _ _ (by omega),g6,h5,A1,Nat.add_mul]
  ·refine AW.exit ?_;try simp
   have:i=a.length:=by omega
   subst this;refine⟨o0,⟨h3,?_,by omega⟩,rfl,h4.symm⟩;rw[Ax _ _ (by omega),Ax a _ (by omega)]at h5;exact h5
 ·rintro o ⟨h1,h2,h3⟩;refine AW.toEmp [(5,Ao o)] (by simp;exact De (e:=124) (by simp)) ?_;(repeat refine AW.seq ?_);refine AW.rg ?_;simp;refine Aa.val (Cz o (by omega)) ?_;rw[Ck h1,h2];try simp
  exact AW.ret (Ah rfl _ (.same _) ⟨by simp,rfl⟩)
theorem Qen (a b:List Nat) (ha:Lb a) (hb:Lb b) (la:a.length<2^39) (lb:b.length<2^39):Ak Tryz.prog 177 [Ao a,Ao b] Ac.emp fun v m=>v=Ao (Ap (val a*val b))∧m=Ac.emp:=by
 refine Ad Tryz.func177 rfl rfl 68 rfl (Nat.le_of_ble_eq_true rfl) ?_;(repeat refine AW.seq ?_);refine AW.rg ?_;simp[Al];generalize hN:a.length+b.length=N;have hw:IntKind.i64.wrap (N:Int)=N:=wi (by omega);(repeat refine AW.seq ?_);refine AW.rg ?_;simp[-Int.natCast_mul,hN,hw];refine⟨by omega,Ae.intro fun bl _=>?_⟩;simp only[C5];refine AW.seq_ex (ι:=List Nat) (fun o=>[(5,.osl bl 1 0 o.length)]) (fun o=>Ac.emp.set bl ⟨124,1,Bp o⟩) (fun o=>Lb o∧val o=val a*val b∧o.length<2^41) ?_ ?_
 ·(repeat refine AW.seq ?_);refine AW.rg ?_;simp;refine AW.block (AW.loopS (ι:=Nat × List Nat) (fun x=>[(0,Ao a),(1,Ao b),(5,.osl bl 1 0 N),(6,.int .i64 (x.1:Nat))]) (fun x=>Ac.emp.set bl ⟨124,1,Bp x.2⟩)
   (fun x=>x.1≤a.length∧Lb x.2∧x.2.length=N∧val (x.2.take (x.1+b.length))=val (a.take x.1)*val b) (fun x=>a.length-x.1) (0,List.replicate N 0) ⟨by simp,Lb.rep _,by simp,by simp[val,Lu]⟩ (by simp) (by simp) ?_)
  rintro⟨i,o0⟩ ⟨h1,h3,h4,h5⟩;simp only at h1 h3 h4 h5;simp only;have hw2:=Aq (i+1) (by omega);(repeat refine AW.seq ?_);refine AW.rg ?_;simp;(repeat refine AW.seq ?_);refine AW.cs (fun hi=>?_) (fun hi=>?_) rfl<;>simp at hi
  ·refine AW.skip ?_;try simp
   (repeat refine AW.seq ?_);refine AW.block ?_;(repeat refine AW.seq ?_);refine AW.rg ?_;simp;refine AW.seq_ex (ι:=Nat × List Nat) (fun x=>[(0,Ao a),(1,Ao b),(5,.osl bl 1 0 N),(6,.int .i64 (i:Nat)),(7,.int .u64 (x.1:Nat))]) (fun x=>Ac.emp.set bl ⟨124,1,Bp x.2⟩)
    (fun x=>x.1<4294967296∧Lb x.2∧x.2.length=N∧val (x.2.take (i+b.length))+4294967296^(i+b.length)*x.1=val (o0.take (i+b.length))+4294967296^i*nth a i*val b) ?_ ?_
   ·(repeat refine AW.seq ?_);refine AW.rg ?_;simp;refine AW.block (AW.loopS (ι:=Nat × Nat × List Nat) (fun x=>[(0,Ao a),(1,Ao b),(5,.osl bl 1 0 N),(6,.int .i64 (i:Nat)),(7,.int .u64 (x.2.1:Nat)),(8,.int .i64 (x.1:Nat))]) (fun x=>Ac.emp.set bl ⟨124,1,Bp x.2.2⟩)
     (fun x=>x.1≤b.length∧x.2.1<4294967296∧Lb x.2.2∧x.2.2.length=N∧(∀j,i+x.1≤j→nth x.2.2 j=nth o0 j)∧val (x.2.2.take (i+x.1))+4294967296^(i+x.1)*x.2.1=val (o0.take (i+x.1))+4294967296^i*nth a i*val (b.take x.1)) (fun x=>b.length-x.1) (0,0,o0) ⟨by simp,by simp,h3,h4,fun _ _=>rfl,by simp[val]⟩ rfl (by simp) ?_)
    rintro⟨k,c,o⟩ ⟨g1,g2,g3,g4,g5,g6⟩;simp only at g1 g2 g3 g4 g5 g6;simp only;(repeat refine AW.seq ?_);refine AW.rg ?_;simp;(repeat refine AW.seq ?_);refine AW.cs (fun hk=>?_) (fun hk=>?_) rfl<;>simp at hk
    ·refine AW.skip ?_;try simp
     (repeat refine AW.seq ?_);refine AW.block ?_;have qa:=ha.nth i;have qb:=hb.nth k;have qo:=g3.nth (i+k);have hik:=Aq (i+k) (by omega);have hk2:=Aq (k+1) (by omega);have ik:i+k<N:=by omega
     have m0:nth a i*nth b k≤4294967295*4294967295:=Nat.mul_le_mul (by omega) (by omega);have m1:nth a i % 18446744073709551616=nth a i:=by omega
     have m2:nth b k % 18446744073709551616=nth b k:=by omega
     have m3:nth o (i+k) % 18446744073709551616=nth o (i+k):=by omega
     have m4:nth a i*nth b k % 18446744073709551616=nth a i*nth b k:=by omega
     have m5:(nth a i*nth b k+nth o (i+k)) % 18446744073709551616=nth a i*nth b k+nth o (i+k):=by omega
     have m6:(nth a i*nth b k+nth o (i+k)+c) % 18446744073709551616=nth a i*nth b k+nth o (i+k)+c:=by omega
     (repeat refine AW.seq ?_);refine AW.rdA bl [0,1,2,3,4,5,6,7,8,9,10,11,12,13,14,15,16,17,18,19,20,21] Dm (by simp) ?_;simp[-Int.natCast_add,-Int.natCast_mul,hi,hk,hik,g4,ik,m1,m2,m3,m4,m5,m6];generalize hs:nth a i*nth b k+nth o (i+k)+c=s at *;(repeat refine AW.seq ?_);refine AW.rg ?_;simp[-Int.natCast_emod,-Int.natCast_add,-Int.natCast_mul,hik,g4,ik];have m7:s / 4294967296 % 18446744073709551616=s / 4294967296:=by omega
     (repeat refine AW.seq ?_);refine AW.rg ?_;simp[-Int.natCast_ediv,-Int.natCast_mul,-Int.natCast_add,-Int.natCast_emod,m7];(repeat refine AW.seq ?_);refine AW.rg ?_;simp[-Int.natCast_mul,-Int.natCast_add,-Int.natCast_emod,-Int.natCast_ediv,hk2];refine⟨k+1,_,_,⟨by omega,?_,g3.set (i+k) _ (Nat.mod_lt s (by omega)),by simpa using g4,?_,?_⟩,by omega,rfl,rfl,rfl⟩
     ·omega
     ·intro j hj;rw[Ox _ (by omega)];exact g5 j (by omega)
     ·rw[show i+(k+1)=i+k+1 by omega,Bn _ _ _ (by omega),A1,A1,Nat.pow_succ];have q:=F9 (4294967296^(i+k)) s;rw[←hs,Nat.mul_add,Nat.mul_add,hs,g5 _ (Nat.le_refl _)]at q;have e:4294967296^i*nth a i*(val (b.take k)+4294967296^k*nth b k)=4294967296^i*nth a i*val (b.take k)+4294967296^(i+k)*(nth a i*nth b k):=by
       rw[Nat.mul_add,Nat.pow_add]
       congr 1
       ac_rfl
      rw[e];omega
    ·refine AW.exit ?_;try simp
     have:k=b.length:=by omega
     subst this;rw[Ax b _ (Nat.le_refl _)]at g6;exact⟨c,o,⟨g2,g3,g4,g6⟩,rfl,rfl⟩
   ·rintro⟨c,o⟩ ⟨g2,g3,g4,g6⟩;simp only at g2 g3 g4 g6;simp only;have hil:=Aq (i+b.length) (by omega);have il:i+b.length<N:=by omega
    have m1:c % 4294967296=c:=by omega
    (repeat refine AW.seq ?_);refine AW.rg ?_;simp[-Int.natCast_add,hil,il,g4,m1];(repeat refine AW.seq ?_);refine AW.rg ?_;simp[-Int.natCast_add,hw2];refine⟨i+1,_,⟨by omega,g3.set (i+b.length) c g2,by simpa using g4,?_⟩,by omega,rfl,rfl⟩;rw[show i+1+b.length=i+b.length+1 by omega,Bn _ _ _ (by omega),g6,h5,A1,Nat.add_mul]
  ·refine AW.exit ?_;try simp
   have:i=a.length:=by omega
   subst this;refine⟨o0,⟨h3,?_,by omega⟩,rfl,h4.symm⟩;rw[Ax _ _ (by omega),Ax a _ (by omega)]at h5;exact h5
 ·rintro o ⟨h1,h2,h3⟩;refine AW.toEmp [(5,Ao o)] (by simp;exact De (e:=124) (by simp)) ?_;(repeat refine AW.seq ?_);refine AW.rg ?_;simp;refine Aa.val (D3 o (by omega)) ?_;rw[Ck h1,h2];try simp
  exact AW.ret (Ah rfl _ (.same _) ⟨by simp,rfl⟩)
end Go.Av
end
section
namespace Go.Av
open Go.Proofs
theorem Qhb {x y:Int} (hx:x.natAbs<Bj) (hy:y.natAbs<Bj):(Ap (x.natAbs+y.natAbs)).length≤129:=by
 rw[A8,Nat.pow_succ];have:Bj=4294967296^128:=rfl;omega
theorem Uc {a b:Nat} (h:a<Bj):(Ap (a-b)).length≤128:=Bi (by omega)
theorem Qcg (x y:Int) (hx:x.natAbs<Bj) (hy:y.natAbs<Bj):Ak Tryz.prog 201 [.bool (decide (x<0)),Ao (Ap x.natAbs),.bool (decide (y<0)),Ao (Ap y.natAbs)] Ac.emp fun v m=>v=Bx (x+y)∧m=Ac.emp:=by
 have lx:=Bi hx;have ly:=Bi hy;have s1:=Qhb hx hy;have s2:=Uc (b:=y.natAbs) hx;have s3:=Uc (b:=x.natAbs) hy;by_cases cx:x<0
 ·by_cases cy:y<0
  ·simp only[cx,cy,decide_true,decide_false];refine Ad Tryz.func201 rfl rfl 38 rfl (Nat.le_of_ble_eq_true rfl) ?_;(repeat refine AW.seq ?_);refine AW.rg ?_;simp[Al];refine Ae.intro fun b8 _=>?_;(repeat refine AW.seq ?_);refine AW.rg ?_;simp;refine AW.yes ?_ rfl;(repeat refine AW.seq ?_);refine AW.rg ?_;simp;refine Aa.val (W3 _ _ (Bb _) (Bb _) (by omega) (by omega)) ?_;try simp
   rw[A5,A5];try simp
   refine Aa.val (C3 true _ (Bb _) (by omega)) ?_;have e:Bx (if true=true then -(val (Ap (x.natAbs+y.natAbs)):Int) else val (Ap (x.natAbs+y.natAbs)))=Bx (x+y):=by
    rw[A5,if_pos rfl];congr 1;omega
   rw[e,Dl];simp;refine AW.ret (Dh (b:=b8) (.bool (decide (fz (x+y)<0))) (Ao (Ap (fz (x+y)).natAbs)) rfl rfl (by simp;exact⟨rfl,rfl⟩) rfl ?_ ⟨?_,rfl⟩)
   ·simp
   ·rfl
  ·simp only[cx,cy,decide_true,decide_false];refine Ad Tryz.func201 rfl rfl 38 rfl (Nat.le_of_ble_eq_true rfl) ?_;(repeat refine AW.seq ?_);refine AW.rg ?_;simp[Al];refine Ae.intro fun b8 _=>?_;(repeat refine AW.seq ?_);refine AW.rg ?_;simp;refine AW.no ?_ rfl;refine AW.skip ?_;try simp
   (repeat refine AW.seq ?_);refine AW.rg ?_;simp;refine Aa.val (Ik _ _ (by omega) (by omega)) ?_;simp[Rt];(repeat refine AW.seq ?_);refine AW.cs (fun h=>?_) (fun h=>?_) rfl<;>simp at h
   ·(repeat refine AW.seq ?_);refine AW.rg ?_;simp;refine Aa.val (Ex _ _ (by omega) (by omega)) ?_;try simp
    try simp
    refine Aa.val (C3 false _ (Bb _) (by omega)) ?_;have e:Bx (if false=true then -(val (Ap (y.natAbs-x.natAbs)):Int) else val (Ap (y.natAbs-x.natAbs)))=Bx (x+y):=by
     rw[A5,if_neg (by simp)];congr 1;omega
    rw[e,Dl];simp;refine AW.ret (Dh (b:=b8) (.bool (decide (fz (x+y)<0))) (Ao (Ap (fz (x+y)).natAbs)) rfl rfl (by simp;exact⟨rfl,rfl⟩) rfl ?_ ⟨?_,rfl⟩)
    ·simp
    ·rfl
   ·refine AW.skip ?_;try simp
    (repeat refine AW.seq ?_);refine AW.rg ?_;simp;refine Aa.val (Ex _ _ (by omega) (by omega)) ?_;try simp
    try simp
    refine Aa.val (C3 true _ (Bb _) (by omega)) ?_;have e:Bx (if true=true then -(val (Ap (x.natAbs-y.natAbs)):Int) else val (Ap (x.natAbs-y.natAbs)))=Bx (x+y):=by
     rw[A5,if_pos rfl];congr 1;omega
    rw[e,Dl];simp;refine AW.ret (Dh (b:=b8) (.bool (decide (fz (x+y)<0))) (Ao (Ap (fz (x+y)).natAbs)) rfl rfl (by simp;exact⟨rfl,rfl⟩) rfl ?_ ⟨?_,rfl⟩)
    ·simp
    ·rfl
 ·by_cases cy:y<0
  ·simp only[cx,cy,decide_true,decide_false];refine Ad Tryz.func201 rfl rfl 38 rfl (Nat.le_of_ble_eq_true rfl) ?_;(repeat refine AW.seq ?_);refine AW.rg ?_;simp[Al];refine Ae.intro fun b8 _=>?_;(repeat refine AW.seq ?_);refine AW.rg ?_;simp;refine AW.no ?_ rfl;refine AW.skip ?_;try simp
   (repeat refine AW.seq ?_);refine AW.rg ?_;simp;refine Aa.val (Ik _ _ (by omega) (by omega)) ?_;simp[Rt];(repeat refine AW.seq ?_);refine AW.cs (fun h=>?_) (fun h=>?_) rfl<;>simp at h
   ·(repeat refine AW.seq ?_);refine AW.rg ?_;simp;refine Aa.val (Ex _ _ (by omega) (by omega)) ?_;try simp
    try simp
    refine Aa.val (C3 true _ (Bb _) (by omega)) ?_;have e:Bx (if true=true then -(val (Ap (y.natAbs-x.natAbs)):Int) else val (Ap (y.natAbs-x.natAbs)))=Bx (x+y):=by
     rw[A5,if_pos rfl];congr 1;omega
    rw[e,Dl];simp;refine AW.ret (Dh (b:=b8) (.bool (decide (fz (x+y)<0))) (Ao (Ap (fz (x+y)).natAbs)) rfl rfl (by simp;exact⟨rfl,rfl⟩) rfl ?_ ⟨?_,rfl⟩)
    ·simp
    ·rfl
   ·refine AW.skip ?_;try simp
    (repeat refine AW.seq ?_);refine AW.rg ?_;simp;refine Aa.val (Ex _ _ (by omega) (by omega)) ?_;try simp
    try simp
    refine Aa.val (C3 false _ (Bb _) (by omega)) ?_;have e:Bx (if false=true then -(val (Ap (x.natAbs-y.natAbs)):Int) else val (Ap (x.natAbs-y.natAbs)))=Bx (x+y):=by
     rw[A5,if_neg (by simp)];congr 1;omega
    rw[e,Dl];simp;refine AW.ret (Dh (b:=b8) (.bool (decide (fz (x+y)<0))) (Ao (Ap (fz (x+y)).natAbs)) rfl rfl (by simp;exact⟨rfl,rfl⟩) rfl ?_ ⟨?_,rfl⟩)
    ·simp
    ·rfl
  ·simp only[cx,cy,decide_true,decide_false];refine Ad Tryz.func201 rfl rfl 38 rfl (Nat.le_of_ble_eq_true rfl) ?_;(repeat refine AW.seq ?_);refine AW.rg ?_;simp[Al];refine Ae.intro fun b8 _=>?_;(repeat refine AW.seq ?_);refine AW.rg ?_;simp;refine AW.yes ?_ rfl;(repeat refine AW.seq ?_);refine AW.rg ?_;simp;refine Aa.val (W3 _ _ (Bb _) (Bb _) (by omega) (by omega)) ?_;try simp
   rw[A5,A5];try simp
   refine Aa.val (C3 false _ (Bb _) (by omega)) ?_;have e:Bx (if false=true then -(val (Ap (x.natAbs+y.natAbs)):Int) else val (Ap (x.natAbs+y.natAbs)))=Bx (x+y):=by
    rw[A5,if_neg (by simp)];congr 1;omega
   rw[e,Dl];simp;refine AW.ret (Dh (b:=b8) (.bool (decide (fz (x+y)<0))) (Ao (Ap (fz (x+y)).natAbs)) rfl rfl (by simp;exact⟨rfl,rfl⟩) rfl ?_ ⟨?_,rfl⟩)
   ·simp
   ·rfl
theorem Xy (x y:Int) (hx:x.natAbs<Bj) (hy:y.natAbs<Bj):Ak Tryz.prog 184 [Ay x,Ay y] Ac.emp fun v m=>v=Bx (x+y)∧m=Ac.emp:=by
 have hb:=Q4 x y hx hy;have hs:=Qcg x y hx hy;unfold Ay at *;refine Ad Tryz.func184 rfl rfl 22 rfl (Nat.le_of_ble_eq_true rfl) ?_;(repeat refine AW.seq ?_);refine AW.rgR [2,3] ?_;simp[Al];refine Ae.intro fun b4 _=>?_;(repeat refine AW.seq ?_);refine AW.rg ?_;simp;refine Aa.val hb ?_;try simp
 refine AW.no ?_ rfl;refine AW.skip ?_;try simp
 (repeat refine AW.seq ?_);refine AW.rg ?_;simp;refine Aa.val hs ?_;rw[Dl];simp;refine AW.ret (Dh (b:=b4) (.bool (decide (fz (x+y)<0))) (Ao (Ap (fz (x+y)).natAbs)) rfl rfl (by simp;exact⟨rfl,rfl⟩) rfl ?_ ⟨?_,rfl⟩)
 ·simp
 ·rfl
theorem Sj (x y:Int):val (Ap x.natAbs)*val (Ap y.natAbs)=(x*y).natAbs:=by rw[A5,A5,Int.natAbs_mul]
theorem Qhj {x y:Int} (hx:x.natAbs<Bj) (hy:y.natAbs<Bj):(Ap (x*y).natAbs).length≤256:=by
 rw[A8,Int.natAbs_mul,show 256=128+128 by rfl,Nat.pow_add];exact Nat.mul_lt_mul'' hx hy
theorem Qdn (x y:Int):Bx (if (decide (x<0) != decide (y<0))=true then -((x*y).natAbs:Int) else (x*y).natAbs)=Bx (x*y):=by
 congr 1
 by_cases cx:x<0<;>by_cases cy:y<0<;>simp[cx,cy]
 ·have:=Int.mul_nonneg_of_nonpos_of_nonpos (Int.le_of_lt cx) (Int.le_of_lt cy);omega
 ·have:=Int.mul_nonpos_of_nonpos_of_nonneg (Int.le_of_lt cx) (Int.not_lt.1 cy);omega
 ·have:=Int.mul_nonpos_of_nonneg_of_nonpos (Int.not_lt.1 cx) (Int.le_of_lt cy);omega
 ·have:=Int.mul_nonneg (Int.not_lt.1 cx) (Int.not_lt.1 cy);omega
theorem E3 (x y:Int) (hx:x.natAbs<Bj) (hy:y.natAbs<Bj):Ak Tryz.prog 183 [Ay x,Ay y] Ac.emp fun v m=>v=Bx (x*y)∧m=Ac.emp:=by
 have hb:=Q4 x y hx hy;have lx:=Bi hx;have ly:=Bi hy;have lm:=Qhj hx hy;have hp:=Z3 (Ap x.natAbs) (Ap y.natAbs) (Bb _) (Bb _) (by omega) (by omega);rw[Sj]at hp;have hr:=C3 (decide (x<0) != decide (y<0)) (Ap (x*y).natAbs) (Bb _) (by omega);rw[A5,Qdn,bne]at hr;unfold Ay at *;refine Ad Tryz.func183 rfl rfl 24 rfl (Nat.le_of_ble_eq_true rfl) ?_;(repeat refine AW.seq ?_);refine AW.rgR [2,3] ?_;simp[Al];refine Ae.intro fun b4 _=>?_;(repeat refine AW.seq ?_);refine AW.rg ?_;simp;refine Aa.val hb ?_
 try simp
 refine AW.no ?_ rfl;refine AW.skip ?_;try simp
 (repeat refine AW.seq ?_);refine AW.rd [0,1,2,3,4,5,6,7,8,9,10,11,12,13,14] Dm ?_;simp;refine Aa.val hp ?_;try simp
 refine Aa.val hr ?_;rw[Dl];simp;refine AW.ret (Dh (b:=b4) (.bool (decide (fz (x*y)<0))) (Ao (Ap (fz (x*y)).natAbs)) rfl rfl (by simp;exact⟨rfl,rfl⟩) rfl ?_ ⟨?_,rfl⟩)
 ·simp
 ·rfl
end Go.Av
end
section
namespace Go.Av
open Go.Proofs
theorem Gm {x:Int} (hx:x.natAbs<Bj):Ak Tryz.prog 77 [Ay x] Ac.emp fun v m=>v=.bool true∧m=Ac.emp:=by
 have:=Hm (decide (x<0)) (Ap x.natAbs);rw[Fh hx]at this;exact this
theorem Rf (x y:Int) (hx:x.natAbs<Bj) (hy:y.natAbs<Bj):Ak Tryz.prog 140 [Ay x,Ay y] Ac.emp fun v m=>v=Bx (x*y)∧m=Ac.emp:=by
 have v1:=Gm hx;have v2:=Gm hy;have lx:=Bi hx;have ly:=Bi hy;have lm:=Qhj hx hy;have hp:=Qen (Ap x.natAbs) (Ap y.natAbs) (Bb _) (Bb _) (by omega) (by omega);rw[Sj]at hp;have hr:=Ev (decide (x<0) != decide (y<0)) (Ap (x*y).natAbs) (Bb _) (by omega);rw[A5,Qdn,bne]at hr;unfold Ay at *;refine Ad Tryz.func140 rfl rfl 28 rfl (Nat.le_of_ble_eq_true rfl) ?_;(repeat refine AW.seq ?_);refine AW.rgR [2,3] ?_;simp[Al];refine Ae.intro fun b4 _=>?_;(repeat refine AW.seq ?_);refine AW.rg ?_;simp
 refine Aa.val v1 ?_;simp;refine Aa.val v2 ?_;simp;refine AW.no ?_ rfl;refine AW.skip ?_;try simp
 (repeat refine AW.seq ?_);refine AW.rd [0,1,2,3,4,5,6,7,8,9,10,11,12,13,14] Dm ?_;simp;refine Aa.val hp ?_;try simp
 refine Aa.val hr ?_;rw[Dl];simp;refine AW.ret (Dh (b:=b4) (.bool (decide (fz (x*y)<0))) (Ao (Ap (fz (x*y)).natAbs)) rfl rfl (by simp;exact⟨rfl,rfl⟩) rfl ?_ ⟨?_,rfl⟩)
 ·simp
 ·rfl
theorem Vl {x y:Nat}:0≤Hn x y↔y≤x:=by unfold Hn;split<;>(try split)<;>omega
theorem Qiv (x y:Int) (hx:x.natAbs<Bj) (hy:y.natAbs<Bj):Ak Tryz.prog 142 [Ay x,Ay y] Ac.emp fun v m=>v=Bx (x+y)∧m=Ac.emp:=by
 have v1:=Gm hx;have v2:=Gm hy;have lx:=Bi hx;have ly:=Bi hy;have s1:=Qhb hx hy;have s2:=Uc (b:=y.natAbs) hx;have s3:=Uc (b:=x.natAbs) hy;unfold Ay at *;by_cases cx:x<0
 ·by_cases cy:y<0
  ·simp only[cx,cy,decide_true,decide_false]at v1 v2 ⊢;refine Ad Tryz.func142 rfl rfl 56 rfl (Nat.le_of_ble_eq_true rfl) ?_;(repeat refine AW.seq ?_);refine AW.rgR [2,3] ?_;simp[Al];refine Ae.intro fun b4 _=>?_;(repeat refine AW.seq ?_);refine AW.rg ?_;simp;refine Aa.val v1 ?_;simp;refine Aa.val v2 ?_;simp;refine AW.no ?_ rfl;refine AW.skip ?_;try simp
   (repeat refine AW.seq ?_);refine AW.rg ?_;simp;refine AW.yes ?_ rfl;(repeat refine AW.seq ?_);refine AW.rd [0,1,2,3,4,5,6,7,8,9,10,11] Dm ?_;simp;refine Aa.val (Ku _ _ (Bb _) (Bb _) (by omega) (by omega)) ?_;try simp
   rw[A5,A5];try simp
   refine Aa.val (Ev true _ (Bb _) (by omega)) ?_;have e:Bx (if true=true then -(val (Ap (x.natAbs+y.natAbs)):Int) else val (Ap (x.natAbs+y.natAbs)))=Bx (x+y):=by
    rw[A5,if_pos rfl];congr 1;omega
   rw[e,Dl];simp;refine AW.ret (Dh (b:=b4) (.bool (decide (fz (x+y)<0))) (Ao (Ap (fz (x+y)).natAbs)) rfl rfl (by simp;exact⟨rfl,rfl⟩) rfl ?_ ⟨?_,rfl⟩)
   ·simp
   ·rfl
  ·simp only[cx,cy,decide_true,decide_false]at v1 v2 ⊢;refine Ad Tryz.func142 rfl rfl 56 rfl (Nat.le_of_ble_eq_true rfl) ?_;(repeat refine AW.seq ?_);refine AW.rgR [2,3] ?_;simp[Al];refine Ae.intro fun b4 _=>?_;(repeat refine AW.seq ?_);refine AW.rg ?_;simp;refine Aa.val v1 ?_;simp;refine Aa.val v2 ?_;simp;refine AW.no ?_ rfl;refine AW.skip ?_;try simp
   (repeat refine AW.seq ?_);refine AW.rg ?_;simp;refine AW.no ?_ rfl;refine AW.skip ?_;try simp
   (repeat refine AW.seq ?_);refine AW.rg ?_;simp;refine Aa.val (I6 _ _ (by omega) (by omega)) ?_;simp[Vl];(repeat refine AW.seq ?_);refine AW.cs (fun h=>?_) (fun h=>?_) rfl<;>simp at h
   ·(repeat refine AW.seq ?_);refine AW.rd [0,1,2,3,4,5,6,7,8,9,10,11] Dm ?_;simp;refine Aa.val (Gc _ _ (by omega) (by omega)) ?_;try simp
    try simp
    refine Aa.val (Ev true _ (Bb _) (by omega)) ?_;have e:Bx (if true=true then -(val (Ap (x.natAbs-y.natAbs)):Int) else val (Ap (x.natAbs-y.natAbs)))=Bx (x+y):=by
     rw[A5,if_pos rfl];congr 1;omega
    rw[e,Dl];simp;refine AW.ret (Dh (b:=b4) (.bool (decide (fz (x+y)<0))) (Ao (Ap (fz (x+y)).natAbs)) rfl rfl (by simp;exact⟨rfl,rfl⟩) rfl ?_ ⟨?_,rfl⟩)
    ·simp
    ·rfl
   ·refine AW.skip ?_;try simp
    (repeat refine AW.seq ?_);refine AW.rd [0,1,2,3,4,5,6,7,8,9,10,11] Dm ?_;simp;refine Aa.val (Gc _ _ (by omega) (by omega)) ?_;try simp
    try simp
    refine Aa.val (Ev false _ (Bb _) (by omega)) ?_;have e:Bx (if false=true then -(val (Ap (y.natAbs-x.natAbs)):Int) else val (Ap (y.natAbs-x.natAbs)))=Bx (x+y):=by
     rw[A5,if_neg (by simp)];congr 1;omega
    rw[e,Dl];simp;refine AW.ret (Dh (b:=b4) (.bool (decide (fz (x+y)<0))) (Ao (Ap (fz (x+y)).natAbs)) rfl rfl (by simp;exact⟨rfl,rfl⟩) rfl ?_ ⟨?_,rfl⟩)
    ·simp
    ·rfl
 ·by_cases cy:y<0
  ·simp only[cx,cy,decide_true,decide_false]at v1 v2 ⊢;refine Ad Tryz.func142 rfl rfl 56 rfl (Nat.le_of_ble_eq_true rfl) ?_;(repeat refine AW.seq ?_);refine AW.rgR [2,3] ?_;simp[Al];refine Ae.intro fun b4 _=>?_;(repeat refine AW.seq ?_);refine AW.rg ?_;simp;refine Aa.val v1 ?_;simp;refine Aa.val v2 ?_;simp;refine AW.no ?_ rfl;refine AW.skip ?_;try simp
   (repeat refine AW.seq ?_);refine AW.rg ?_;simp;refine AW.no ?_ rfl;refine AW.skip ?_;try simp
   (repeat refine AW.seq ?_);refine AW.rg ?_;simp;refine Aa.val (I6 _ _ (by omega) (by omega)) ?_;simp[Vl];(repeat refine AW.seq ?_);refine AW.cs (fun h=>?_) (fun h=>?_) rfl<;>simp at h
   ·(repeat refine AW.seq ?_);refine AW.rd [0,1,2,3,4,5,6,7,8,9,10,11] Dm ?_;simp;refine Aa.val (Gc _ _ (by omega) (by omega)) ?_;try simp
    try simp
    refine Aa.val (Ev false _ (Bb _) (by omega)) ?_;have e:Bx (if false=true then -(val (Ap (x.natAbs-y.natAbs)):Int) else val (Ap (x.natAbs-y.natAbs)))=Bx (x+y):=by
     rw[A5,if_neg (by simp)];congr 1;omega
    rw[e,Dl];simp;refine AW.ret (Dh (b:=b4) (.bool (decide (fz (x+y)<0))) (Ao (Ap (fz (x+y)).natAbs)) rfl rfl (by simp;exact⟨rfl,rfl⟩) rfl ?_ ⟨?_,rfl⟩)
    ·simp
    ·rfl
   ·refine AW.skip ?_;try simp
    (repeat refine AW.seq ?_);refine AW.rd [0,1,2,3,4,5,6,7,8,9,10,11] Dm ?_;simp;refine Aa.val (Gc _ _ (by omega) (by omega)) ?_;try simp
    try simp
    refine Aa.val (Ev true _ (Bb _) (by omega)) ?_;have e:Bx (if true=true then -(val (Ap (y.natAbs-x.natAbs)):Int) else val (Ap (y.natAbs-x.natAbs)))=Bx (x+y):=by
     rw[A5,if_pos rfl];congr 1;omega
    rw[e,Dl];simp;refine AW.ret (Dh (b:=b4) (.bool (decide (fz (x+y)<0))) (Ao (Ap (fz (x+y)).natAbs)) rfl rfl (by simp;exact⟨rfl,rfl⟩) rfl ?_ ⟨?_,rfl⟩)
    ·simp
    ·rfl
  ·simp only[cx,cy,decide_true,decide_false]at v1 v2 ⊢;refine Ad Tryz.func142 rfl rfl 56 rfl (Nat.le_of_ble_eq_true rfl) ?_;(repeat refine AW.seq ?_);refine AW.rgR [2,3] ?_;simp[Al];refine Ae.intro fun b4 _=>?_;(repeat refine AW.seq ?_);refine AW.rg ?_;simp;refine Aa.val v1 ?_;simp;refine Aa.val v2 ?_;simp;refine AW.no ?_ rfl;refine AW.skip ?_;try simp
   (repeat refine AW.seq ?_);refine AW.rg ?_;simp;refine AW.yes ?_ rfl;(repeat refine AW.seq ?_);refine AW.rd [0,1,2,3,4,5,6,7,8,9,10,11] Dm ?_;simp;refine Aa.val (Ku _ _ (Bb _) (Bb _) (by omega) (by omega)) ?_;try simp
   rw[A5,A5];try simp
   refine Aa.val (Ev false _ (Bb _) (by omega)) ?_;have e:Bx (if false=true then -(val (Ap (x.natAbs+y.natAbs)):Int) else val (Ap (x.natAbs+y.natAbs)))=Bx (x+y):=by
    rw[A5,if_neg (by simp)];congr 1;omega
   rw[e,Dl];simp;refine AW.ret (Dh (b:=b4) (.bool (decide (fz (x+y)<0))) (Ao (Ap (fz (x+y)).natAbs)) rfl rfl (by simp;exact⟨rfl,rfl⟩) rfl ?_ ⟨?_,rfl⟩)
   ·simp
   ·rfl
end Go.Av
end
section
namespace Go.Av
open Go.Proofs
theorem Qx {l:List Nat} {i:Nat} (x:Nat) (h:i<l.length):val ((l.set i x).drop i)=x+4294967296*val (l.drop (i+1)):=by
 have e:(l.set i x).drop i=x::l.drop (i+1):=by
  rw[List.drop_eq_getElem_cons (by simpa using h),List.getElem_set_self,List.drop_set_of_lt (by omega)]
 rw[e,val]
theorem Wd (x d j:Nat) (hd:d≠0):x / 4294967296^j / d=(x / 4294967296^(j+1) % d*4294967296+x / 4294967296^j % 4294967296) / d+4294967296*(x / 4294967296^(j+1) / d) ∧
  x / 4294967296^j % d=(x / 4294967296^(j+1) % d*4294967296+x / 4294967296^j % 4294967296) % d:=by
 rw[Nat.pow_succ,←Nat.div_div_eq_div_mul];generalize x / 4294967296^j=y;have h1:y=y / 4294967296*4294967296+y % 4294967296:=by omega
 have h2:y / 4294967296=d*(y / 4294967296 / d)+y / 4294967296 % d:=(Nat.div_add_mod _ _).symm;generalize y / 4294967296 / d=q at *;generalize y / 4294967296 % d=r at *;generalize y % 4294967296=l at *;have h3:y=r*4294967296+l+d*(q*4294967296):=by
  rw[h1,h2,Nat.add_mul,Nat.mul_assoc];omega
 rw[h3];constructor
 ·rw[Nat.add_mul_div_left _ _ (by omega)];omega
 ·rw[Nat.add_mul_mod_self_left]
theorem Qak {r l:Nat} (hl:l<4294967296):r*4294967296 ||| l=r*4294967296+l:=by
 have:=Nat.two_pow_add_eq_or_of_lt (i:=32) (b:=l) hl r;rw[show 2^32=4294967296 by rfl,Nat.mul_comm]at this;exact this.symm
theorem Qfg (x d:Nat) (hd:d≠0) (hd2:d<4294967296) (lx:(Ap x).length<2^39):Ak Tryz.prog 164 [Ao (Ap x),.int .u32 (d:Nat)] Ac.emp fun v m=>v=.tup [Ao (Ap (x / d)),.int .u32 ((x % d:Nat):Int)]∧m=Ac.emp:=by
 refine Ad Tryz.func164 rfl rfl 49 rfl (Nat.le_of_ble_eq_true rfl) ?_;have hx:=A5 x;have hb:=Bb x;have hnth:=Fp x;have hx2:x<4294967296^(Ap x).length:=A8.1 (Nat.le_refl _);generalize ha:Ap x=a at *;have dm:d % 18446744073709551616=d:=by omega
 (repeat refine AW.seq ?_);refine AW.rg ?_;simp[-Int.natCast_emod,Al];(repeat refine AW.seq ?_);refine AW.rg ?_;simp[-Int.natCast_mul,-Int.natCast_emod];refine⟨by omega,Ae.intro fun bl _=>?_⟩;simp only[C5];(repeat refine AW.seq ?_);refine AW.rg ?_;simp[-Int.natCast_emod];refine AW.seq_ex (ι:=List Nat) (fun o=>[(6,.osl bl 1 0 o.length),(7,.int .u64 ((x % d:Nat):Int))]) (fun o=>Ac.emp.set bl ⟨124,1,Bp o⟩) (fun o=>Lb o∧val o=x / d∧o.length<2^41) ?_ ?_
 ·(repeat refine AW.seq ?_);refine AW.rg ?_;simp[-Int.natCast_emod];refine AW.block (AW.loopS (ι:=Nat × List Nat) (fun z=>[(0,Ao a),(1,.int .u32 (d:Nat)),(6,.osl bl 1 0 a.length),(7,.int .u64 ((x / 4294967296^(a.length-z.1) % d:Nat):Int)),(15,.int .i64 a.length),(16,.int .i64 (z.1:Nat))]) (fun z=>Ac.emp.set bl ⟨124,1,Bp z.2⟩)
   (fun z=>z.1≤a.length∧Lb z.2∧z.2.length=a.length∧val (z.2.drop (a.length-z.1))=x / 4294967296^(a.length-z.1) / d) (fun z=>a.length-z.1) (0,List.replicate a.length 0) ⟨by simp,Lb.rep _,by simp,?_⟩ rfl ?_ ?_)
  ·simp only[Nat.sub_zero];rw[List.drop_eq_nil_of_le (by simp),Nat.div_eq_of_lt hx2];simp[val]
  ·simp[Nat.div_eq_of_lt hx2]
  rintro⟨k,o⟩ ⟨h1,h3,h4,h5⟩;simp only at h1 h3 h4 h5;simp only;(repeat refine AW.seq ?_);refine AW.rg ?_;simp[-Int.natCast_ediv,-Int.natCast_emod,-Int.natCast_pow];(repeat refine AW.seq ?_);refine AW.cs (fun hk=>?_) (fun hk=>?_) rfl<;>simp at hk
  ·obtain⟨i,hi⟩:∃i,a.length-k=i+1:=⟨a.length-k-1,by omega⟩;have hi2:a.length-(k+1)=i:=by omega
   have hw:IntKind.i64.wrap ((a.length:Int)-1)=((a.length-1:Nat):Int):=by rw[Pk (by omega)];omega
   have hw2:IntKind.i64.wrap (((a.length-1:Nat):Int)-(k:Int))=(i:Int):=by rw[Pk (by omega)];omega
   have hw3:=Aq (k+1) (by omega);have i1:i<a.length:=by omega
   rw[hi]at h5 ⊢;obtain⟨st1,st2⟩:=Wd x d i hd;have qn:=hnth i;have ql:=hb.nth i;rw[←qn]at st1 st2;have qr:x / 4294967296^(i+1) % d<d:=Nat.mod_lt _ (by omega);generalize x / 4294967296^(i+1) % d=r at *;have m1:r*4294967296 % 18446744073709551616=r*4294967296:=by omega
   have m2:nth a i % 18446744073709551616=nth a i:=by omega
   have m3:G9 .or .u64 ((r*4294967296:Nat):Int) (nth a i:Int)=((r*4294967296+nth a i:Nat):Int):=by
    rw[Zy (by omega) (by omega),Qak ql]
   have m4:(r*4294967296+nth a i) / d<4294967296:=by
    refine Nat.div_lt_of_lt_mul ?_;have:(r+1)*4294967296≤d*4294967296:=Nat.mul_le_mul_right _ qr;omega
   have m5:(r*4294967296+nth a i) / d % 18446744073709551616=(r*4294967296+nth a i) / d:=Nat.mod_eq_of_lt (Nat.lt_of_lt_of_le m4 (by omega));have m6:(r*4294967296+nth a i) / d % 4294967296=(r*4294967296+nth a i) / d:=Nat.mod_eq_of_lt m4;refine AW.skip ?_;try simp[-Int.natCast_ediv,-Int.natCast_emod,-Int.natCast_pow]
   (repeat refine AW.seq ?_);refine AW.block ?_;(repeat refine AW.seq ?_);refine AW.rg ?_;simp[-Int.natCast_ediv,-Int.natCast_emod,-Int.natCast_pow];(repeat refine AW.seq ?_);refine AW.rg ?_;simp[-Int.natCast_ediv,-Int.natCast_emod,-Int.natCast_pow,hw,hw2];(repeat refine AW.seq ?_);refine AW.rg ?_;simp[-Int.natCast_add,-Int.natCast_mul,-Int.natCast_ediv,-Int.natCast_emod,-Int.natCast_pow,i1,m1,m2,m3];(repeat refine AW.seq ?_);refine AW.rg ?_;simp[-Int.natCast_ediv,-Int.natCast_emod,-Int.natCast_pow,-Int.natCast_add,-Int.natCast_mul,i1,h4,dm,hd,m5,m6];(repeat refine AW.seq ?_)
   refine AW.rg ?_;simp[-Int.natCast_emod,-Int.natCast_add,-Int.natCast_ediv,-Int.natCast_mul,dm,hd];(repeat refine AW.seq ?_);refine AW.rg ?_;simp[-Int.natCast_ediv,-Int.natCast_add,-Int.natCast_emod,-Int.natCast_mul,hw3];refine⟨k+1,_,⟨by omega,h3.set i _ m4,by simpa using h4,?_⟩,by omega,rfl,?_,rfl⟩
   ·rw[hi2,Qx _ (by omega),h5,st1]
   ·rw[hi2,st2]
  ·refine AW.exit ?_;try simp[-Int.natCast_ediv,-Int.natCast_emod,-Int.natCast_pow]
   have:a.length-k=0:=by omega
   rw[this]at h5 ⊢;simp at h5 ⊢;exact⟨o,⟨h3,h5,by omega⟩,rfl,h4.symm⟩
 ·rintro o ⟨h1,h2,h3⟩;refine AW.toEmp [(6,Ao o),(7,.int .u64 ((x % d:Nat):Int))] (by simp[-Int.natCast_emod];exact De (e:=124) (by simp)) ?_;(repeat refine AW.seq ?_);refine AW.rg ?_;simp[-Int.natCast_emod];refine Aa.val (Cz o (by omega)) ?_;rw[Ck h1,h2];have:x % d<d:=Nat.mod_lt _ (by omega);have m:x % d % 4294967296=x % d:=by omega
  simp[-Int.natCast_emod,m];exact AW.ret (Af [Ao (Ap (x / d)),.int .u32 ((x % d:Nat):Int)] rfl (by simp[-Int.natCast_emod]) ⟨rfl,rfl⟩)
end Go.Av
end
section
namespace Go.Av
open Go.Proofs
theorem Qv5 {r d l:Nat} (h1:r<d) (h2:d<4294967296) (h3:l<4294967296):r*4294967296+l<18446744073709551616:=by omega
theorem Q06 {q:Nat} (h:q<4294967296):q % 18446744073709551616=q:=by omega
theorem Qei (x d:Nat) (hd:d≠0) (hd2:d<4294967296) (lx:(Ap x).length<2^39):Ak Tryz.prog 207 [Ao (Ap x),.int .u32 (d:Nat)] Ac.emp fun v m=>v=.tup [Ao (Ap (x / d)),.int .u32 ((x % d:Nat):Int)]∧m=Ac.emp:=by
 refine Ad Tryz.func207 rfl rfl 43 rfl (Nat.le_of_ble_eq_true rfl) ?_;have hx:=A5 x;have hb:=Bb x;have hnth:=Fp x;have hx2:x<4294967296^(Ap x).length:=A8.1 (Nat.le_refl _);generalize ha:Ap x=a at *;have dm:d % 18446744073709551616=d:=by omega
 have hw0:IntKind.i64.wrap ((a.length:Int)-1)=(a.length:Int)-1:=by rw[Pk (by omega)]
 (repeat refine AW.seq ?_);refine AW.rg ?_;simp[-Int.natCast_emod,Al];(repeat refine AW.seq ?_);refine AW.rg ?_;simp[-Int.natCast_mul,-Int.natCast_emod];refine⟨by omega,Ae.intro fun bl _=>?_⟩;simp only[C5];(repeat refine AW.seq ?_);refine AW.rg ?_;simp[-Int.natCast_emod];refine AW.seq_ex (ι:=List Nat) (fun o=>[(6,.osl bl 1 0 o.length),(7,.int .u64 ((x % d:Nat):Int))]) (fun o=>Ac.emp.set bl ⟨124,1,Bp o⟩) (fun o=>Lb o∧val o=x / d∧o.length<2^41) ?_ ?_
 ·(repeat refine AW.seq ?_);refine AW.rg ?_;simp[-Int.natCast_emod,hw0];refine AW.block (AW.loopS (ι:=Nat × List Nat) (fun z=>[(0,Ao a),(1,.int .u32 (d:Nat)),(6,.osl bl 1 0 a.length),(7,.int .u64 ((x / 4294967296^z.1 % d:Nat):Int)),(8,.int .i64 ((z.1:Int)-1))]) (fun z=>Ac.emp.set bl ⟨124,1,Bp z.2⟩)
   (fun z=>z.1≤a.length∧Lb z.2∧z.2.length=a.length∧val (z.2.drop z.1)=x / 4294967296^z.1 / d) (fun z=>z.1) (a.length,List.replicate a.length 0) ⟨by simp,Lb.rep _,by simp,?_⟩ rfl ?_ ?_)
  ·simp only[];rw[List.drop_eq_nil_of_le (by simp),Nat.div_eq_of_lt hx2];simp[val]
  ·simp[Nat.div_eq_of_lt hx2]
  rintro⟨k,o⟩ ⟨h1,h3,h4,h5⟩;simp only at h1 h3 h4 h5;simp only;rcases Nat.eq_zero_or_pos k with rfl|hk
  ·(repeat refine AW.seq ?_);refine AW.rg ?_;simp[-Int.natCast_emod];refine AW.no ?_ rfl;refine AW.exit ?_;try simp[-Int.natCast_emod]
   simp at h5;exact⟨o,⟨h3,h5,by omega⟩,rfl,h4.symm⟩
  ·obtain⟨i,rfl⟩:∃i,k=i+1:=⟨k-1,by omega⟩;have ei:((i+1:Nat):Int)-1=(i:Int):=by omega
   rw[ei];have hw2:IntKind.i64.wrap ((i:Int)-1)=(i:Int)-1:=by rw[Pk (by omega)]
   have i1:i<a.length:=by omega
   obtain⟨st1,st2⟩:=Wd x d i hd;have qn:=hnth i;have ql:=hb.nth i;rw[←qn]at st1 st2;have qr:x / 4294967296^(i+1) % d<d:=Nat.mod_lt _ (by omega);generalize x / 4294967296^(i+1) % d=r at *;have m1:r*4294967296 % 18446744073709551616=r*4294967296:=by omega
   have m2:nth a i % 18446744073709551616=nth a i:=by omega
   have m3:(r*4294967296+nth a i) % 18446744073709551616=r*4294967296+nth a i:=Nat.mod_eq_of_lt (Qv5 qr hd2 ql);have m4:(r*4294967296+nth a i) / d<4294967296:=by
    refine Nat.div_lt_of_lt_mul ?_;have:(r+1)*4294967296≤d*4294967296:=Nat.mul_le_mul_right _ qr;omega
   have m5:(r*4294967296+nth a i) / d % 18446744073709551616=(r*4294967296+nth a i) / d:=Q06 m4;have m6:(r*4294967296+nth a i) / d % 4294967296=(r*4294967296+nth a i) / d:=Nat.mod_eq_of_lt m4;(repeat refine AW.seq ?_);refine AW.rg ?_;simp[-Int.natCast_ediv,-Int.natCast_emod,-Int.natCast_pow];refine AW.yes ?_ rfl;refine AW.skip ?_;try simp[-Int.natCast_ediv,-Int.natCast_emod,-Int.natCast_pow]
   (repeat refine AW.seq ?_);refine AW.block ?_;(repeat refine AW.seq ?_);refine AW.rg ?_;simp[-Int.natCast_add,-Int.natCast_mul,-Int.natCast_ediv,-Int.natCast_emod,-Int.natCast_pow,i1,m1,m2,m3];(repeat refine AW.seq ?_);refine AW.rg ?_;simp[-Int.natCast_ediv,-Int.natCast_emod,-Int.natCast_pow,-Int.natCast_add,-Int.natCast_mul,i1,h4,dm,hd,m5,m6];(repeat refine AW.seq ?_);refine AW.rg ?_;simp[-Int.natCast_emod,-Int.natCast_add,-Int.natCast_ediv,-Int.natCast_mul,dm,hd];(repeat refine AW.seq ?_);refine AW.rg ?_;simp[-Int.natCast_ediv,-Int.natCast_add,-Int.natCast_emod,-Int.natCast_mul,hw2]
   refine⟨i,_,⟨by omega,h3.set i _ m4,by simpa using h4,?_⟩,by omega,rfl,?_,rfl⟩
   ·rw[Qx _ (by omega),h5,st1]
   ·rw[st2]
 ·rintro o ⟨h1,h2,h3⟩;refine AW.toEmp [(6,Ao o),(7,.int .u64 ((x % d:Nat):Int))] (by simp[-Int.natCast_emod];exact De (e:=124) (by simp)) ?_;(repeat refine AW.seq ?_);refine AW.rg ?_;simp[-Int.natCast_emod];refine Aa.val (D3 o (by omega)) ?_;rw[Ck h1,h2];have:x % d<d:=Nat.mod_lt _ (by omega);have m:x % d % 4294967296=x % d:=by omega
  simp[-Int.natCast_emod,m];exact AW.ret (Af [Ao (Ap (x / d)),.int .u32 ((x % d:Nat):Int)] rfl (by simp[-Int.natCast_emod]) ⟨rfl,rfl⟩)
theorem Yg (x:Nat) (hx:x<18446744073709551616):Ak Tryz.prog 123 [Ao (Ap x)] Ac.emp fun v m=>v=.int .u64 (x:Nat)∧m=Ac.emp:=by
 refine Ad Tryz.func123 rfl rfl 22 rfl (Nat.le_of_ble_eq_true rfl) ?_;have lx:(Ap x).length≤2:=A8.2 (by omega);have hnth:=Fp x;have hb:=Bb x;have h2:=A5 x;generalize ha:Ap x=a at *;(repeat refine AW.seq ?_);refine AW.rg ?_;simp[Al];(repeat refine AW.seq ?_);refine AW.rg ?_;simp;refine AW.seq_has [(3,.int .u64 (x:Nat))] Ac.emp ?_ ?_
 ·(repeat refine AW.seq ?_);refine AW.rg ?_;simp;refine AW.block (AW.loopS (ι:=Nat) (fun k=>[(0,Ao a),(3,.int .u64 ((val (a.take k):Nat):Int)),(6,.int .i64 a.length),(7,.int .i64 (k:Nat))]) (fun _=>Ac.emp) (fun k=>k≤a.length) (fun k=>a.length-k) 0 (by simp) rfl (by simp[val]) ?_);rintro k h1;(repeat refine AW.seq ?_);refine AW.rg ?_;simp;(repeat refine AW.seq ?_);refine AW.cs (fun hk=>?_) (fun hk=>?_) rfl<;>simp at hk
  ·have hw1:=Aq (32*k) (by omega);have hw2:=Aq (k+1) (by omega);have q:=hb.nth k;have m1:nth a k % 18446744073709551616=nth a k:=by omega
   have m0:min (32*k) 64=32*k:=by omega
   have v1:=Jq hb k;have v2:=A1 a k;have hp:2^(32*k)=4294967296^k:=(H3 k).symm;have m2:nth a k*2^(32*k) % 18446744073709551616=nth a k*2^(32*k):=by
    rcases(show k=0∨k=1 by omega)with rfl|rfl
    ·simp;omega
    ·simp;omega
   have m3:G9 .or .u64 ((val (a.take k):Nat):Int) ((nth a k*2^(32*k):Nat):Int)=((val (a.take (k+1)):Nat):Int):=by
    have l1:val (a.take k)<18446744073709551616:=by
     rcases(show k=0∨k=1 by omega)with rfl|rfl
     ·simp[val]
     ·simp at v1;omega
    have l2:nth a k*2^(32*k)<18446744073709551616:=by
     rw[←m2];exact Nat.mod_lt _ (by omega)
    rw[Zy l1 l2,v2,←hp];have:=Nat.two_pow_add_eq_or_of_lt (i:=32*k) (b:=val (a.take k)) (by rw[hp];exact v1) (nth a k);rw[Nat.mul_comm (nth a k),Nat.or_comm,←this,Nat.add_comm]
   refine AW.skip ?_;try simp
   (repeat refine AW.seq ?_);refine AW.block ?_;(repeat refine AW.seq ?_);refine AW.rg ?_;simp;(repeat refine AW.seq ?_);refine AW.rg ?_;simp[-Int.natCast_mul,hk,m1,hw1,m0,m2,m3];(repeat refine AW.seq ?_);refine AW.rg ?_;simp[-Int.natCast_add,-Int.natCast_mul,-Int.natCast_pow,hw2];exact⟨k+1,by omega,by omega,rfl,rfl⟩
  ·refine AW.exit ?_;try simp
   rw[Ax a k (by omega),h2]
 ·(repeat refine AW.seq ?_);refine AW.rg ?_;simp;exact AW.ret (Ah rfl _ (.same _) ⟨by simp,rfl⟩)
end Go.Av
end
section
namespace Go.Av
open Go.Proofs
theorem Qqm {a:List Nat} (h:0<a.length):val a=val (a.take (a.length-1))+4294967296^(a.length-1)*nth a (a.length-1):=by
 rw[←A1,show a.length-1+1=a.length by omega,List.take_length]
theorem Qca (x:Nat) (lx:(Ap x).length<2^39):Ak Tryz.prog 208 [Ao (Ap x)] Ac.emp fun v m=>(∃n:Nat,n≤32*(Ap x).length∧x<2^n∧v=.int .i64 (n:Nat))∧m=Ac.emp:=by
 refine Ad Tryz.func208 rfl rfl 25 rfl (Nat.le_of_ble_eq_true rfl) ?_;have hx:=A5 x;have hb:=Bb x;generalize ha:Ap x=a at *;(repeat refine AW.seq ?_);refine AW.rg ?_;simp[Al];(repeat refine AW.seq ?_);refine AW.rg ?_;simp;(repeat refine AW.seq ?_);refine AW.cs (fun h=>?_) (fun h=>?_) rfl<;>simp at h
 ·(repeat refine AW.seq ?_);refine AW.rg ?_;simp;have:x=0:=by rw[←hx,h];rfl
  exact AW.ret (Af [.int .i64 0] rfl (by simp) ⟨⟨0,by omega,by omega,rfl⟩,rfl⟩)
 ·have hl:0<a.length:=by
   rcases a with _|_
   ·simp at h
   ·simp
  have hw:IntKind.i64.wrap ((a.length:Int)-1)=((a.length-1:Nat):Int):=by rw[Pk (by omega)];omega
  have hw1:=Aq (32*(a.length-1)) (by omega);have hl1:a.length-1<a.length:=by omega
  have ht:=Qqm hl;have q:=hb.nth (a.length-1);have hlow:=Jq hb (a.length-1);refine AW.skip ?_;try simp
  (repeat refine AW.seq ?_);refine AW.rg ?_;simp[-Int.natCast_mul,hw,hw1];refine AW.seq_ex (ι:=Nat) (fun n=>[(3,.int .i64 (n:Nat))]) (fun _=>Ac.emp) (fun n=>n≤32*a.length∧x<2^n) ?_ ?_
  ·(repeat refine AW.seq ?_);refine AW.rg ?_;simp[-Int.natCast_mul,hw,hl1];generalize hT:nth a (a.length-1)=T at *;refine AW.block (AW.loopS (ι:=Nat) (fun j=>[(3,.int .i64 (32*(a.length-1)+j:Nat)),(4,.int .u32 (T / 2^j:Nat))]) (fun _=>Ac.emp) (fun j=>j≤32) (fun j=>32-j) 0 (by simp) rfl (by simp[-Int.natCast_mul]) ?_);rintro j hj;(repeat refine AW.seq ?_);refine AW.rg ?_;simp[-Int.natCast_ediv,-Int.natCast_pow,-Int.natCast_add,-Int.natCast_mul];(repeat refine AW.seq ?_);refine AW.cs (fun h1=>?_) (fun h1=>?_) rfl<;>simp at h1
   ·have hj2:j<32:=by
     rcases Nat.lt_or_ge j 32 with h2|h2
     ·exact h2
     ·have:j=32:=by omega
      subst this;have:=h1.2;omega
    have hw2:=Aq (32*(a.length-1)+j+1) (by omega);have hT2:T / 2^j≤T:=Nat.div_le_self _ _;have m1:T / 2^j / 2 % 4294967296=T / 2^(j+1):=by
     rw[Nat.pow_succ,←Nat.div_div_eq_div_mul];exact Nat.mod_eq_of_lt (Nat.lt_of_le_of_lt (Nat.div_le_self _ _) (by omega))
    refine AW.skip ?_;try simp[-Int.natCast_ediv,-Int.natCast_pow,-Int.natCast_add,-Int.natCast_mul]
    (repeat refine AW.seq ?_);refine AW.block ?_;(repeat refine AW.seq ?_);refine AW.rg ?_;simp[-Int.natCast_ediv,-Int.natCast_pow,-Int.natCast_add,-Int.natCast_mul,hw2];(repeat refine AW.seq ?_);refine AW.rg ?_;simp[-Int.natCast_ediv,-Int.natCast_pow,-Int.natCast_add,-Int.natCast_mul,m1];exact⟨j+1,by omega,by omega,by omega,rfl⟩
   ·refine AW.exit ?_;try simp[-Int.natCast_ediv,-Int.natCast_pow,-Int.natCast_add,-Int.natCast_mul]
    refine⟨by omega,?_⟩;have h2:T<2^j:=by
     rcases Nat.lt_or_ge T (2^j)with h3|h3
     ·exact h3
     ·exact absurd h3 (by have:=h1 (Nat.pow_pos (by omega));omega)
    rw[Nat.pow_add,←H3,←hx,ht];have h3:4294967296^(a.length-1)*(T+1)≤4294967296^(a.length-1)*2^j:=Nat.mul_le_mul_left _ h2;rw[Nat.mul_add]at h3;omega
  ·rintro n ⟨h1,h2⟩;(repeat refine AW.seq ?_);refine AW.rg ?_;simp;exact AW.ret (Vq [.int .i64 (n:Nat)] rfl (by simp) ⟨⟨n,h1,h2,rfl⟩,rfl⟩)
end Go.Av
end
section
namespace Go.Av
open Go.Proofs
theorem Qcu (x c0:Nat) (hc0:c0<2) (lx:(Ap x).length<2^39):Ak Tryz.prog 209 [Ao (Ap x),.int .u32 (c0:Nat)] Ac.emp fun v m=>v=Ao (Ap (2*x+c0))∧m=Ac.emp:=by
 refine Ad Tryz.func209 rfl rfl 39 rfl (Nat.le_of_ble_eq_true rfl) ?_;have hx:=A5 x;have hb:=Bb x;generalize ha:Ap x=a at *;have hw:=Aq (a.length+1) (by omega);(repeat refine AW.seq ?_);refine AW.rg ?_;simp[Al];(repeat refine AW.seq ?_);refine AW.rg ?_;simp[-Int.natCast_mul,-Int.natCast_add,hw];refine⟨by omega,Ae.intro fun bl _=>?_⟩;simp only[C5];refine AW.seq_ex (ι:=Nat × List Nat) (fun z=>[(0,Ao a),(1,.int .u32 (z.1:Nat)),(5,.osl bl 1 0 (a.length+1))]) (fun z=>Ac.emp.set bl ⟨124,1,Bp z.2⟩) (fun z=>z.1<2∧Lb z.2∧z.2.length=a.length+1∧val (z.2.take a.length)+4294967296^a.length*z.1=2*x+c0) ?_ ?_
 ·(repeat refine AW.seq ?_);refine AW.rg ?_;simp[-Int.natCast_add];refine AW.block (AW.loopS (ι:=Nat × Nat × List Nat) (fun z=>[(0,Ao a),(1,.int .u32 (z.2.1:Nat)),(5,.osl bl 1 0 (a.length+1)),(6,.int .i64 (z.1:Nat))]) (fun z=>Ac.emp.set bl ⟨124,1,Bp z.2.2⟩)
   (fun z=>z.1≤a.length∧z.2.1<2∧Lb z.2.2∧z.2.2.length=a.length+1∧val (z.2.2.take z.1)+4294967296^z.1*z.2.1=2*val (a.take z.1)+c0) (fun z=>a.length-z.1) (0,c0,List.replicate (a.length+1) 0) ⟨by simp,hc0,Lb.rep _,by simp,by simp[val]⟩ rfl (by simp[-Int.natCast_add]) ?_)
  rintro⟨i,c,o⟩ ⟨h1,h2,h3,h4,h5⟩;simp only at h1 h2 h3 h4 h5;simp only;(repeat refine AW.seq ?_);refine AW.rg ?_;simp;(repeat refine AW.seq ?_);refine AW.cs (fun hi=>?_) (fun hi=>?_) rfl<;>simp at hi
  ·have q:=hb.nth i;have hw2:=Aq (i+1) (by omega);have hi2:i<a.length+1:=by omega
   have m1:(nth a i*2 % 4294967296+c) % 4294967296=(nth a i*2+c) % 4294967296:=by omega
   have m2:nth a i / 2147483648<2:=by omega
   refine AW.skip ?_;try simp
   (repeat refine AW.seq ?_);refine AW.block ?_;(repeat refine AW.seq ?_);refine AW.rg ?_;simp[-Int.natCast_add,-Int.natCast_emod,-Int.natCast_mul,hi,hi2,h4,m1];(repeat refine AW.seq ?_);refine AW.rg ?_;simp[-Int.natCast_add,-Int.natCast_emod,-Int.natCast_mul,hi];have e:Int.fdiv (nth a i:Int) 2147483648=((nth a i / 2147483648:Nat):Int):=by
    rw[Int.fdiv_eq_ediv_of_nonneg _ (by omega)];rfl
   (repeat refine AW.seq ?_);refine AW.rg ?_;simp[-Int.natCast_add,-Int.natCast_ediv,-Int.natCast_emod,-Int.natCast_mul,hw2,e];refine⟨i+1,_,_,⟨by omega,m2,h3.set i _ (Nat.mod_lt (nth a i*2+c) (by omega)),by simpa using h4,?_⟩,by omega,rfl,rfl,rfl⟩;rw[Bn _ _ _ (by omega),A1,Nat.pow_succ];have s1:nth a i / 2147483648=(nth a i*2+c) / 4294967296:=by omega
   rw[s1];have cs:=F9 (4294967296^i) (nth a i*2+c);have e2:4294967296^i*(nth a i*2+c)=2*(4294967296^i*nth a i)+4294967296^i*c:=by
    rw[Nat.mul_add,←Nat.mul_assoc,Nat.mul_comm (4294967296^i*nth a i) 2]
   rw[e2]at cs;omega
  ·refine AW.exit ?_;try simp
   have:i=a.length:=by omega
   subst this;rw[Ax a _ (by omega),hx]at h5;exact⟨c,o,⟨h2,h3,h4,h5⟩,rfl,rfl⟩
 ·rintro⟨c,o⟩ ⟨h2,h3,h4,h5⟩;simp only at h2 h3 h4 h5;simp only;(repeat refine AW.seq ?_);refine AW.rg ?_;simp[-Int.natCast_add,h4];have hv2:val (o.set a.length c)=2*x+c0:=by
   rw[←Ax (o.set a.length c) (a.length+1) (by simp[h4]),Bn _ _ _ (by omega),h5]
  refine AW.toEmp [(5,Ao (o.set a.length c))] ?_ ?_
  ·simp;have:=De (m:=Ac.emp.set bl ⟨124,1,Bp (o.set a.length c)⟩) (b:=bl) (e:=124) (l:=o.set a.length c) (by simp);rw[List.length_set,h4]at this;exact this
  (repeat refine AW.seq ?_);refine AW.rg ?_;simp;refine Aa.val (D3 _ (by simp[h4];omega)) ?_;rw[Ck (h3.set _ _ (by omega)),hv2];try simp
  exact AW.ret (Ah rfl _ (.same _) ⟨by simp,rfl⟩)
end Go.Av
end
section
namespace Go.Av
theorem Xs (l:List Nat) (i:Nat) (h:i<l.length):val l=val (l.take i)+4294967296^i*(nth l i+4294967296*val (l.drop (i+1))):=by
 have e:l=l.take i++(nth l i::l.drop (i+1)):=by
  rw[Zi h,←List.drop_eq_getElem_cons h,List.take_append_drop]
 have h2:(l.take i).length=i:=by rw[List.length_take];omega
 calc val l=val (l.take i++(nth l i::l.drop (i+1))):=by rw[←e]
  _=_:=by rw[Ha,h2,val]
theorem Qcp (l:List Nat) (i z:Nat) (h:i<l.length):val (l.set i (nth l i+z))=val l+4294967296^i*z:=by
 have h1:=Xs l i h;have h2:=Xs (l.set i (nth l i+z)) i (by simpa using h);rw[Ov _ h,List.take_set_of_le (by omega),List.drop_set_of_lt (by omega)]at h2;rw[h2,h1];rw[Nat.mul_add,Nat.mul_add,Nat.mul_add];omega
theorem Qkh {v i:Nat} (h:2^(i+1) ∣ v):v / 4294967296^(i / 32) % 4294967296+2^(i % 32)<4294967296:=by
 obtain⟨c,rfl⟩:=h;have hr:i % 32<32:=Nat.mod_lt _ (by omega);have e:2^(i+1)=4294967296^(i / 32)*2^(i % 32+1):=by
  rw[H3,←Nat.pow_add];congr 1;omega
 rw[e,Nat.mul_assoc,Nat.mul_div_cancel_left _ (Nat.pow_pos (by omega))];generalize i % 32=r at *;have e2:(4294967296:Nat)=2^(r+1)*2^(31-r):=by
  rw[←Nat.pow_add,show r+1+(31-r)=32 by omega]
 have e3:2^(r+1)*c % 4294967296=2^(r+1)*(c % 2^(31-r)):=by
  conv=>lhs;rw[e2]
  rw[Nat.mul_mod_mul_left]
 rw[e3];have h1:c % 2^(31-r)+1≤2^(31-r):=Nat.mod_lt _ (Nat.pow_pos (by omega));have h2:2^(r+1)*(c % 2^(31-r)+1)≤2^(r+1)*2^(31-r):=Nat.mul_le_mul_left _ h1;rw[←e2,Nat.mul_add]at h2;have h3:2^r<2^(r+1):=by rw[Nat.pow_succ];have:=Nat.pow_pos (n:=r) (show 0<2 by omega);omega
 omega
theorem Qlx (x y j:Nat) (hy:0<y):x / 2^j=2*(x / 2^(j+1))+x / 2^j % 2:=by
 rw[Nat.pow_succ,←Nat.div_div_eq_div_mul];omega
theorem Qnk {h y b:Nat} (hy:0<y):(2*h+b) / y=2*(h / y)+(2*(h % y)+b) / y∧(2*h+b) % y=(2*(h % y)+b) % y:=by
 have e:2*h+b=(2*(h % y)+b)+y*(2*(h / y)):=by
  have:=Nat.div_add_mod h y;have e2:y*(2*(h / y))=2*(y*(h / y)):=by ac_rfl
  omega
 rw[e,Nat.add_mul_div_left _ _ hy,Nat.add_mul_mod_self_left];omega
end Go.Av
end
section
namespace Go.Av
open Go.Proofs
theorem Qal (x y:Nat) (hy:y≠0) (lx:(Ap x).length<2^30) (ly:(Ap y).length<2^30):Ak Tryz.prog 197 [Ao (Ap x),Ao (Ap y)] Ac.emp fun v m=>v=.tup [Ao (Ap (x / y)),Ao (Ap (x % y))]∧m=Ac.emp:=by
 refine Ad Tryz.func197 rfl rfl 64 rfl (Nat.le_of_ble_eq_true rfl) ?_;have hdy:=Fp y;have hby:=Bb y;have hvy:=A5 y;(repeat refine AW.seq ?_);refine AW.rg ?_;simp[Al];(repeat refine AW.seq ?_);refine AW.rg ?_;simp;(repeat refine AW.seq ?_);refine AW.cs (fun h=>?_) (fun h=>?_) rfl<;>simp at h
 ·have h0:nth (Ap y) 0=y:=by
   rcases hd:Ap y with _|⟨p,_|⟨q,l⟩⟩
   ·rw[hd]at h;cases h
   ·rw[hd]at hvy;simp[val]at hvy;simp[nth,hvy]
   ·rw[hd]at h;simp at h
  have y1:y<4294967296:=by rw[←h0];exact hby.nth 0
  have hr:x % y<y:=Nat.mod_lt _ (by omega);(repeat refine AW.seq ?_);refine AW.rg ?_;simp[h,h0];refine Aa.val (Qei x y hy y1 (by omega)) ?_;try simp[-Int.natCast_emod]
  (repeat refine AW.seq ?_);refine AW.rgR [24] ?_;simp[-Int.natCast_emod];refine Aa.val (D3 [x % y] (by simp)) ?_;have e:Fe [x % y]=Ap (x % y):=by
   rw[Ck (fun z hz=>by simp at hz;omega)];simp[val]
  rw[e];try simp[-Int.natCast_emod]
  exact AW.ret (Af [Ao (Ap (x / y)),Ao (Ap (x % y))] rfl (by simp[-Int.natCast_emod]) ⟨rfl,rfl⟩)
 ·refine AW.skip ?_;try simp
  (repeat refine AW.seq ?_);refine AW.rg ?_;simp;refine AW.toEmp [(0,Ao (Ap x)),(1,Ao (Ap y)),(8,Ao [])] (by simp) ?_;(repeat refine AW.seq ?_);refine AW.rg ?_;simp[-Int.natCast_mul];refine⟨by omega,Ae.intro fun bl _=>?_⟩;simp only[C5];generalize hL:(Ap x).length=L at *;refine AW.seq_ex (ι:=List Nat) (fun o=>[(8,Ao (Ap (x % y))),(9,.osl bl 1 0 o.length)]) (fun o=>Ac.emp.set bl ⟨124,1,Bp o⟩) (fun o=>Lb o∧val o=x / y∧o.length<2^41) ?_ ?_
  ·(repeat refine AW.seq ?_);refine AW.rg ?_;simp;refine Aa.pure (Qca x (by omega)) ?_;rintro _ ⟨n,n1,n2,rfl⟩;rw[hL]at n1;have hw:IntKind.i64.wrap ((n:Int)-1)=(n:Int)-1:=by rw[Pk (by omega)]
   simp[hw];have hz:x / 2^n=0:=Nat.div_eq_of_lt n2;refine AW.block (AW.loopS (ι:=Nat × List Nat) (fun z=>[(0,Ao (Ap x)),(1,Ao (Ap y)),(8,Ao (Ap (x / 2^z.1 % y))),(9,.osl bl 1 0 L),(10,.int .i64 ((z.1:Int)-1))]) (fun z=>Ac.emp.set bl ⟨124,1,Bp z.2⟩)
    (fun z=>z.1≤32*L∧Lb z.2∧z.2.length=L∧val z.2=x / 2^z.1 / y*2^z.1) (fun z=>z.1) (n,List.replicate L 0) ⟨n1,Lb.rep _,by simp,by simp[hz,Lu]⟩ rfl (by simp[hz,Bg]) ?_)
   rintro⟨j,o⟩ ⟨h1,h3,h4,h5⟩;simp only at h1 h3 h4 h5;simp only;rcases Nat.eq_zero_or_pos j with rfl|hj
   ·(repeat refine AW.seq ?_);refine AW.rg ?_;simp;refine AW.no ?_ rfl;refine AW.exit ?_;try simp
    simp at h5;exact⟨o,⟨h3,h5,by omega⟩,rfl,h4.symm⟩
   ·obtain⟨i,rfl⟩:∃i,j=i+1:=⟨j-1,by omega⟩;have ei:((i+1:Nat):Int)-1=(i:Int):=by omega
    rw[ei];have hyp:0<y:=by omega
    have hH:=Qlx x y i hyp;obtain⟨d1,d2⟩:=Qnk (h:=x / 2^(i+1)) (b:=x / 2^i % 2) hyp;rw[←hH]at d1 d2;have hb2:x / 2^i % 2<2:=Nat.mod_lt _ (by omega);have hr1:x / 2^(i+1) % y<y:=Nat.mod_lt _ hyp;have ldig:∀z,z<2*y→(Ap z).length<2^31:=by
     intro z hz2;have q1:y<4294967296^(Ap y).length:=A8.1 (Nat.le_refl _);have q2:(Ap z).length≤(Ap y).length+1:=by
      rw[A8,Nat.pow_succ];omega
     omega
    have hw2:IntKind.i64.wrap ((i:Int)-1)=(i:Int)-1:=by rw[Pk (by omega)]
    generalize hb:x / 2^i % 2=b at *;generalize hr:x / 2^(i+1) % y=r at *;have l1:=ldig r (by omega);have l2:=ldig (2*r+b) (by omega);(repeat refine AW.seq ?_);refine AW.rg ?_;simp;refine AW.yes ?_ rfl;refine AW.skip ?_;try simp
    (repeat refine AW.seq ?_);refine AW.block ?_;have hbit:=Pr x i (by omega) (by omega);rw[hb]at hbit;(repeat refine AW.seq ?_);refine AW.rg ?_;simp;refine Aa.val hbit ?_;try simp
    refine Aa.val (Qcu r b hb2 (by omega)) ?_;try simp
    (repeat refine AW.seq ?_);refine AW.rg ?_;simp;refine Aa.val (I6 (2*r+b) y (by omega) (by omega)) ?_;simp[Vl];(repeat refine AW.seq ?_);refine AW.cs (fun hge=>?_) (fun hge=>?_) rfl<;>simp at hge
    ·have e1:(2*r+b) / y=1:=Nat.div_eq_of_lt_le (by omega) (by omega);have e2:(2*r+b) % y=2*r+b-y:=by
      rw[Nat.mod_eq_sub_mod hge,Nat.mod_eq_of_lt (by omega)]
     rw[e1]at d1;rw[e2]at d2;have hq:i / 32<L:=by omega
     have hwq:=Aq (i / 32) (by omega);have hm:min (i % 32) 32=i % 32:=by omega
     have hp2:(2:Int)^(i % 32)=((2^(i % 32):Nat):Int):=by simp[Int.natCast_pow]
     have hroom:nth o (i / 32)+2^(i % 32)<4294967296:=by
      rw[K6 h3];exact Qkh ⟨_,by rw[h5,Nat.mul_comm]⟩
     have m1:2^(i % 32) % 4294967296=2^(i % 32):=Nat.mod_eq_of_lt (by omega);have m2:(nth o (i / 32)+2^(i % 32)) % 4294967296=nth o (i / 32)+2^(i % 32):=Nat.mod_eq_of_lt hroom;(repeat refine AW.seq ?_);refine AW.rg ?_;simp;refine Aa.val (Gc (2*r+b) y hge (by omega)) ?_;try simp
     (repeat refine AW.seq ?_);refine AW.rdA bl [0,1,2,3,4,5,6,7,8,9,10,11,12,13] Dm (by simp) ?_;simp[-Int.natCast_add,-Int.natCast_pow,-Int.natCast_emod,-Int.natCast_ediv,hq,hwq,hm,hp2,m1,m2,h4];(repeat refine AW.seq ?_);refine AW.rg ?_;simp[-Int.natCast_ediv,-Int.natCast_add,-Int.natCast_emod,-Int.natCast_pow,hw2];refine⟨i,_,⟨by omega,h3.set _ _ hroom,by simpa using h4,?_⟩,by omega,rfl,by rw[d2],rfl⟩;generalize x / 2^(i+1) / y=Q at *;rw[Qcp _ _ _ (by omega),h5,d1,Nat.add_mul,H3,←Nat.pow_add,Nat.div_add_mod,Nat.pow_succ];have:2*Q*2^i=Q*(2^i*2):=by ac_rfl
     omega
    ·have e1:(2*r+b) / y=0:=Nat.div_eq_of_lt (by omega);have e2:(2*r+b) % y=2*r+b:=Nat.mod_eq_of_lt (by omega);rw[e1]at d1;rw[e2]at d2;refine AW.skip ?_;try simp
     (repeat refine AW.seq ?_);refine AW.rg ?_;simp[hw2];refine⟨i,_,⟨by omega,h3,h4,?_⟩,by omega,rfl,by rw[d2],rfl⟩;generalize x / 2^(i+1) / y=Q at *;rw[h5,d1,Nat.pow_succ,Nat.add_zero]
     ac_rfl
  ·rintro o ⟨h1,h2,h3⟩;refine AW.toEmp [(8,Ao (Ap (x % y))),(9,Ao o)] (by simp;exact De (e:=124) (by simp)) ?_;(repeat refine AW.seq ?_);refine AW.rg ?_;simp;refine Aa.val (D3 o (by omega)) ?_;rw[Ck h1,h2];try simp
   exact AW.ret (Af [Ao (Ap (x / y)),Ao (Ap (x % y))] rfl (by simp) ⟨rfl,rfl⟩)
end Go.Av
end
section
namespace Go.Av
theorem Qmz {B q v1 v2 r top u2 P vl ul V U:Nat} (hV:V=(v1*B+v2)*P+vl) (hU:U=(top*B+u2)*P+ul) (hul:ul<P)
  (hq:q*v1+r=top) (hc:r*B+u2<q*v2):U<q*V:=by
 have h1:top*B+u2<q*(v1*B+v2):=by
  rw[←hq,Nat.mul_add,←Nat.mul_assoc,Nat.add_mul];omega
 have h2:(top*B+u2+1)*P≤q*(v1*B+v2)*P:=Nat.mul_le_mul_right _ (Nat.succ_le_of_lt h1);have h3:q*V=q*(v1*B+v2)*P+q*vl:=by rw[hV,Nat.mul_add,Nat.mul_assoc]
 rw[Nat.add_mul,Nat.one_mul]at h2;omega
theorem Qgt {B q v1 v2 r top u2 P vl ul V U:Nat} (hV:V=(v1*B+v2)*P+vl) (hU:U=(top*B+u2)*P+ul) (hvl:vl<P) (h1:1≤v1)
  (hq:q*v1+r=top) (hb:q<B) (hc:q*v2≤r*B+u2):q*V<U+V:=by
 have g1:q*(v1*B+v2)≤top*B+u2:=by
  rw[←hq,Nat.mul_add,←Nat.mul_assoc,Nat.add_mul];omega
 have g2:q*(v1*B+v2)*P≤(top*B+u2)*P:=Nat.mul_le_mul_right _ g1;have g3:q*V=q*(v1*B+v2)*P+q*vl:=by rw[hV,Nat.mul_add,Nat.mul_assoc]
 have g4:1*B*P≤(v1*B+v2)*P:=Nat.mul_le_mul_right _ (Nat.le_trans (Nat.mul_le_mul_right B h1) (Nat.le_add_right _ _));rw[Nat.one_mul]at g4;have g5:q*vl≤q*P:=Nat.mul_le_mul_left _ (by omega);have g6:(q+1)*P≤B*P:=Nat.mul_le_mul_right _ (Nat.succ_le_of_lt hb);rw[Nat.add_mul,Nat.one_mul]at g6;have g7:0<P:=by omega
 omega
theorem Qjm {B q v1 v2 r top u2:Nat} (hq:q*v1+r=top) (ht:top<v1*B+B) (hr:B≤r) (h2:v2<B):q<B∧q*v2≤r*B+u2:=by
 have h3:q*v1<B*v1:=by
  rw[Nat.mul_comm B];omega
 have h4:q<B:=Nat.lt_of_mul_lt_mul_right h3;refine⟨h4,?_⟩;have h5:q*v2≤B*B:=Nat.mul_le_mul (by omega) (by omega);have h6:B*B≤r*B:=Nat.mul_le_mul_right _ hr;omega
theorem Ri (V k:Nat):V / 4294967296^k=V / 4294967296^(k+1)*4294967296+V / 4294967296^k % 4294967296:=by
 rw[Nat.pow_succ,←Nat.div_div_eq_div_mul];omega
theorem Np (V k:Nat):V=V / 4294967296^k*4294967296^k+V % 4294967296^k:=by
 rw[Nat.mul_comm];exact(Nat.div_add_mod V _).symm
theorem Pw {X k:Nat} (h:X<4294967296^(k+1)):X / 4294967296^k % 4294967296=X / 4294967296^k:=by
 refine Nat.mod_eq_of_lt (Nat.div_lt_of_lt_mul ?_);rw[←Nat.pow_succ];exact h
theorem Jg (l:List Nat) (i x:Nat) (h:i<l.length):val (l.set i x)+4294967296^i*nth l i=val l+4294967296^i*x:=by
 induction l generalizing i with
 |nil=>simp at h
 |cons a l ih =>
  cases i with
  |zero=>simp[val,nth];omega
  |succ i =>
   have h':i<l.length:=by simpa using h
   have h2:=ih i h';have e1:nth (a::l) (i+1)=nth l i:=rfl;rw[List.set_cons_succ,val,val,e1,Nat.pow_succ,Nat.mul_comm (4294967296^i) 4294967296,Nat.mul_assoc,Nat.mul_assoc];generalize 4294967296^i*nth l i=p at *;generalize 4294967296^i*x=r at *;omega
theorem Qg3 {U V q:Nat} (h1:q*V≤U) (h2:U<(q+1)*V):U / V=q:=Nat.div_eq_of_lt_le h1 h2
end Go.Av
end
section
namespace Go.Av
open Go.Proofs
@[simp] theorem ti9:Ai Tryz.prog 9=some {size:=1,bytes:=16,cls:=.str,zero:=.str ⟨#[]⟩,fields:=[]}:=by kernel_rfl
def Qbw (P:Program) (t:TypeId) (b:ByteArray) (v:AV) (k:AV→Prop):Prop:=Ea ((Ai P t).bind fun ti=>Nv ti (.str b) v) k
@[congr] theorem Qs8 {P:Program} {t:TypeId} {b:ByteArray} {v v':AV} {k:AV→Prop} (h:v=v'):Qbw P t b v k=Qbw P t b v' k:=by rw[h]
@[simp high] theorem Qvm (P:Program) (cf:Dy) (K:St→Prop) (s:St) (d:Option Tmp) (ty:TypeId) (p:String) (a:Array Edge) (g:Option (Nat × Bool)) (t:TypeId) (b:ByteArray) (i:Operand) :
  E0 P cf ⟨d,.index t (.const (.string b)) i,ty,p,a,g⟩ K s↔Qbw P t b (s.ev i) (F2 K s d):=Iff.rfl
def Qsp (b:ByteArray):Bool:=b.size==256&&(List.range 256).all fun i=>Nat.ble (b.get! i).toNat 8&&Nat.blt i (2^(b.get! i).toNat)
theorem Ya {b:ByteArray} (hb:Qsp b=true) {n:Nat} (hn:n<256) {k:AV→Prop} (hk:∀y:Nat,y≤8→n<2^y→k (.int .u8 (y:Nat))):Qbw Tryz.prog 9 b (.int .u8 (n:Nat)) k:=by
 unfold Qsp at hb;simp only[Bool.and_eq_true,List.all_eq_true,List.mem_range,beq_iff_eq]at hb;obtain⟨h1,h2⟩:=hb;have h3:=h2 n hn;rw[Nat.ble_eq,Nat.blt_eq]at h3;have hs:n<b.size:=by omega
 have e:b.get! n=b[n]:=by
  cases b with | mk d =>
  have hs':n<d.size:=hs;simp[ByteArray.get!,ByteArray.getElem_eq_getElem_data,hs']
 rw[e]at h3;unfold Qbw;simp only[ti9,Option.bind_some,Nv];rw[dif_pos ⟨by omega,by simpa using hs⟩];exact⟨_,rfl,hk _ h3.1 h3.2⟩
theorem Qba (a n:Nat) (h:0<n):Int.fdiv (a:Int) (n:Int)=((a / n:Nat):Int):=by
 rw[Int.fdiv_eq_ediv_of_nonneg _ (by omega)];rfl
@[simp] theorem Qro (a:Nat):Int.fdiv (a:Int) 65536=((a / 65536:Nat):Int):=Qba a 65536 (by omega)
@[simp] theorem Qu6 (a:Nat):Int.fdiv (a:Int) 256=((a / 256:Nat):Int):=Qba a 256 (by omega)
@[simp] theorem Qvz (a:Nat):(a:Int)+8=((a+8:Nat):Int):=by omega
@[simp] theorem Q28 (x:Int):IntKind.u8.wrap x=x % 256:=by simp[IntKind.wrap,IntKind.bits,IntKind.signed]
@[simp] theorem Qox (a:Nat):(a:Int) % 256=((a % 256:Nat):Int):=rfl
set_option maxRecDepth 100000 in
theorem Qfq (x:Nat) (hx:x<4294967296):Ak Tryz.prog 134 [.int .u32 x] Ac.emp fun v m=>(∃y:Nat,y≤32∧x<2^y∧v=.int .i64 y)∧m=Ac.emp:=by
 refine Ad Tryz.func134 rfl rfl 19 rfl (Nat.le_of_ble_eq_true rfl) ?_;(repeat refine AW.seq_k fun K hK=>?_);refine AW.rg ?_;simp[Al];try (refine hK _ rfl ?_;clear hK K)
 refine AW.seq_ex (ι:=Nat) (fun y=>[(0,.int .u32 (x / 2^y:Nat)),(2,.int .i64 (y:Nat))]) (fun _=>Ac.emp) (fun y=>y≤16∧x / 2^y<65536) ?_ ?_
 ·(repeat refine AW.seq_k fun K hK=>?_);refine AW.rg ?_;simp[-Int.natCast_ediv,-Int.natCast_pow];try (refine hK _ rfl ?_;clear hK K)
  (repeat refine AW.seq ?_);refine AW.cs (fun h=>?_) (fun h=>?_) rfl<;>simp at h
  ·(repeat refine AW.seq_k fun K hK=>?_);refine AW.rg ?_;simp[-Int.natCast_ediv,-Int.natCast_pow];try (refine hK _ rfl ?_;clear hK K)
   (repeat refine AW.seq_k fun K hK=>?_);refine AW.rg ?_;simp[-Int.natCast_ediv,-Int.natCast_pow];try (refine hK _ rfl ?_;clear hK K)
   exact⟨16,⟨by omega,by omega⟩,rfl,rfl⟩
  ·refine AW.skip ?_;try simp[-Int.natCast_ediv,-Int.natCast_pow]
   exact⟨0,⟨by omega,by omega⟩,by simp,by simp⟩
 rintro y ⟨h1,h2⟩;generalize hz:x / 2^y=z at *;refine AW.seq_ex (ι:=Nat) (fun y=>[(0,.int .u32 (x / 2^y:Nat)),(2,.int .i64 (y:Nat))]) (fun _=>Ac.emp) (fun y=>y≤24∧x / 2^y<256) ?_ ?_
 ·(repeat refine AW.seq_k fun K hK=>?_);refine AW.rg ?_;simp[-Int.natCast_ediv,-Int.natCast_pow];try (refine hK _ rfl ?_;clear hK K)
  (repeat refine AW.seq ?_);refine AW.cs (fun h=>?_) (fun h=>?_) rfl<;>simp at h
  ·(repeat refine AW.seq_k fun K hK=>?_);refine AW.rg ?_;simp[-Int.natCast_ediv,-Int.natCast_pow];try (refine hK _ rfl ?_;clear hK K)
   have e:x / 2^(y+8)=z / 256:=by rw[←hz,Nat.pow_add,Nat.div_div_eq_div_mul]
   have hw:=Aq (y+8) (by omega);(repeat refine AW.seq_k fun K hK=>?_);refine AW.rg ?_;simp[-Int.natCast_add,-Int.natCast_ediv,-Int.natCast_pow,hw];try (refine hK _ rfl ?_;clear hK K)
   exact⟨⟨by omega,by omega⟩,e.symm⟩
  ·refine AW.skip ⟨y,⟨by omega,by omega⟩,rfl,rfl,by simp[hz]⟩
 clear hz h2 h1;clear z y;rintro y ⟨h1,h2⟩;generalize hz:x / 2^y=z at *;have hm:z % 256=z:=Nat.mod_eq_of_lt h2;(repeat refine AW.seq_k fun K hK=>?_);refine AW.rg ?_;simp[hm];try (refine hK _ rfl ?_;clear hK K)
 refine Ya (by kernel_rfl) h2 fun t t1 t2=>?_;have hw:=Aq (y+t) (by omega);have hw2:=Aq (t) (by omega);simp[-Int.natCast_add,hw,hw2];refine hK _ rfl ?_;refine AW.ret (Ah rfl _ (.same _) ⟨⟨y+t,by omega,?_,rfl⟩,rfl⟩);rw[Nat.pow_add];rw[←hz]at t2;rw[Nat.mul_comm];exact(Nat.div_lt_iff_lt_mul (Nat.pow_pos (by omega))).1 t2
theorem Qqy (x:Nat) (hx:x<4294967296):Ak Tryz.prog 166 [.int .u32 x] Ac.emp fun v m=>(∃s:Nat,s≤32∧x*2^s<4294967296∧(0<x→s<32)∧v=.int .i64 s)∧m=Ac.emp:=by
 refine Ad Tryz.func166 rfl rfl 6 rfl (Nat.le_of_ble_eq_true rfl) ?_;(repeat refine AW.seq_k fun K hK=>?_);refine AW.rg ?_;simp[Al];try (refine hK _ rfl ?_;clear hK K)
 (repeat refine AW.seq_k fun K hK=>?_);refine AW.rg ?_;simp;try (refine hK _ rfl ?_;clear hK K)
 refine Aa.pure (Qfq x hx) ?_;rintro _ ⟨y,y1,y2,rfl⟩;have hw:IntKind.i64.wrap (32-(y:Int))=((32-y:Nat):Int):=by rw[Pk (by omega)];omega
 simp[hw];refine hK _ rfl ?_;clear hK K;refine AW.ret (Ah rfl _ (.same _) ⟨⟨32-y,by omega,?_,?_,rfl⟩,rfl⟩)
 ·calc x*2^(32-y)<2^y*2^(32-y):=Nat.mul_lt_mul_of_pos_right y2 (Nat.pow_pos (by omega))
   _=4294967296:=by rw[←Nat.pow_add,show y+(32-y)=32 by omega]
 ·intro h;have:y≠0:=by rintro rfl;omega
  omega
end Go.Av
end
section
namespace Go.Av
open Go.Proofs
theorem Ql4 {a b:Nat} (ha:a<4294967296) (hb:b<4294967296):G9 .or .u64 ((a*4294967296:Nat):Int) (b:Int)=((a*4294967296+b:Nat):Int):=by
 rw[Zy (by omega) (by omega),Qak hb]
theorem Qhz {a:Nat} (ha:a<4294967296):a*4294967296 % 18446744073709551616=a*4294967296:=by omega
theorem Qv9 {a b:Nat} (ha:a<4294967296) (hb:b<4294967296):a*4294967296+b<18446744073709551616:=by omega
theorem Xg {a:Nat} (ha:a<4294967296):a % 18446744073709551616=a:=by omega
theorem Qst {a b:Nat} (ha:a<4294967296) (hb:b<4294967296):(a+b) % 18446744073709551616=a+b:=by omega
theorem Qth {a b:Nat} (ha:a<4294967296) (hb:b<4294967296):a*b % 18446744073709551616=a*b:=by
 refine Nat.mod_eq_of_lt ?_
 calc a*b≤4294967296*b:=Nat.mul_le_mul_right _ (by omega)
  _<18446744073709551616:=by omega
theorem Qet {u v:List Nat} {j n:Nat} (hbu:Lb u) (hbv:Lb v) (hn:v.length=n+2) (hv1:nth v (n+1)≠0) (hlt:val u<val v*4294967296^(j+1)) :
  ∃P vl ul:Nat,val v=(nth v (n+1)*4294967296+nth v n)*P+vl∧val u / 4294967296^j=((nth u (j+(n+2))*4294967296+nth u (j+(n+1)))*4294967296+nth u (j+n))*P+ul∧vl<P∧ul<P ∧
   nth u (j+(n+2))*4294967296+nth u (j+(n+1))<nth v (n+1)*4294967296+4294967296∧val u / 4294967296^j<val v*4294967296 ∧
   val u / 4294967296^j<((nth u (j+(n+2))*4294967296+nth u (j+(n+1))) / nth v (n+1)+1)*val v:=by
 have hV:val v<4294967296^(n+2):=by rw[←hn];exact Lm hbv
 have e1:nth v (n+1)=val v / 4294967296^(n+1):=by rw[K6 hbv,Pw hV]
 have e2:val v=(nth v (n+1)*4294967296+nth v n)*4294967296^n+val v % 4294967296^n:=by
  rw[e1,K6 hbv n,←Ri];exact Np _ _
 have l1:=hbv.nth (n+1);have l2:=hbv.nth n;have hU:val u<4294967296^(j+(n+2)+1):=by
  calc val u<val v*4294967296^(j+1):=hlt
   _≤4294967296^(n+2)*4294967296^(j+1):=Nat.mul_le_mul_right _ (Nat.le_of_lt hV)
   _=4294967296^(j+(n+2)+1):=by rw[←Nat.pow_add];congr 1;omega
 have f0:nth u (j+(n+2))=val u / 4294967296^(j+(n+2)):=by rw[K6 hbu,Pw hU]
 have f1:nth u (j+(n+2))*4294967296+nth u (j+(n+1))=val u / 4294967296^(j+(n+1)):=by
  rw[f0,K6 hbu (j+(n+1)),←Nat.add_assoc j n 2,←Nat.add_assoc j n 1];exact(Ri _ _).symm
 have f2:val u / 4294967296^(j+(n+1))*4294967296+nth u (j+n)=val u / 4294967296^(j+n):=by
  rw[K6 hbu (j+n),←Nat.add_assoc j n 1];exact(Ri _ _).symm
 have dd:∀k,val u / 4294967296^(j+k)=val u / 4294967296^j / 4294967296^k:=fun k=>by rw[Nat.pow_add,Nat.div_div_eq_div_mul]
 have k0:=hbu.nth (j+(n+2));have k1:=hbu.nth (j+(n+1));have k2:=hbu.nth (j+n);have hUV:val u / 4294967296^j<val v*4294967296:=by
  refine Nat.div_lt_of_lt_mul ?_;rw[Nat.pow_succ]at hlt
  calc val u<_:=hlt
   _=_:=by ac_rfl
 generalize hx1:nth v (n+1)=v1 at *;generalize hx2:nth v n=v2 at *;generalize hy0:nth u (j+(n+2))=u0 at *;generalize hy1:nth u (j+(n+1))=u1 at *;generalize hy2:nth u (j+n)=u2 at *;rw[dd]at f1 f2;rw[dd]at f2;generalize hUU:val u / 4294967296^j=U at *;generalize hVV:val v=V at *;have f3:U=((u0*4294967296+u1)*4294967296+u2)*4294967296^n+U % 4294967296^n:=by
  rw[f1,f2];exact Np _ _
 have f4:U=(u0*4294967296+u1)*4294967296^(n+1)+U % 4294967296^(n+1):=by
  rw[f1];exact Np _ _
 have f5:V=v1*4294967296^(n+1)+V % 4294967296^(n+1):=by
  rw[e1];exact Np _ _
 have p1:0<4294967296^n:=Nat.pow_pos (by omega);have p2:0<4294967296^(n+1):=Nat.pow_pos (by omega);have r1:U % 4294967296^n<4294967296^n:=Nat.mod_lt _ p1;have r2:V % 4294967296^n<4294967296^n:=Nat.mod_lt _ p1;have r3:U % 4294967296^(n+1)<4294967296^(n+1):=Nat.mod_lt _ p2;have r4:V % 4294967296^(n+1)<4294967296^(n+1):=Nat.mod_lt _ p2;generalize U % 4294967296^n=ul at *;generalize V % 4294967296^n=vl at *;generalize U % 4294967296^(n+1)=ul1 at *;generalize V % 4294967296^(n+1)=vl1 at *;generalize 4294967296^(n+1)=P1 at *
 generalize 4294967296^n=P at *;have ht:u0*4294967296+u1<v1*4294967296+4294967296:=by
  have h1:(u0*4294967296+u1)*P1<(v1*4294967296+4294967296)*P1:=by
   have h2:(v1*4294967296+4294967296)*P1=(v1*P1+P1)*4294967296:=by
    rw[Nat.add_mul,Nat.add_mul];ac_rfl
   rw[h2];omega
  exact Nat.lt_of_mul_lt_mul_right h1
 refine⟨P,vl,ul,e2,f3,r2,r1,ht,hUV,?_⟩;have hdm:(u0*4294967296+u1) / v1*v1+(u0*4294967296+u1) % v1=u0*4294967296+u1:=by rw[Nat.mul_comm];exact Nat.div_add_mod _ _
 have hmod:(u0*4294967296+u1) % v1<v1:=Nat.mod_lt _ (by omega)
 revert f4 hdm hmod
 generalize u0*4294967296+u1=top;intro f4 hdm hmod;have g1:top+1≤(top / v1+1)*v1:=by rw[Nat.add_mul,Nat.one_mul];omega
 have g2:(top+1)*P1≤(top / v1+1)*v1*P1:=Nat.mul_le_mul_right _ g1;have g3:(top / v1+1)*v1*P1≤(top / v1+1)*V:=by rw[Nat.mul_assoc];exact Nat.mul_le_mul_left _ (by omega)
 rw[Nat.add_mul,Nat.one_mul]at g2;omega
theorem Qf5 (u v:List Nat) (j n:Nat) (hbu:Lb u) (hbv:Lb v) (hn:v.length=n+2) (hj:j+(n+2)<u.length) (hl:u.length<2^40) (hv1:nth v (n+1)≠0) (hlt:val u<val v*4294967296^(j+1)) :
  Ak Tryz.prog 169 [Ao u,.int .i64 j,Ao v] Ac.emp fun r m=>(∃q:Nat,q<4294967296∧val u / 4294967296^j<(q+1)*val v∧q*val v<val u / 4294967296^j+val v∧r=.int .u64 q)∧m=Ac.emp:=by
 refine Ad Tryz.func169 rfl rfl 83 rfl (Nat.le_of_ble_eq_true rfl) ?_;obtain⟨P,vl,ul,e2,f3,r2,r1,ht,hUV,hq0⟩:=Qet hbu hbv hn hv1 hlt;have l1:=hbv.nth (n+1);have l2:=hbv.nth n;have k0:=hbu.nth (j+(n+2));have k1:=hbu.nth (j+(n+1));have k2:=hbu.nth (j+n);clear hlt;generalize hx1:nth v (n+1)=v1 at *;generalize hx2:nth v n=v2 at *;generalize hy0:nth u (j+(n+2))=u0 at *;generalize hy1:nth u (j+(n+1))=u1 at *;generalize hy2:nth u (j+n)=u2 at *;have o1:=Ql4 k0 k1;have ht2:=Qv9 k0 k1;have m5:=Qhz k0;obtain⟨top,hT⟩:∃top,u0*4294967296+u1=top:=⟨_,rfl⟩
 rw[hT]at f3 ht hq0 ht2 o1;obtain⟨U,hUU⟩:∃U,val u / 4294967296^j=U:=⟨_,rfl⟩;obtain⟨V,hVV⟩:∃V,val v=V:=⟨_,rfl⟩;rw[hVV]at e2 hUV hq0 ⊢;rw[hUU]at f3 hUV hq0 ⊢;have w1:=Aq (j+(n+2)) (by omega);have w2:IntKind.i64.wrap (((j+(n+2):Nat):Int)-1)=((j+(n+1):Nat):Int):=by rw[Pk (by omega)];omega
 have w3:IntKind.i64.wrap (((j+(n+2):Nat):Int)-2)=((j+n:Nat):Int):=by rw[Pk (by omega)];omega
 have w4:IntKind.i64.wrap (((n+2:Nat):Int)-1)=((n+1:Nat):Int):=by rw[Pk (by omega)];omega
 have w5:IntKind.i64.wrap (((n+2:Nat):Int)-2)=((n:Nat):Int):=by rw[Pk (by omega)];omega
 have m0:=Xg k0;have m1:=Xg k1;have m2:=Xg k2;have m3:=Xg l1;have m4:=Xg l2;have i1:j+(n+1)<u.length:=by omega
 have i2:j+n<u.length:=by omega
 have i3:n+1<n+2:=by omega
 have i4:n<n+2:=by omega
 have hdm:top / v1*v1+top % v1=top:=by rw[Nat.mul_comm];exact Nat.div_add_mod _ _
 have hmod:top % v1<v1:=Nat.mod_lt _ (by omega);have m6:top / v1 % 18446744073709551616=top / v1:=Nat.mod_eq_of_lt (Nat.lt_of_le_of_lt (Nat.div_le_self _ _) ht2);(repeat refine AW.seq_k fun K hK=>?_);refine AW.rg ?_;simp[Al];try (refine hK _ rfl ?_;clear hK K)
 (repeat refine AW.seq_k fun K hK=>?_);refine AW.rg ?_;simp[-Int.natCast_add,hn];try (refine hK _ rfl ?_;clear hK K)
 (repeat refine AW.seq_k fun K hK=>?_);refine AW.rd [0,1,2,3,4,5,6,7,8,9,10,11,12,13,14,15,16,17] Dm ?_;simp[-Int.natCast_mul,-Int.natCast_add,w1,w2,hy0,hy1,m0,m1,m5,o1,hj,i1];try (refine hK _ rfl ?_;clear hK K)
 (repeat refine AW.seq_k fun K hK=>?_);refine AW.rg ?_;simp[-Int.natCast_ediv,-Int.natCast_mul,-Int.natCast_add,w4,hn,i3,hx1,m3,hv1,m6];try (refine hK _ rfl ?_;clear hK K)
 (repeat refine AW.seq_k fun K hK=>?_);refine AW.rg ?_;simp[-Int.natCast_emod,-Int.natCast_mul,-Int.natCast_add,-Int.natCast_ediv,w4,hn,i3,hx1,m3,hv1];try (refine hK _ rfl ?_;clear hK K)
 refine AW.seq_ex (ι:=Nat) (fun q=>[(9,.int .u64 (q:Nat))]) (fun _=>Ac.emp) (fun q=>q<4294967296∧U<(q+1)*V∧q*V<U+V) ?_ ?_
 ·refine AW.block (AW.loopS (ι:=Nat × Nat) (fun z=>[(0,Ao u),(1,.int .i64 j),(2,Ao v),(7,.int .i64 (n+2:Nat)),(9,.int .u64 (z.1:Nat)),(10,.int .u64 (z.2:Nat))]) (fun _=>Ac.emp)
   (fun z=>z.1*v1+z.2=top∧z.2<4294967296∧U<(z.1+1)*V) (fun z=>z.1) (top / v1,top % v1) ⟨hdm,by omega,hq0⟩ rfl (by simp[-Int.natCast_mul,-Int.natCast_emod,-Int.natCast_ediv,-Int.natCast_add]) ?_)
  rintro⟨q,r⟩ ⟨h1,h2,h3⟩;simp only at h1 h2 h3;simp only;have m8:=Qhz h2;have o2:=Ql4 h2 k2
  -- the round that makes q less
  have less:U<q*V→1≤q:=by
   intro h;rcases Nat.eq_zero_or_pos q with rfl | h'
   ·simp at h
   ·exact h'
  refine AW.seq_ex (ι:=Unit) (fun _=>[(0,Ao u),(1,.int .i64 j),(2,Ao v),(7,.int .i64 (n+2:Nat)),(9,.int .u64 (q:Nat)),(10,.int .u64 (r:Nat))]) (fun _=>Ac.emp) (fun _=>U<q*V) ?_ ?_
  ·by_cases hq:4294967296≤q
   ·have hd:U<q*V:=by
     calc U<V*4294967296:=hUV
      _≤V*q:=Nat.mul_le_mul_left _ hq
      _=q*V:=Nat.mul_comm _ _
    (repeat refine AW.seq_k fun K hK=>?_);refine AW.rd [0,1,2,3,4,5,6,7,8,9,10,11,12,13,14,15,16,17,18,19,20,21,22,23] Dm ?_;simp[-Int.natCast_add,hq];try (refine hK _ rfl ?_;clear hK K)
    refine AW.yes ?_ rfl;refine AW.skip ?_;try simp[-Int.natCast_add]
    exact hd
   ·have hq':q<4294967296:=Nat.lt_of_not_le hq;have m7:=Qth (a:=q) (b:=v2) hq' l2;(repeat refine AW.seq_k fun K hK=>?_);refine AW.rd [0,1,2,3,4,5,6,7,8,9,10,11,12,13,14,15,16,17,18,19,20,21,22,23] Dm ?_;simp[-Int.natCast_mul,-Int.natCast_add,hq,w1,w3,w5,hn,hx2,hy2,m4,m2,m7,m8,o2,i2,i4];try (refine hK _ rfl ?_;clear hK K)
    (repeat refine AW.seq ?_);refine AW.cs (fun h=>?_) (fun h=>?_) rfl<;>simp at h
    ·refine AW.skip ?_;try simp[-Int.natCast_mul,-Int.natCast_add]
     exact Qmz e2 f3 r1 h1 h
    ·refine AW.exit ?_;try simp[-Int.natCast_mul,-Int.natCast_add]
     exact⟨hq',h3,Qgt e2 f3 r2 (Nat.one_le_iff_ne_zero.2 hv1) h1 hq' h⟩
  ·rintro _ hd;have q1:=less hd;obtain⟨q,rfl⟩:∃p,q=p+1:=⟨q-1,(Nat.sub_add_cancel q1).symm⟩;have w6:((q+1:Nat):Int)-1=(q:Int):=by rw[Int.natCast_add];exact Int.add_sub_cancel _ _
   have hqt:q≤top:=by
    rw[←h1,Nat.add_mul];exact Nat.le_trans (Nat.le_mul_of_pos_right q (Nat.pos_of_ne_zero hv1)) (Nat.le_trans (Nat.le_add_right _ _) (Nat.le_add_right _ _))
   have m9:q % 18446744073709551616=q:=Nat.mod_eq_of_lt (Nat.lt_of_le_of_lt hqt ht2);have m10:(r+v1) % 18446744073709551616=r+v1:=Qst h2 l1;have hs:q*v1+(r+v1)=top:=by rw[←h1,Nat.add_mul,Nat.one_mul];ac_rfl
   (repeat refine AW.seq ?_);refine AW.block ?_;(repeat refine AW.seq_k fun K hK=>?_);refine AW.rg ?_;simp[-Int.natCast_add,w6,m9];try (refine hK _ rfl ?_;clear hK K)
   (repeat refine AW.seq_k fun K hK=>?_);refine AW.rg ?_;simp[-Int.natCast_add,w4,hn,i3,hx1,m3,m10];try (refine hK _ rfl ?_;clear hK K)
   (repeat refine AW.seq_k fun K hK=>?_);refine AW.rg ?_;simp[-Int.natCast_add];try (refine hK _ rfl ?_;clear hK K)
   (repeat refine AW.seq ?_);refine AW.cs (fun hr=>?_) (fun hr=>?_) rfl<;>simp at hr
   ·refine AW.exit ?_;try simp[-Int.natCast_add]
    obtain⟨b1,b2⟩:=Qjm (u2:=u2) hs ht hr l2;exact⟨b1,hd,Qgt e2 f3 r2 (Nat.one_le_iff_ne_zero.2 hv1) hs b1 b2⟩
   ·refine AW.skip ?_;try simp[-Int.natCast_add]
    exact⟨q,r+v1,⟨hs,hr,hd⟩,Nat.lt_succ_self _,rfl,rfl⟩
 ·rintro q ⟨h1,h2,h3⟩;(repeat refine AW.seq_k fun K hK=>?_);refine AW.rg ?_;simp;try (refine hK _ rfl ?_;clear hK K)
  exact AW.ret (Ah rfl _ (.same _) ⟨⟨q,h1,h2,h3,rfl⟩,rfl⟩)
end Go.Av
end
section
namespace Go.Av
open Go.Proofs
theorem X9 {B W Q Uv X c bo W' x d r bo' p c' qv:Nat} (h1:W+Q=Uv+X*(c+bo)) (h2:W'+X*x=W+X*d) (h3:d+r+bo=x+B*bo') (h4:p=B*c'+r) (h5:p=qv+c) :
  W'+(Q+qv*X)=Uv+X*B*(c'+bo'):=by
 have g1:X*d+X*r+X*bo=X*x+X*B*bo':=by rw[←Nat.mul_add,←Nat.mul_add,h3,Nat.mul_add,Nat.mul_assoc]
 have g2:X*qv+X*c=X*B*c'+X*r:=by rw[←Nat.mul_add,←h5,h4,Nat.mul_add,Nat.mul_assoc]
 rw[Nat.mul_add]at h1;rw[Nat.mul_add,Nat.mul_comm qv X];omega
theorem Yy {B W Q X c W' x s c' vi:Nat} (h1:W+X*c=Q) (h2:W'+X*x=W+X*(s % B)) (h3:s=x+vi+c) (h4:c'=s / B) :
  W'+X*B*c'=Q+vi*X:=by
 have g1:X*(s % B)+X*B*c'=X*x+X*vi+X*c:=by
  rw[h4,Nat.mul_assoc,←Nat.mul_add,Nat.mod_add_div,h3,Nat.mul_add,Nat.mul_add]
 rw[Nat.mul_comm vi X];omega
theorem Mr {w u:List Nat} {K:Nat} (hw:Lb w) (hd:w.drop K=u.drop K) (hu:val u<4294967296^K) (hK:K≤w.length) (hl:w.length=u.length):val w<4294967296^K:=by
 have h1:val w=val (w.take K)+4294967296^(w.take K).length*val (w.drop K):=by rw[←Ha,List.take_append_drop]
 have h2:val u=val (u.take K)+4294967296^(u.take K).length*val (u.drop K):=by rw[←Ha,List.take_append_drop]
 rw[List.length_take,Nat.min_eq_left (by omega)]at h1 h2;have h3:val (u.drop K)=0:=by
  rcases Nat.eq_zero_or_pos (val (u.drop K))with h|h
  ·exact h
  ·have:4294967296^K*1≤4294967296^K*val (u.drop K):=Nat.mul_le_mul_left _ h;omega
 rw[h1,hd,h3];have:=Jq hw K;omega
theorem Qji {B u W V q:Nat} (hB:0<B) (h1:W+q*V*B=u) (h2:u / B<(q+1)*V):u / B / V=q∧W=u % (V*B):=by
 have h3:q*V≤u / B:=by rw[Nat.le_div_iff_mul_le hB];omega
 have e1:u / B / V=q:=Qg3 h3 h2;refine⟨e1,?_⟩;rw[Nat.div_div_eq_div_mul]at e1;have h4:=Nat.div_add_mod u (V*B);rw[Nat.mul_comm V B,e1]at h4;rw[Nat.mul_comm V B];have:B*V*q=q*V*B:=by ac_rfl
 omega
theorem Qiq {B XB u W1 W2 V q e:Nat} (hB:0<B) (h1:W1+q*V*B=u+XB) (h2:W1<XB) (h3:q*V<u / B+V) (h4:W2+XB*e=W1+V*B) (h5:W2<XB) (he:e≤1) (hV:V*B≤XB) :
  1≤q∧u / B / V=q-1∧W2=u % (V*B):=by
 have h6:u<q*V*B:=by omega
 have h7:u / B<q*V:=(Nat.div_lt_iff_lt_mul hB).2 h6;have h8:1≤q:=by
  rcases Nat.eq_zero_or_pos q with rfl|h
  ·simp at h7
  ·exact h
 obtain⟨q,rfl⟩:∃p,q=p+1:=⟨q-1,(Nat.sub_add_cancel h8).symm⟩;have e1:u / B / V=q:=by
  refine Qg3 ?_ h7;rw[Nat.add_mul]at h3;omega
 refine⟨h8,e1,?_⟩;rw[Nat.div_div_eq_div_mul]at e1;have h9:=Nat.div_add_mod u (V*B);rw[Nat.mul_comm V B,e1]at h9;rw[Nat.mul_comm V B];have a1:B*V*q=q*V*B:=by ac_rfl
 have a2:(q+1)*V*B=q*V*B+V*B:=by rw[Nat.add_mul,Nat.add_mul,Nat.one_mul]
 have hVB:0<B*V:=by
  rcases Nat.eq_zero_or_pos V with rfl|h
  ·simp at h7
  ·exact Nat.mul_pos hB h
 have a3:=Nat.mod_lt u hVB;have a4:V*B=B*V:=Nat.mul_comm _ _;rcases Nat.le_one_iff_eq_zero_or_eq_one.1 he with rfl | rfl
 ·omega
 ·omega
theorem Qmn {p:Nat} (hp:p<18446744073709551616):G9 .and .u64 (p:Int) 4294967295=((p % 4294967296:Nat):Int):=by
 have:=Qpf (a:=p) (b:=4294967295) hp (by omega);rw[show((4294967295:Nat):Int)=4294967295 from rfl]at this;rw[this,show(4294967295:Nat)=2^32-1 from rfl,Nat.and_two_pow_sub_one_eq_mod]
theorem Tg {x r bo:Nat} (hx:x<4294967296) (hr:r<4294967296) (hb:bo≤1):∃t d bo':Nat,((x:Int)-(r:Int)-(bo:Int)) % 18446744073709551616=(t:Int)∧t % 4294967296=d∧t / 9223372036854775808=bo'∧bo'≤1∧d<4294967296∧d+r+bo=x+4294967296*bo':=by
 by_cases h:r+bo≤x
 ·exact⟨x-r-bo,x-r-bo,0,by omega,by omega,by omega,by omega,by omega,by omega⟩
 ·exact⟨x+18446744073709551616-r-bo,x+4294967296-r-bo,1,by omega,by omega,by omega,by omega,by omega,by omega⟩
end Go.Av
end
section
namespace Go.Av
open Go.Proofs
theorem U6 {bl:Nat} {x:Fb} (h:∀v∈x.l,v.cells.all AV.one=true):∀(b:Nat) (y:Fb),(Ac.emp.set bl x) b=some y→∀v∈y.l,v.cells.all AV.one=true:=by
 intro b y hy;simp only[A9]at hy;split at hy
 ·cases hy;exact h
 ·cases hy
theorem Ys (bl:Nat) (w:List Nat):∀(b:Nat) (x:Fb),(Ac.emp.set bl ⟨124,1,Bp w⟩) b=some x→∀v∈x.l,v.cells.all AV.one=true :=
 U6 fun v hv=>by
  obtain⟨n,_,rfl⟩:=List.mem_map.1 hv;rfl
theorem Qit (u v:List Nat) (j n q bl:Nat) (hbu:Lb u) (hbv:Lb v) (hn:v.length=n) (hj:j+n<u.length) (hl:u.length<2^40) (hq:q<4294967296) (hlt:val u<val v*4294967296^(j+1))
  (hq1:val u / 4294967296^j<(q+1)*val v) (hq2:q*val v<val u / 4294967296^j+val v) :
  Ak Tryz.prog 168 [.osl bl 1 0 u.length,.int .i64 j,Ao v,.int .u64 q] (Ac.emp.set bl ⟨124,1,Bp u⟩) fun r m=>∃u':List Nat,r=.int .u32 ((val u / 4294967296^j / val v:Nat))∧m=Ac.emp.set bl ⟨124,1,Bp u'⟩∧Lb u'∧u'.length=u.length∧val u'=val u % (val v*4294967296^j):=by
 refine Ad Tryz.func168 rfl rfl 124 rfl (Nat.le_of_ble_eq_true rfl) ?_;have hV:val v<4294967296^n:=by rw[←hn];exact Lm hbv
 have hU:val u<4294967296^(j+n+1):=by
  calc val u<val v*4294967296^(j+1):=hlt
   _≤4294967296^n*4294967296^(j+1):=Nat.mul_le_mul_right _ (Nat.le_of_lt hV)
   _=4294967296^(j+n+1):=by rw[←Nat.pow_add];congr 1;omega
 have hVB:val v*4294967296^j≤4294967296^(j+n+1):=by
  calc val v*4294967296^j≤4294967296^n*4294967296^j:=Nat.mul_le_mul_right _ (Nat.le_of_lt hV)
   _=4294967296^(j+n):=by rw[←Nat.pow_add];congr 1;omega
   _≤4294967296^(j+n+1):=Nat.pow_le_pow_right (by omega) (by omega)
 have hB:0<4294967296^j:=Nat.pow_pos (by omega);have hq3:q % 4294967296=q:=Nat.mod_eq_of_lt hq;have wn:=Aq (j+n) (by omega);clear hlt;(repeat refine AW.seq_k fun K hK=>?_);refine AW.rg ?_;simp[-Int.natCast_ediv,-Int.natCast_pow,Al];try (refine hK _ rfl ?_;clear hK K)
 (repeat refine AW.seq_k fun K hK=>?_);refine AW.rg ?_;simp[-Int.natCast_ediv,-Int.natCast_pow];try (refine hK _ rfl ?_;clear hK K)
 refine AW.seq_ex (ι:=List Nat × Nat × Nat) (fun z=>[(0,.osl bl 1 0 u.length),(1,.int .i64 j),(2,Ao v),(3,.int .u64 (q:Nat)),(9,.int .u64 (z.2.1:Nat)),(10,.int .u64 (z.2.2:Nat))]) (fun z=>Ac.emp.set bl ⟨124,1,Bp z.1⟩)
  (fun z=>Lb z.1∧z.1.length=u.length∧z.2.1<4294967296∧z.2.2≤1∧z.1.drop (j+n+1)=u.drop (j+n+1)∧val z.1+q*val v*4294967296^j=val u+4294967296^(j+n)*(z.2.1+z.2.2)) ?_ ?_
 ·(repeat refine AW.seq_k fun K hK=>?_);refine AW.rg ?_;simp[-Int.natCast_ediv,-Int.natCast_pow,hn];try (refine hK _ rfl ?_;clear hK K)
  refine AW.block (AW.loopS (ι:=Nat × List Nat × Nat × Nat) (fun z=>[(0,.osl bl 1 0 u.length),(1,.int .i64 j),(2,Ao v),(3,.int .u64 (q:Nat)),(9,.int .u64 (z.2.2.1:Nat)),(10,.int .u64 (z.2.2.2:Nat)),(18,.int .i64 (n:Nat)),(19,.int .i64 (z.1:Nat))]) (fun z=>Ac.emp.set bl ⟨124,1,Bp z.2.1⟩)
   (fun z=>z.1≤n∧Lb z.2.1∧z.2.1.length=u.length∧z.2.2.1<4294967296∧z.2.2.2≤1∧z.2.1.drop (j+n+1)=u.drop (j+n+1)∧val z.2.1+q*val (v.take z.1)*4294967296^j=val u+4294967296^(j+z.1)*(z.2.2.1+z.2.2.2)) (fun z=>n-z.1) (0,u,0,0) ⟨by simp,hbu,rfl,by simp,by simp,rfl,by simp[val]⟩ rfl (by simp) ?_)
  rintro⟨i,w,c,bo⟩ ⟨h1,h2,h3,h4,h5,h6,h7⟩;simp only at h1 h2 h3 h4 h5 h6 h7;simp only;(repeat refine AW.seq_k fun K hK=>?_);refine AW.rg ?_;simp[-Int.natCast_ediv,-Int.natCast_pow];try (refine hK _ rfl ?_;clear hK K)
  (repeat refine AW.seq ?_);refine AW.cs (fun hi=>?_) (fun hi=>?_) rfl<;>simp at hi
  ·refine AW.skip ?_;try simp[-Int.natCast_ediv,-Int.natCast_pow]
   have wji:=Aq (j+i) (by omega);have wi1:=Aq (i+1) (by omega);have k1:=hbv.nth i;have k2:=h2.nth (j+i);have iv:i<v.length:=by omega
   have iu:j+i<w.length:=by omega
   have iu2:j+i<u.length:=by omega
   have hset:=Jg w (j+i);have ht:=A1 v i;generalize hvi:nth v i=vi at *;generalize hx:nth w (j+i)=x at *;have m1:=Xg k1;have m2:=Qth hq k1;have p1:q*vi+c<18446744073709551616:=by
    have:q*vi≤4294967295*4294967295:=Nat.mul_le_mul (by omega) (by omega);omega
   have m3:(q*vi+c) % 18446744073709551616=q*vi+c:=Nat.mod_eq_of_lt p1;have m4:=Xg k2;have m5:=Qmn p1;obtain⟨t,d,bo',b1,b2,b3,b4,b5,b6⟩:=Tg k2 (r:=(q*vi+c) % 4294967296) (Nat.mod_lt _ (by omega)) h5;(repeat refine AW.seq ?_);refine AW.block ?_;(repeat refine AW.seq_k fun K hK=>?_);refine AW.rg ?_;simp[-Int.natCast_ediv,-Int.natCast_pow];try (refine hK _ rfl ?_;clear hK K)
   (repeat refine AW.seq_k fun K hK=>?_);refine AW.rg ?_;simp[-Int.natCast_add,-Int.natCast_ediv,-Int.natCast_pow,-Int.natCast_mul,iv,hvi,m1,m2,m3];try (refine hK _ rfl ?_;clear hK K)
   (repeat refine AW.seq_k fun K hK=>?_);refine AW.rg ?_;simp[-Int.natCast_ediv,-Int.natCast_pow,-Int.natCast_add,-Int.natCast_mul];try (refine hK _ rfl ?_;clear hK K)
   (repeat refine AW.seq_k fun K hK=>?_);refine AW.rg ?_;simp[-Int.natCast_emod,-Int.natCast_add,-Int.natCast_ediv,-Int.natCast_mul,wji,hx,m4,m5,b1,iu,iu2];try (refine hK _ rfl ?_;clear hK K)
   (repeat refine AW.seq_k fun K hK=>?_);refine AW.rg ?_;simp[-Int.natCast_ediv,-Int.natCast_add,-Int.natCast_emod,-Int.natCast_mul,wji,b2,iu,iu2];try (refine hK _ rfl ?_;clear hK K)
   (repeat refine AW.seq_k fun K hK=>?_);refine AW.rg ?_;simp[-Int.natCast_mul,-Int.natCast_ediv,-Int.natCast_emod,-Int.natCast_add,b3];try (refine hK _ rfl ?_;clear hK K)
   (repeat refine AW.seq_k fun K hK=>?_);refine AW.rg ?_;simp[-Int.natCast_mul,-Int.natCast_ediv,-Int.natCast_emod,-Int.natCast_add,wi1];try (refine hK _ rfl ?_;clear hK K)
   refine⟨i+1,w.set (j+i) d,(q*vi+c) / 4294967296,bo',⟨hi,h2.set _ _ b5,by simpa using h3,Nat.div_lt_of_lt_mul p1,b4,by rw[List.drop_set_of_lt (by omega)];exact h6,?_⟩,by omega,rfl,rfl,rfl,rfl⟩;have e1:=hset d iu;have e2:=X9 h7 e1 b6 (Nat.div_add_mod (q*vi+c) 4294967296).symm rfl;rw[ht];rw[←Nat.add_assoc,Nat.pow_succ,←e2]
   congr 1
   rw[Nat.mul_add,Nat.add_mul,Nat.pow_add]
   congr 1
   ac_rfl
  ·refine AW.exit ?_;try simp[-Int.natCast_ediv,-Int.natCast_pow]
   have:i=n:=by omega
   subst this;rw[List.take_of_length_le (by omega)]at h7;exact⟨w,c,bo,⟨h2,h3,h4,h5,h6,h7⟩,rfl,rfl,rfl⟩
 rintro⟨w,c,bo⟩ ⟨h2,h3,h4,h5,h6,h7⟩;simp only at h2 h3 h4 h5 h6 h7;simp only;have k2:=h2.nth (j+n);have iu:j+n<w.length:=by omega
 have hset:=Jg w (j+n);generalize hx:nth w (j+n)=x at *;have m4:=Xg k2;obtain⟨t,d,bo',b1,b2,b3,b4,b5,b6⟩:=Tg k2 (r:=c) h4 h5;have e1:=hset d iu;have e2:val (w.set (j+n) d)+q*val v*4294967296^j=val u+4294967296^(j+n+1)*bo':=by
  have g:=X9 (qv:=0) (c':=0) h7 e1 b6 (p:=c) (by omega) (by omega);rw[Nat.zero_mul,Nat.add_zero,Nat.zero_add]at g;rw[Nat.pow_succ];exact g
 have hLb:Lb (w.set (j+n) d):=h2.set _ _ b5;have hdr:(w.set (j+n) d).drop (j+n+1)=u.drop (j+n+1):=by rw[List.drop_set_of_lt (by omega)];exact h6
 have hlen:(w.set (j+n) d).length=u.length:=by simpa using h3
 clear h2 h6 h7 hset e1 b6;(repeat refine AW.seq_k fun K hK=>?_);refine AW.rg ?_;simp[-Int.natCast_add,-Int.natCast_ediv,-Int.natCast_pow,hn,wn,hx,m4,b1,hj,iu];try (refine hK _ rfl ?_;clear hK K)
 (repeat refine AW.seq_k fun K hK=>?_);refine AW.rg ?_;simp[-Int.natCast_ediv,-Int.natCast_pow,-Int.natCast_add,hn,wn,b2,hj,iu];try (refine hK _ rfl ?_;clear hK K)
 generalize w.set (j+n) d=w1 at *;clear hx;refine AW.seq_ex (ι:=Unit) (fun _=>[(0,.osl bl 1 0 u.length),(1,.int .i64 j),(2,Ao v),(3,.int .u64 (q:Nat))]) (fun _=>Ac.emp.set bl ⟨124,1,Bp w1⟩) (fun _=>bo'=1) ?_ ?_
 ·(repeat refine AW.seq_k fun K hK=>?_);refine AW.rg ?_;simp[-Int.natCast_ediv,-Int.natCast_pow,-Int.natCast_add,b3];try (refine hK _ rfl ?_;clear hK K)
  (repeat refine AW.seq ?_);refine AW.cs (fun hb=>?_) (fun hb=>?_) rfl<;>simp at hb
  ·subst hb;(repeat refine AW.seq_k fun K hK=>?_);refine AW.rg ?_;simp[-Int.natCast_ediv,-Int.natCast_pow,-Int.natCast_add,hq3];try (refine hK _ rfl ?_;clear hK K)
   obtain⟨g1,g2⟩:=Qji hB (e2.trans (by rw[Nat.mul_zero,Nat.add_zero])) hq1;exact AW.ret (Cf rfl (Ys _ _) ⟨w1,by rw[g1];rfl,rfl,hLb,hlen,g2⟩)
  ·refine AW.skip ?_;try simp[-Int.natCast_add,-Int.natCast_ediv,-Int.natCast_pow]
   exact Nat.le_antisymm b4 (Nat.pos_of_ne_zero hb)
 rintro _ rfl;simp only[Nat.mul_one]at e2;have hlt1:=Mr hLb hdr hU (by omega) hlen;(repeat refine AW.seq_k fun K hK=>?_);refine AW.rg ?_;simp[-Int.natCast_ediv,-Int.natCast_pow];try (refine hK _ rfl ?_;clear hK K)
 refine AW.seq_ex (ι:=List Nat × Nat) (fun z=>[(0,.osl bl 1 0 u.length),(1,.int .i64 j),(2,Ao v),(3,.int .u64 (q:Nat)),(9,.int .u64 (z.2:Nat))]) (fun z=>Ac.emp.set bl ⟨124,1,Bp z.1⟩)
  (fun z=>Lb z.1∧z.1.length=u.length∧z.2≤1∧z.1.drop (j+n+1)=u.drop (j+n+1)∧val z.1+4294967296^(j+n)*z.2=val w1+val v*4294967296^j) ?_ ?_
 ·(repeat refine AW.seq_k fun K hK=>?_);refine AW.rg ?_;simp[-Int.natCast_ediv,-Int.natCast_pow,hn];try (refine hK _ rfl ?_;clear hK K)
  refine AW.block (AW.loopS (ι:=Nat × List Nat × Nat) (fun z=>[(0,.osl bl 1 0 u.length),(1,.int .i64 j),(2,Ao v),(3,.int .u64 (q:Nat)),(9,.int .u64 (z.2.2:Nat)),(81,.int .i64 (n:Nat)),(82,.int .i64 (z.1:Nat))]) (fun z=>Ac.emp.set bl ⟨124,1,Bp z.2.1⟩)
   (fun z=>z.1≤n∧Lb z.2.1∧z.2.1.length=u.length∧z.2.2≤1∧z.2.1.drop (j+n+1)=u.drop (j+n+1)∧val z.2.1+4294967296^(j+z.1)*z.2.2=val w1+val (v.take z.1)*4294967296^j) (fun z=>n-z.1) (0,w1,0) ⟨by simp,hLb,hlen,by simp,hdr,by simp[val]⟩ rfl (by simp) ?_)
  rintro⟨i,w,c⟩ ⟨h1,h2,h3,h5,h6,h7⟩;simp only at h1 h2 h3 h5 h6 h7;simp only;(repeat refine AW.seq_k fun K hK=>?_);refine AW.rg ?_;simp[-Int.natCast_ediv,-Int.natCast_pow];try (refine hK _ rfl ?_;clear hK K)
  (repeat refine AW.seq ?_);refine AW.cs (fun hi=>?_) (fun hi=>?_) rfl<;>simp at hi
  ·refine AW.skip ?_;try simp[-Int.natCast_ediv,-Int.natCast_pow]
   have wji:=Aq (j+i) (by omega);have wi1:=Aq (i+1) (by omega);have k1:=hbv.nth i;have k2:=h2.nth (j+i);have iv:i<v.length:=by omega
   have iu:j+i<w.length:=by omega
   have iu2:j+i<u.length:=by omega
   have hset:=Jg w (j+i);have ht:=A1 v i;generalize hvi:nth v i=vi at *;generalize hx:nth w (j+i)=x at *;have m1:=Xg k1;have m2:=Xg k2;have m3:=Qst k2 k1;have m4:(x+vi+c) % 18446744073709551616=x+vi+c:=by omega
   (repeat refine AW.seq ?_);refine AW.block ?_;(repeat refine AW.seq_k fun K hK=>?_);refine AW.rg ?_;simp[-Int.natCast_ediv,-Int.natCast_pow];try (refine hK _ rfl ?_;clear hK K)
   (repeat refine AW.seq_k fun K hK=>?_);refine AW.rdA bl [0,1,2,3,4,5,6,7,8,9,10,11,12,13,14,15] Dm (by simp) ?_;simp[-Int.natCast_ediv,-Int.natCast_pow,-Int.natCast_add,wji,iv,hvi,hx,m1,m2,m3,m4,iu,iu2];try (refine hK _ rfl ?_;clear hK K)
   (repeat refine AW.seq_k fun K hK=>?_);refine AW.rg ?_;simp[-Int.natCast_ediv,-Int.natCast_emod,-Int.natCast_pow,-Int.natCast_add,wji,iu,iu2];try (refine hK _ rfl ?_;clear hK K)
   (repeat refine AW.seq_k fun K hK=>?_);refine AW.rg ?_;simp[-Int.natCast_ediv,-Int.natCast_pow,-Int.natCast_add,-Int.natCast_emod];try (refine hK _ rfl ?_;clear hK K)
   (repeat refine AW.seq_k fun K hK=>?_);refine AW.rg ?_;simp[-Int.natCast_emod,-Int.natCast_add,-Int.natCast_ediv,wi1];try (refine hK _ rfl ?_;clear hK K)
   refine⟨i+1,w.set (j+i) ((x+vi+c) % 4294967296),(x+vi+c) / 4294967296,⟨hi,h2.set _ _ (Nat.mod_lt _ (by omega)),by simpa using h3,by omega,by rw[List.drop_set_of_lt (by omega)];exact h6,?_⟩,by omega,rfl,rfl,rfl⟩;have e1:=hset ((x+vi+c) % 4294967296) iu;have e3:=Yy h7 e1 rfl rfl;rw[ht,←Nat.add_assoc,Nat.pow_succ,e3,Nat.add_mul,Nat.pow_add,Nat.add_assoc]
   congr 2
   ac_rfl
  ·refine AW.exit ?_;try simp[-Int.natCast_ediv,-Int.natCast_pow]
   have:i=n:=by omega
   subst this;rw[List.take_of_length_le (by omega)]at h7;exact⟨w,⟨h2,h3,h5,h6,h7⟩,rfl⟩
 rintro⟨w,c⟩ ⟨h2,h3,h5,h6,h7⟩;simp only at h2 h3 h5 h6 h7;simp only;have k2:=h2.nth (j+n);have iu:j+n<w.length:=by omega
 have hset:=Jg w (j+n);generalize hx:nth w (j+n)=x at *;have m1:c % 4294967296=c:=by omega
 have e3:=hset ((x+c) % 4294967296) iu;have e4:=Yy (vi:=0) h7 e3 (by omega) rfl;rw[Nat.zero_mul,Nat.add_zero,←Nat.pow_succ]at e4;have hLb2:Lb (w.set (j+n) ((x+c) % 4294967296)):=h2.set _ _ (Nat.mod_lt _ (by omega));have hdr2:(w.set (j+n) ((x+c) % 4294967296)).drop (j+n+1)=u.drop (j+n+1):=by rw[List.drop_set_of_lt (by omega)];exact h6
 have hlen2:(w.set (j+n) ((x+c) % 4294967296)).length=u.length:=by simpa using h3
 have hlt2:=Mr hLb2 hdr2 hU (by omega) hlen2;obtain⟨q1,g1,g2⟩:=Qiq hB e2 hlt1 hq2 e4 hlt2 (by omega) hVB;obtain⟨q,rfl⟩:∃p,q=p+1:=⟨q-1,(Nat.sub_add_cancel q1).symm⟩;have w6:((q+1:Nat):Int)-1=(q:Int):=by rw[Int.natCast_add];exact Int.add_sub_cancel _ _
 have m7:q % 18446744073709551616=q:=by omega
 have m8:q % 4294967296=q:=by omega
 (repeat refine AW.seq_k fun K hK=>?_);refine AW.rg ?_;simp[-Int.natCast_ediv,-Int.natCast_emod,-Int.natCast_pow,-Int.natCast_add,hn,wn,hx,m1,hj,iu];try (refine hK _ rfl ?_;clear hK K)
 (repeat refine AW.seq_k fun K hK=>?_);refine AW.rg ?_;simp[-Int.natCast_ediv,-Int.natCast_pow,-Int.natCast_add,-Int.natCast_emod,w6,m7,m8];try (refine hK _ rfl ?_;clear hK K)
 exact AW.ret (Cf rfl (Ys _ _) ⟨_,by rw[g1];rfl,rfl,hLb2,hlen2,g2⟩)
end Go.Av
end
section
namespace Go.Av
open Go.Proofs
theorem Vh (x n:Nat) (hn:n<2^40) (lx:(Ap x).length<2^40):Ak Tryz.prog 167 [Ao (Ap x),.int .i64 n] Ac.emp fun v m=>v=Ao (Ap (x*2^n))∧m=Ac.emp:=by
 refine Ad Tryz.func167 rfl rfl 52 rfl (Nat.le_of_ble_eq_true rfl) ?_;have hw:=Aq (n / 32) (by omega);have hx:=A5 x;have hb:=Bb x;have hnth:=Fp x;generalize ha:Ap x=a at *;have hx2:x<4294967296^a.length:=by rw[←hx];exact Lm hb
 have hw1:=Aq (a.length+n / 32) (by omega);have hw3:=Aq (a.length+n / 32+1) (by omega);(repeat refine AW.seq ?_);refine AW.rg ?_;simp[Al];(repeat refine AW.seq ?_);refine AW.rg ?_;simp[-Int.natCast_mul,-Int.natCast_add,-Int.natCast_ediv,hw,hw1,hw3];refine⟨by omega,Ae.intro fun bl _=>?_⟩;generalize hN:a.length+n / 32+1=N at *;have hpow:2^(n % 32)*2^(32-n % 32)=4294967296:=by rw[←Nat.pow_add,show n % 32+(32-n % 32)=32 by omega]
 have hr:n % 32<32:=Nat.mod_lt _ (by omega);have hn2:2^n=4294967296^(n / 32)*2^(n % 32):=by rw[H3,←Nat.pow_add,Nat.div_add_mod]
 refine AW.seq_ex (ι:=List Nat) (fun o=>[(5,.osl bl 1 0 o.length)]) (fun o=>Ac.emp.set bl ⟨124,1,Bp o⟩) (fun o=>Lb o∧val o=x*2^n∧o.length<2^42) ?_ ?_
 ·(repeat refine AW.seq ?_);refine AW.rg ?_;simp[-Int.natCast_add,-Int.natCast_ediv];refine AW.block (AW.loopS (ι:=Nat × List Nat) (fun x=>[(0,Ao a),(1,.int .i64 n),(5,.osl bl 1 0 N),(16,.int .i64 a.length),(17,.int .i64 (x.1:Nat))]) (fun x=>Ac.emp.set bl ⟨124,1,Bp x.2⟩)
   (fun y=>y.1≤a.length∧Lb y.2∧y.2.length=N∧nth y.2 (y.1+n / 32)<2^(n % 32)∧val (y.2.take (y.1+n / 32+1))=x % 4294967296^y.1*2^n) (fun y=>a.length-y.1) (0,List.replicate N 0) ⟨by simp,Lb.rep _,by simp,by simp[Nat.pow_pos],by simp[Lu,Nat.mod_one]⟩ (by simp[C5]) (by simp[-Int.natCast_add,-Int.natCast_ediv]) ?_)
  rintro⟨i,o⟩ ⟨h1,h3,h4,h6,h5⟩;simp only at h1 h3 h4 h5 h6;simp only;(repeat refine AW.seq ?_);refine AW.rg ?_;simp;(repeat refine AW.seq ?_);refine AW.cs (fun hi=>?_) (fun hi=>?_) rfl<;>simp at hi
  ·refine AW.skip ?_;try simp
   have hw4:=Aq (i+n / 32) (by omega);have hw5:=Aq (i+n / 32+1) (by omega);have hw6:=Aq (i+1) (by omega);have hm:min (n % 32) 64=n % 32:=by omega
   have q1:=hb.nth i;have q2:=h3.nth (i+n / 32);(repeat refine AW.seq ?_);refine AW.block ?_;(repeat refine AW.seq ?_);refine AW.rg ?_;simp;generalize hd:nth a i=d at *;have q3:d*2^(n % 32)<18446744073709551616:=by
    have:2^(n % 32)≤2^32:=Nat.pow_le_pow_right (by omega) (by omega)
    calc d*2^(n % 32)≤d*2^32:=Nat.mul_le_mul_left _ this
     _<18446744073709551616:=by omega
   have q4:d*2^(n % 32) % 18446744073709551616=d*2^(n % 32):=Nat.mod_eq_of_lt q3;(repeat refine AW.seq ?_);refine AW.rg ?_;simp[-Int.natCast_mul,-Int.natCast_pow,-Int.natCast_emod,hi,hd,hm,q4];have q5:G9 .or .u32 (nth o (i+n / 32):Int) ((d*2^(n % 32) % 4294967296:Nat):Int)=((nth o (i+n / 32)+d*2^(n % 32) % 4294967296:Nat):Int):=by
    rw[Qmu q2 (Nat.mod_lt _ (by omega)),Qae (by omega) h6]
   have q6:i+n / 32<N:=by omega
   have q7:i+n / 32+1<N:=by omega
   (repeat refine AW.seq ?_);refine AW.rg ?_;simp[-Int.natCast_add,-Int.natCast_ediv,-Int.natCast_emod,-Int.natCast_mul,-Int.natCast_pow,hw,hw4,h4,q6,q5];(repeat refine AW.seq ?_);refine AW.rg ?_;simp[-Int.natCast_ediv,-Int.natCast_add,-Int.natCast_emod,-Int.natCast_mul,-Int.natCast_pow,hw,hw4,hw5,h4,q7];have q8:d*2^(n % 32) / 4294967296<2^(n % 32):=by
    refine Nat.div_lt_of_lt_mul ?_;exact Nat.mul_lt_mul_of_pos_right q1 (Nat.pow_pos (n:=n % 32) (show 0<2 by omega))
   have q9:nth o (i+n / 32)+d*2^(n % 32) % 4294967296<4294967296:=by
    rw[←Qae (show n % 32≤32 by omega) h6];exact Nat.or_lt_two_pow (n:=32) q2 (Nat.mod_lt _ (by omega))
   (repeat refine AW.seq ?_);refine AW.rg ?_;simp[-Int.natCast_add,-Int.natCast_ediv,-Int.natCast_emod,-Int.natCast_mul,-Int.natCast_pow,hw6];refine⟨i+1,_,⟨by omega,(h3.set _ _ q9).set _ _ (Nat.mod_lt _ (by omega)),by simpa using h4,?_,?_⟩,by omega,rfl,rfl⟩
   ·rw[show i+1+n / 32=i+n / 32+1 by omega,Ov _ (by rw[List.length_set];omega)];exact Nat.lt_of_le_of_lt (Nat.mod_le _ _) q8
   ·have q10:d*2^(n % 32) / 4294967296<4294967296:=Nat.lt_of_lt_of_le q8 (Nat.pow_le_pow_right (n:=2) (by omega) (show n % 32≤32 by omega));rw[show i+1+n / 32=i+n / 32+1 by omega,Bn _ _ _ (by rw[List.length_set];omega),Bn _ _ _ (by omega),Nat.mod_eq_of_lt q10];rw[A1]at h5;have c:=F9 (4294967296^(i+n / 32)) (d*2^(n % 32));rw[Io,←hnth,hd,Nat.add_mul,←h5,Nat.mul_add,Nat.pow_succ];have e:4294967296^i*d*2^n=4294967296^(i+n / 32)*(d*2^(n % 32)):=by
     rw[hn2,Nat.pow_add]
     ac_rfl
    rw[e,←c];omega
  ·refine AW.exit ?_;try simp
   refine⟨o,⟨h3,?_,by omega⟩,by simp[h4]⟩;have:i=a.length:=by omega
   subst this;rw[Ax o _ (by omega)]at h5;rw[h5,Nat.mod_eq_of_lt hx2]
 ·rintro o ⟨h1,h2,h3⟩;refine AW.toEmp [(5,Ao o)] (by simp;exact De (e:=124) (by simp)) ?_;(repeat refine AW.seq ?_);refine AW.rg ?_;simp;refine Aa.val (Cz o (by omega)) ?_;try simp
  exact AW.ret (Ah rfl _ (.same _) ⟨by simp[Ck h1,h2],rfl⟩)
theorem Qpi {h l:Nat} (hl:l<4294967296):l ||| h*4294967296=l+h*4294967296:=by
 rw[Nat.or_comm,Qak hl];omega
theorem Qbj (x n:Nat) (hn:n<2^40) (lx:(Ap x).length<2^40):Ak Tryz.prog 170 [Ao (Ap x),.int .i64 n] Ac.emp fun v m=>Qg2 (x / 2^n) v∧m=Ac.emp:=by
 refine Ad Tryz.func170 rfl rfl 85 rfl (Nat.le_of_ble_eq_true rfl) ?_;have hw:=Aq (n / 32) (by omega);have hx:=A5 x;have hb:=Bb x;have hnth:=Fp x;generalize ha:Ap x=a at *;have hx2:x<4294967296^a.length:=by rw[←hx];exact Lm hb
 (repeat refine AW.seq ?_);refine AW.rg ?_;simp[Al];(repeat refine AW.seq ?_);refine AW.rg ?_;simp[-Int.natCast_ediv,hw];(repeat refine AW.seq ?_);refine AW.rg ?_;simp[-Int.natCast_ediv];(repeat refine AW.seq ?_);refine AW.cs (fun h=>?_) (fun h=>?_) rfl<;>simp at h
 ·(repeat refine AW.seq ?_);refine AW.rg ?_;simp[-Int.natCast_ediv];have:x / 2^n=0:=by
   have h3:=Ln hb h;rw[H3]at h3;have h4:2^(32*(n / 32))≤2^n:=Nat.pow_le_pow_right (by omega) (by omega);exact Nat.div_eq_of_lt (by omega)
  exact AW.ret (Af [Ao [],.bool (decide (0<a.length))] rfl (by simp[-Int.natCast_ediv]) ⟨⟨decide (0<a.length),by simp[this,Bg]⟩,rfl⟩)
 ·refine AW.skip ?_;try simp[-Int.natCast_ediv]
  have htr:=Cz (a.take (n / 32)) (by simp;omega);generalize Fe (a.take (n / 32))=T at htr;have hm5:min (n % 32) 32=n % 32:=by omega
  refine AW.seq_ex (ι:=Bool) (fun t=>[(0,Ao a),(1,.int .i64 n),(6,.int .i64 (n / 32:Nat)),(7,.bool t)]) (fun _=>Ac.emp) (fun _=>True) ?_ ?_
  ·(repeat refine AW.seq ?_);refine AW.rd [0,1,2,3,4,5,6,7,8,9,10,11,12,13,14,15,16,17,18] Dm ?_;simp[-Int.natCast_ediv];refine⟨by omega,?_⟩;refine Aa.val htr ?_;try simp[-Int.natCast_emod,-Int.natCast_ediv]
   by_cases hz:T=[]
   ·subst hz;simp[h,hm5];exact Classical.em _
   ·simp[hz]
  ·rintro t -;have hw3:IntKind.i64.wrap ((a.length:Int)-((n / 32:Nat):Int))=((a.length-n / 32:Nat):Int):=by rw[Qc6 (by omega)];exact wi (by omega)
   (repeat refine AW.seq ?_);refine AW.rg ?_;simp[-Int.natCast_mul,-Int.natCast_ediv,hw,hw3];refine⟨by omega,Ae.intro fun bl _=>?_⟩;generalize hN:a.length-n / 32=N at *;simp only[C5];refine AW.seq_ex (ι:=List Nat) (fun o=>[(7,.bool t),(8,.osl bl 1 0 o.length)]) (fun o=>Ac.emp.set bl ⟨124,1,Bp o⟩) (fun o=>Lb o∧val o=x / 2^n∧o.length<2^41) ?_ ?_
   ·(repeat refine AW.seq ?_);refine AW.rg ?_;simp[-Int.natCast_ediv];refine AW.block (AW.loopS (ι:=Nat × List Nat) (fun x=>[(0,Ao a),(1,.int .i64 n),(6,.int .i64 (n / 32:Nat)),(7,.bool t),(8,.osl bl 1 0 N),(44,.int .i64 N),(45,.int .i64 (x.1:Nat))]) (fun x=>Ac.emp.set bl ⟨124,1,Bp x.2⟩)
     (fun y=>y.1≤N∧Lb y.2∧y.2.length=N∧val (y.2.take y.1)=x / 2^n % 4294967296^y.1) (fun x=>N-x.1) (0,List.replicate N 0) ⟨by simp,Lb.rep _,by simp,by simp[val,Nat.mod_one]⟩ rfl (by simp[-Int.natCast_ediv]) ?_)
    rintro⟨i,o⟩ ⟨h1,h3,h4,h5⟩;simp only at h1 h3 h4 h5;simp only;(repeat refine AW.seq ?_);refine AW.rg ?_;simp[-Int.natCast_ediv];(repeat refine AW.seq ?_);refine AW.cs (fun hi=>?_) (fun hi=>?_) rfl<;>simp at hi
    ·refine AW.skip ?_;try simp[-Int.natCast_ediv]
     have hw4:=Aq (i+n / 32) (by omega);have hw5:=Aq (i+n / 32+1) (by omega);have hw6:=Aq (i+1) (by omega);have q1:=hb.nth (i+n / 32);have q2:=hb.nth (i+n / 32+1);have m1:nth a (i+n / 32) % 18446744073709551616=nth a (i+n / 32):=by omega
     have m2:nth a (i+n / 32+1) % 18446744073709551616=nth a (i+n / 32+1):=by omega
     have m3:nth a (i+n / 32+1)*4294967296 % 18446744073709551616=nth a (i+n / 32+1)*4294967296:=by omega
     have m4:G9 .or .u64 (nth a (i+n / 32):Int) ((nth a (i+n / 32+1)*4294967296:Nat):Int)=((nth a (i+n / 32)+nth a (i+n / 32+1)*4294967296:Nat):Int):=by
      rw[Zy (by omega) (by omega),Qpi q1]
     (repeat refine AW.seq ?_);refine AW.block ?_;(repeat refine AW.seq ?_);refine AW.rg ?_;simp[-Int.natCast_ediv];(repeat refine AW.seq ?_);refine AW.rg ?_;simp[-Int.natCast_add,-Int.natCast_ediv,hw4,m1];refine⟨by omega,?_⟩;refine AW.seq_has [(0,Ao a),(1,.int .i64 n),(6,.int .i64 (n / 32:Nat)),(7,.bool t),(8,.osl bl 1 0 N),(9,.int .i64 (i:Nat)),(44,.int .i64 N),(45,.int .i64 (i:Nat)),(10,.int .u64 ((nth a (i+n / 32)+nth a (i+n / 32+1)*4294967296:Nat):Int))] (Ac.emp.set bl ⟨124,1,Bp o⟩) ?_ ?_
     ·(repeat refine AW.seq ?_);refine AW.rg ?_;simp[-Int.natCast_add,-Int.natCast_ediv,hw4,hw5];(repeat refine AW.seq ?_);refine AW.cs (fun hl=>?_) (fun hl=>?_) rfl<;>simp at hl
      ·(repeat refine AW.seq ?_);refine AW.rg ?_;simp[-Int.natCast_mul,-Int.natCast_add,-Int.natCast_ediv,hw4,hw5,m2,m3,m4,hl]
      ·refine AW.skip ?_;try simp[-Int.natCast_add,-Int.natCast_mul,-Int.natCast_ediv]
       simp[Mx hl]
     ·have hm:min (n % 32) 64=n % 32:=by omega
      have e:(nth a (i+n / 32)+nth a (i+n / 32+1)*4294967296) / 2^(n % 32) % 4294967296=x / 2^n / 4294967296^i % 4294967296:=by rw[←Sg,hnth,hnth]
      (repeat refine AW.seq ?_);refine AW.rg ?_;simp[-Int.natCast_emod,-Int.natCast_add,-Int.natCast_mul,-Int.natCast_ediv,hm,hi,h4,e];(repeat refine AW.seq ?_);refine AW.rg ?_;simp[-Int.natCast_add,-Int.natCast_ediv,-Int.natCast_emod,-Int.natCast_mul,-Int.natCast_pow,hw6];refine⟨i+1,_,⟨by omega,h3.set i _ (Nat.mod_lt _ (by omega)),by simpa using h4,?_⟩,by omega,rfl,rfl⟩;rw[Bn _ _ _ (by omega),h5,Io]
    ·have hiN:i=N:=by omega
     refine AW.exit ?_;try simp[-Int.natCast_ediv]
     refine⟨o,⟨h3,?_,by omega⟩,rfl,h4.symm⟩;rw[Ax o i (by omega)]at h5;rw[h5];apply Nat.mod_eq_of_lt;refine Nat.div_lt_of_lt_mul (Nat.lt_of_lt_of_le hx2 ?_);rw[H3,H3,←Nat.pow_add];exact Nat.pow_le_pow_right (by omega) (by omega)
   ·rintro o ⟨h1,h2,h3⟩;refine AW.toEmp [(7,.bool t),(8,Ao o)] (by simp;exact De (e:=124) (by simp)) ?_;(repeat refine AW.seq ?_);refine AW.rg ?_;simp;refine Aa.val (Cz o (by omega)) ?_;rw[Ck h1,h2];try simp
    exact AW.ret (Af [Ao (Ap (x / 2^n)),.bool t] rfl (by simp) ⟨⟨_,rfl⟩,rfl⟩)
end Go.Av
end
section
namespace Go.Av
open Go.Proofs
def Ka (x y:Int):Int:=if x<y then -1 else if x=y then 0 else 1
theorem Qjk (x y:Int) (hx:x.natAbs<Bj) (hy:y.natAbs<Bj):Ak Tryz.prog 204 [Ay x,Ay y] Ac.emp fun v m=>v=.tup [.int .i64 (Ka x y),.int .i64 0]∧m=Ac.emp:=by
 have hb:=Q4 x y hx hy;have lx:=Bi hx;have ly:=Bi hy;have hc:=Ik x.natAbs y.natAbs (by omega) (by omega);have ho:-1≤Hn x.natAbs y.natAbs∧Hn x.natAbs y.natAbs≤1:=by unfold Hn;split<;>(try split)<;>omega
 have hw:IntKind.i64.wrap (0-Hn x.natAbs y.natAbs)=0-Hn x.natAbs y.natAbs:=Pk (by omega);unfold Ay at *;refine Ad Tryz.func204 rfl rfl 32 rfl (Nat.le_of_ble_eq_true rfl) ?_;(repeat refine AW.seq ?_);refine AW.rgR [2,3] ?_;simp[Al];(repeat refine AW.seq ?_);refine AW.rg ?_;simp;refine Aa.val hb ?_;try simp
 refine AW.no ?_ rfl;refine AW.skip ?_;try simp
 (repeat refine AW.seq ?_);refine AW.rg ?_;simp;refine Aa.val hc ?_;try simp
 by_cases cx:x<0
 ·by_cases cy:y<0
  ·have e:Ka x y=0-Hn x.natAbs y.natAbs:=by
    unfold Ka Hn;split<;>split<;>(try split)<;>(try split)<;>omega
   (repeat refine AW.seq ?_);refine AW.block ?_;(repeat refine AW.seq ?_);refine AW.rg ?_;simp[cx,cy];refine AW.yes ?_ rfl;simp only[Int.zero_sub]at hw;(repeat refine AW.seq ?_);refine AW.rg ?_;simp[hw];exact AW.ret (Af [.int .i64 (Ka x y),.int .i64 0] rfl (by simp[e]) ⟨rfl,rfl⟩)
  ·have e:Ka x y=-1:=by unfold Ka;rw[if_pos (by omega)]
   (repeat refine AW.seq ?_);refine AW.block ?_;(repeat refine AW.seq ?_);refine AW.rg ?_;simp[cx,cy];refine AW.no ?_ rfl;(repeat refine AW.seq ?_);refine AW.rg ?_;simp[cx,cy];refine AW.yes ?_ rfl;(repeat refine AW.seq ?_);refine AW.rg ?_;simp;exact AW.ret (Af [.int .i64 (Ka x y),.int .i64 0] rfl (by simp[e]) ⟨rfl,rfl⟩)
 ·by_cases cy:y<0
  ·have e:Ka x y=1:=by unfold Ka;rw[if_neg (by omega),if_neg (by omega)]
   (repeat refine AW.seq ?_);refine AW.block ?_;(repeat refine AW.seq ?_);refine AW.rg ?_;simp[cx,cy];refine AW.no ?_ rfl;(repeat refine AW.seq ?_);refine AW.rg ?_;simp[cx,cy];refine AW.no ?_ rfl;(repeat refine AW.seq ?_);refine AW.rg ?_;simp[cx,cy];refine AW.yes ?_ rfl;(repeat refine AW.seq ?_);refine AW.rg ?_;simp;exact AW.ret (Af [.int .i64 (Ka x y),.int .i64 0] rfl (by simp[e]) ⟨rfl,rfl⟩)
  ·have e:Ka x y=Hn x.natAbs y.natAbs:=by
    unfold Ka Hn;split<;>split<;>(try split)<;>(try split)<;>omega
   refine AW.seq_has [(6,.int .i64 (Hn x.natAbs y.natAbs))] Ac.emp ?_ ?_
   ·(repeat refine AW.seq ?_);refine AW.block ?_;(repeat refine AW.seq ?_);refine AW.rg ?_;simp[cx,cy];refine AW.no ?_ rfl;(repeat refine AW.seq ?_);refine AW.rg ?_;simp[cx,cy];refine AW.no ?_ rfl;(repeat refine AW.seq ?_);refine AW.rg ?_;simp[cx,cy];refine AW.no ?_ rfl;refine AW.skip ?_;try simp
   ·(repeat refine AW.seq ?_);refine AW.rg ?_;simp;exact AW.ret (Af [.int .i64 (Ka x y),.int .i64 0] rfl (by simp[e]) ⟨rfl,rfl⟩)
end Go.Av
end
section
namespace Go.Av
open Go.Proofs
theorem Qdc (n:Int) (h1:-9223372036854775808≤n) (h2:n<9223372036854775808):Ak Tryz.prog 187 [.int .i64 n] Ac.emp fun v m=>v=Ay n∧m=Ac.emp:=by
 refine Ad Tryz.func187 rfl rfl 25 rfl (Nat.le_of_ble_eq_true rfl) ?_;have hB:Bj=4294967296^126*4294967296^2:=by rw[←Nat.pow_add];rfl
 have hp:1≤4294967296^126:=Nat.pow_pos (by omega);have hlt:n.natAbs<Bj:=by
  rw[hB]
  calc n.natAbs<1*4294967296^2:=by omega
   _≤_:=Nat.mul_le_mul_right _ hp
 (repeat refine AW.seq ?_);refine AW.rg ?_;simp[Al];refine Ae.intro fun b2 _=>?_;(repeat refine AW.seq ?_);refine AW.rg ?_;simp;refine AW.seq_has [(0,.int .i64 n),(2,.ptr b2 2 0 0),(3,.int .u64 (n.natAbs:Nat))] (Ac.emp.set b2 ⟨42,2,[.agg [.bool false,.nil]]⟩) ?_ ?_
 ·(repeat refine AW.seq ?_);refine AW.rg ?_;simp;(repeat refine AW.seq ?_);refine AW.cs (fun hn=>?_) (fun hn=>?_) rfl<;>simp at hn
  ·(repeat refine AW.seq ?_);refine AW.rg ?_;simp;omega
  ·refine AW.skip ?_;try simp
   omega
 have m1:n.natAbs / 4294967296<4294967296:=by omega
 have hv:val [n.natAbs % 4294967296,n.natAbs / 4294967296 % 4294967296]=n.natAbs:=by simp[val];omega
 have hr:=C3 (decide (n<0)) [n.natAbs % 4294967296,n.natAbs / 4294967296 % 4294967296] (fun z hz=>by
  simp at hz;rcases hz with rfl | rfl<;>exact Nat.mod_lt _ (by omega)) (by simp)
 have e:Bx (if decide (n<0)=true then -(val [n.natAbs % 4294967296,n.natAbs / 4294967296 % 4294967296]:Int) else val [n.natAbs % 4294967296,n.natAbs / 4294967296 % 4294967296])=.tup [Ay n,.int .i64 0]:=by
  rw[hv];have e2:(if decide (n<0)=true then -(n.natAbs:Int) else n.natAbs)=n:=by
   by_cases hn:n<0<;>simp[hn]<;>omega
  rw[e2,Bx,Ti hlt,S0 hlt]
 rw[e]at hr;(repeat refine AW.seq ?_);refine AW.rgR [20] ?_;simp[-Int.natCast_ediv,-Int.natCast_emod];refine Aa.val hr ?_;simp[-Int.natCast_ediv,-Int.natCast_emod,Ay];refine Ae.intro fun b4 h4=>?_;have e4:b2≠b4:=by rintro rfl;simp at h4
 (repeat refine AW.seq ?_);refine AW.rg ?_;simp[-Int.natCast_ediv,-Int.natCast_emod,e4];exact AW.ret (Af (vs:=[.agg [.bool (decide (n<0)),Ao (Ap n.natAbs)]]) [.agg [.bool (decide (n<0)),Ao (Ap n.natAbs)]] (by simp[-Int.natCast_ediv,-Int.natCast_emod]) (by simp[-Int.natCast_ediv,-Int.natCast_emod]) ⟨rfl,rfl⟩)
end Go.Av
end
section
namespace Go.Av
open Go.Proofs
section
variable {P:Program} {av:Nat→Prop} {f:FuncId} {args:List AV} {m:Ac} {k:AV→Ac→Prop}
theorem Aa.borrow {R:AV→Prop} (args':List AV) (hv:Eo m Ac.emp args args') (h:Ak P f args' Ac.emp fun v m'=>R v∧m'=Ac.emp) (hk:∀v,R v→v.flat=true∧k v m):Aa P av f args m k :=
 .inr ⟨args',_,⟨(Dn hv).1,(Dn hv).2⟩,h,fun v _ hr=>hk v hr.1⟩
theorem Aa.grant {R:AV→Fb→Prop} (b:Nat) (x:Fb) (hb:m b=some x) (ha:¬av b) (h:Ak P f args (Ac.emp.set b x) fun v m'=>∃x',R v x'∧m'=Ac.emp.set b x') (hk:∀v x',R v x'→k v (m.set b x')):Aa P av f args m k:=by
 refine .inl ⟨Ac.emp.set b x,_,fun c y hy=>?_,h,?_⟩
 ·simp only[A9,Az]at hy;split at hy
  ·rename_i e;subst e;cases hy;exact⟨hb,ha⟩
  ·cases hy
 ·rintro v g' ⟨x',hr,rfl⟩ _;have e:Ff m (Ac.emp.set b x) (Ac.emp.set b x')=m.set b x':=by
   funext c
   unfold Ff;simp only[A9,Az];by_cases hc:c=b
   ·simp[hc]
   ·simp[hc]
  rw[e];exact hk v x' hr
end
theorem Qf4 {y lb s:Nat} (hs:s≤32) (ht:y / 4294967296^lb*2^s<4294967296):y*2^s<4294967296^(lb+1):=by
 have hp:0<4294967296^lb:=Nat.pow_pos (by omega);have h1:y<4294967296^lb*(y / 4294967296^lb+1):=Nat.lt_mul_div_succ y hp;have h2:2^s*2^(32-s)=4294967296:=by rw[←Nat.pow_add,show s+(32-s)=32 by omega]
 generalize y / 4294967296^lb=t at *;have h3:t<2^(32-s):=by
  have:t*2^s<2^(32-s)*2^s:=by rw[Nat.mul_comm (2^(32-s)),h2];exact ht
  exact Nat.lt_of_mul_lt_mul_right this
 have h4:(t+1)*2^s≤4294967296:=by
  calc (t+1)*2^s≤2^(32-s)*2^s:=Nat.mul_le_mul_right _ h3
   _=4294967296:=by rw[Nat.mul_comm,h2]
 calc y*2^s<4294967296^lb*(t+1)*2^s:=Nat.mul_lt_mul_of_pos_right h1 (Nat.pow_pos (by omega))
  _=4294967296^lb*((t+1)*2^s):=Nat.mul_assoc _ _ _
  _≤4294967296^lb*4294967296:=Nat.mul_le_mul_left _ h4
  _=4294967296^(lb+1):=(Nat.pow_succ ..).symm
theorem Qp2 (x k:Nat):val (Ap x++List.replicate k 0)=x:=by rw[Ha,A5,Lu,Nat.mul_zero,Nat.add_zero]
theorem Qir {B x2 V O u O' q:Nat} (h1:x2=O*V+u) (hq:q=u / B / V) (hO:O'=O+B*q):x2=O'*V+u % (V*B):=by
 rw[hO,h1,hq,Nat.div_div_eq_div_mul,Nat.add_mul];have h:=Nat.div_add_mod u (V*B);rw[Nat.mul_comm B V];have e:B*(u / (V*B))*V=V*B*(u / (V*B)):=by ac_rfl
 omega
theorem Qe1 {x y s O u:Nat} (h:x*2^s=O*(y*2^s)+u) (hu:u<y*2^s):O=x / y∧u / 2^s=x % y:=by
 have hp:0<2^s:=Nat.pow_pos (by omega);have hy:0<y:=by
  rcases Nat.eq_zero_or_pos y with rfl|h
  ·simp at hu
  ·exact h
 have h1:x*2^s / (y*2^s)=O:=Nat.div_eq_of_lt_le (by omega) (by rw[Nat.add_mul];omega);rw[Nat.mul_div_mul_right _ _ hp]at h1;refine⟨h1.symm,?_⟩;have h2:u=x % y*2^s:=by
  have h3:=Nat.div_add_mod x y;rw[h1]at h3;have h4:x*2^s=O*(y*2^s)+x % y*2^s:=by
   rw[←Nat.mul_assoc,←Nat.add_mul]
   congr 1
   rw[Nat.mul_comm O y];exact h3.symm
  omega
 rw[h2,Nat.mul_div_cancel _ hp]
theorem Qbk (m:Ac) {b c:Nat} (h:b≠c) (x y z:Fb):((m.set b x).set c y).set b z=(m.set b z).set c y:=by
 rw[Qjb _ _ _ (Ne.symm h),set_set]
theorem Qmi {x y:Nat}:Hn x y<0↔x<y:=by unfold Hn;split<;>(try split)<;>omega
theorem S7 (x y:Nat) (hy:y≠0) (lx:(Ap x).length<2^30) (ly:(Ap y).length<2^30):Ak Tryz.prog 121 [Ao (Ap x),Ao (Ap y)] Ac.emp fun v m=>v=.tup [Ao (Ap (x / y)),Ao (Ap (x % y))]∧m=Ac.emp:=by
 refine Ad Tryz.func121 rfl rfl 94 rfl (Nat.le_of_ble_eq_true rfl) ?_;have hdx:=Fp x;have hdy:=Fp y;have hby:=Bb y;have hyl:y<4294967296^(Ap y).length:=A8.1 (Nat.le_refl _);have hxl:x<4294967296^(Ap x).length:=A8.1 (Nat.le_refl _);(repeat refine AW.seq_k fun K hK=>?_);refine AW.rg ?_;simp[Al];try (refine hK _ rfl ?_;clear hK K)
 refine AW.seq_ex (ι:=Unit) (fun _=>[(0,Ao (Ap x)),(1,Ao (Ap y)),(4,.nil),(5,.nil)]) (fun _=>Ac.emp) (fun _=>y≤x) ?_ ?_
 ·(repeat refine AW.seq_k fun K hK=>?_);refine AW.rg ?_;simp;try (refine hK _ rfl ?_;clear hK K)
  refine Aa.val (Ik x y (by omega) (by omega)) ?_;simp[Qmi];refine hK _ rfl ?_;clear hK K;(repeat refine AW.seq ?_);refine AW.cs (fun h=>?_) (fun h=>?_) rfl<;>simp at h
  ·(repeat refine AW.seq_k fun K hK=>?_);refine AW.rg ?_;simp;try (refine hK _ rfl ?_;clear hK K)
   rw[Nat.div_eq_of_lt h,Nat.mod_eq_of_lt h,Bg];exact AW.ret (Af [Ao [],Ao (Ap x)] rfl (by simp) ⟨rfl,rfl⟩)
  ·refine AW.skip ?_;try simp
   exact h
 rintro _ hxy;refine AW.seq_ex (ι:=Unit) (fun _=>[(0,Ao (Ap x)),(1,Ao (Ap y)),(4,.nil),(5,.nil)]) (fun _=>Ac.emp) (fun _=>(Ap y).length≠1) ?_ ?_
 ·(repeat refine AW.seq_k fun K hK=>?_);refine AW.rg ?_;simp;try (refine hK _ rfl ?_;clear hK K)
  (repeat refine AW.seq ?_);refine AW.cs (fun h=>?_) (fun h=>?_) rfl<;>simp at h
  ·have y1:y<4294967296:=by rw[h]at hyl;simpa using hyl
   have e0:nth (Ap y) 0=y:=by rw[hdy];simp;omega
   (repeat refine AW.seq_k fun K hK=>?_);refine AW.rg ?_;simp[h,e0];try (refine hK _ rfl ?_;clear hK K)
   refine Aa.val (Qfg x y hy y1 (by omega)) ?_;simp[-Int.natCast_emod];refine hK _ rfl ?_;clear hK K;(repeat refine AW.seq_k fun K hK=>?_);refine AW.rgR [34] ?_;simp[-Int.natCast_emod];try (refine hK _ rfl ?_;clear hK K)
   refine Aa.val (Cz [x % y] (by simp)) ?_;have hr:x % y<y:=Nat.mod_lt _ (by omega);have e:Fe [x % y]=Ap (x % y):=by
    rw[Ck (fun z hz=>by simp at hz;omega)];simp[val]
   rw[e];simp[-Int.natCast_emod];refine hK _ rfl ?_;clear hK K;exact AW.ret (Af [Ao (Ap (x / y)),Ao (Ap (x % y))] rfl (by simp[-Int.natCast_emod]) ⟨rfl,rfl⟩)
  ·refine AW.skip ?_;try simp
   exact h
 rintro _ hlen;have hlen0:(Ap y).length≠0:=by
  intro h;rw[h]at hyl;simp at hyl;omega
 obtain⟨n,hn⟩:∃n,(Ap y).length=n+2:=⟨(Ap y).length-2,by omega⟩;have hle:(Ap y).length≤(Ap x).length:=Lz hxy;rw[hn]at hyl;have htop:nth (Ap y) (n+1)=y / 4294967296^(n+1):=by rw[hdy,Pw hyl]
 have hvt:=Bb (y);have hl1:=hby.nth (n+1);have i1:n+1<n+2:=by omega
 have w1:IntKind.i64.wrap (((n+2:Nat):Int)-1)=((n+1:Nat):Int):=by rw[Pk (by omega)];omega
 (repeat refine AW.seq_k fun K hK=>?_);refine AW.rg ?_;simp[-Int.natCast_add,hn,w1,i1];try (refine hK _ rfl ?_;clear hK K)
 refine Aa.pure (Qqy (nth (Ap y) (n+1)) hl1) ?_;rintro _ ⟨s,s1,s2,s3,rfl⟩;rw[htop]at s2;have hv2:=Qf4 s1 s2;simp[-Int.natCast_add];refine hK _ rfl ?_;clear hK K;(repeat refine AW.seq_k fun K hK=>?_);refine AW.rg ?_;simp[-Int.natCast_add];try (refine hK _ rfl ?_;clear hK K)
 refine Aa.val (Vh y s (by omega) (by omega)) ?_;simp[-Int.natCast_add];refine hK _ rfl ?_;clear hK K;have hvl:(Ap (y*2^s)).length=n+2:=by
  have h1:(Ap (y*2^s)).length≤n+2:=A8.2 hv2;have h2:(Ap y).length≤(Ap (y*2^s)).length:=Lz (Nat.le_mul_of_pos_right y (Nat.pow_pos (by omega)));omega
 generalize hla:(Ap x).length=la at *;have w2:=Aq (la+1) (by omega);(repeat refine AW.seq_k fun K hK=>?_);refine AW.rg ?_;simp[-Int.natCast_mul,-Int.natCast_add,hla,w2];try (refine hK _ rfl ?_;clear hK K)
 refine⟨by omega,Ae.intro fun bu _=>?_⟩;simp only[C5];refine hK _ rfl ?_;clear hK K;(repeat refine AW.seq_k fun K hK=>?_);refine AW.rg ?_;simp[-Int.natCast_add];try (refine hK _ rfl ?_;clear hK K)
 refine Aa.val (Vh x s (by omega) (by omega)) ?_;simp[-Int.natCast_add];generalize hx2:x*2^s=x2 at *;generalize hy2:y*2^s=y2 at *;have hy2p:0<y2:=by rw[←hy2];exact Nat.mul_pos (Nat.pos_of_ne_zero hy) (Nat.pow_pos (by omega))
 have hxb:x2<4294967296^(la+1):=by
  rw[←hx2,Nat.pow_succ]
  calc x*2^s≤x*4294967296:=Nat.mul_le_mul_left _ (by rw[show(4294967296:Nat)=2^32 from rfl];exact Nat.pow_le_pow_right (by omega) s1)
   _<4294967296^la*4294967296:=Nat.mul_lt_mul_of_pos_right hxl (by omega)
 have hdl:(Ap x2).length≤la+1:=A8.2 hxb;have eU:(Bp (Ap x2)).take (la+1)++(Bp (List.replicate (la+1) 0)).drop (min (Ap x2).length (la+1))=Bp (Ap x2++List.replicate (la+1-(Ap x2).length) 0):=by
  rw[Nat.min_eq_left hdl,List.take_of_length_le (by simpa using hdl),Rz,List.drop_replicate,S1]
 rw[eU];have hU1:Lb (Ap x2++List.replicate (la+1-(Ap x2).length) 0):=by
  intro z hz;rcases List.mem_append.1 hz with h | h
  ·exact Bb _ z h
  ·exact Lb.rep _ z h
 have hU2:(Ap x2++List.replicate (la+1-(Ap x2).length) 0).length=la+1:=by simp;omega
 have hU3:=Qp2 x2 (la+1-(Ap x2).length);generalize Ap x2++List.replicate (la+1-(Ap x2).length) 0=U0 at *;clear eU;refine hK _ rfl ?_;clear hK K;have w3:IntKind.i64.wrap ((la:Int)-((n+2:Nat):Int))=((la-(n+2):Nat):Int):=by rw[Pk (by omega)];omega
 obtain⟨N,hN⟩:∃N,la-(n+2)=N:=⟨_,rfl⟩;have w4:=Aq (N+1) (by omega);rw[hN]at w3;(repeat refine AW.seq_k fun K hK=>?_);refine AW.rg ?_;simp[-Int.natCast_mul,-Int.natCast_add,hla,hn,w3,w4];try (refine hK _ rfl ?_;clear hK K)
 refine⟨by omega,Ae.intro fun bo hbo=>?_⟩;have hne:bu≠bo:=by rintro rfl;simp at hbo
 have hne':bo≠bu:=Ne.symm hne;simp only[C5];refine hK _ rfl ?_;clear hK K;have hlaN:la=N+(n+2):=by omega
 have hV2:nth (Ap y2) (n+1)≠0:=by
  intro h;have h1:=Fp y2 (n+1);rw[h,Pw (by rw[←hvl];exact A8.1 (Nat.le_refl _))]at h1;have h2:y2<4294967296^(n+1):=(Nat.div_eq_zero_iff_lt (Nat.pow_pos (by omega))).1 h1.symm;have:=A8.2 h2;omega
 have hvd:=A5 y2;have hbd:=Bb y2;have hinit:val U0<y2*4294967296^(N+1):=by
  rw[hU3];have hb:4294967296^(n+1)≤y2:=by
   rcases Nat.lt_or_ge y2 (4294967296^(n+1))with h|h
   ·have:=A8.2 h;omega
   ·exact h
  rw[←hx2,←hy2];have hyb:4294967296^(n+1)≤y:=by
   rcases Nat.lt_or_ge y (4294967296^(n+1))with h|h
   ·have:=A8.2 h;omega
   ·exact h
  calc x*2^s<4294967296^la*2^s:=Nat.mul_lt_mul_of_pos_right hxl (Nat.pow_pos (by omega))
   _=4294967296^(n+1)*4294967296^(N+1)*2^s:=by rw[←Nat.pow_add];congr 2;omega
   _≤y*4294967296^(N+1)*2^s:=Nat.mul_le_mul_right _ (Nat.mul_le_mul_right _ hyb)
   _=y*2^s*4294967296^(N+1):=by ac_rfl
 generalize hD:Ap y2=D at *;refine AW.seq_ex (ι:=List Nat × List Nat) (fun z=>[(8,.int .i64 s),(10,.osl bu 1 0 (la+1)),(11,.osl bo 1 0 (N+1))]) (fun z=>(Ac.emp.set bu ⟨124,1,Bp z.1⟩).set bo ⟨124,1,Bp z.2⟩)
  (fun z=>Lb z.1∧z.1.length=la+1∧Lb z.2∧z.2.length=N+1∧val z.1<y2∧x2=val z.2*y2+val z.1) ?_ ?_
 ·(repeat refine AW.seq_k fun K hK=>?_);refine AW.rg ?_;simp[-Int.natCast_add];try (refine hK _ rfl ?_;clear hK K)
  refine AW.block (AW.loopS (ι:=Nat × List Nat × List Nat) (fun z=>[(8,.int .i64 s),(9,Ao D),(10,.osl bu 1 0 (la+1)),(11,.osl bo 1 0 (N+1)),(63,.int .i64 (N+1:Nat)),(64,.int .i64 (z.1:Nat))]) (fun z=>(Ac.emp.set bu ⟨124,1,Bp z.2.1⟩).set bo ⟨124,1,Bp z.2.2⟩)
   (fun z=>z.1≤N+1∧Lb z.2.1∧z.2.1.length=la+1∧Lb z.2.2∧z.2.2.length=N+1∧val z.2.1<y2*4294967296^(N+1-z.1)∧x2=val z.2.2*y2+val z.2.1∧∀i,i<N+1-z.1→nth z.2.2 i=0) (fun z=>N+1-z.1) (0,U0,List.replicate (N+1) 0)
   ⟨by simp,hU1,hU2,Lb.rep _,by simp,hinit,by simp[Lu,hU3],by simp⟩ rfl (by simp[-Int.natCast_add]) ?_)
  rintro⟨k,u,o⟩ ⟨h1,h2,h3,h4,h5,h6,h7,h8⟩;simp only at h1 h2 h3 h4 h5 h6 h7 h8;simp only;(repeat refine AW.seq_k fun K hK=>?_);refine AW.rg ?_;simp[-Int.natCast_add];try (refine hK _ rfl ?_;clear hK K)
  (repeat refine AW.seq ?_);refine AW.cs (fun hk=>?_) (fun hk=>?_) rfl<;>simp at hk
  ·refine AW.skip ?_;try simp[-Int.natCast_add]
   obtain⟨j,hj⟩:∃j,N+1-k=j+1:=⟨N-k,by omega⟩;have hj2:N+1-(k+1)=j:=by omega
   rw[hj]at h6 h8;have w5:IntKind.i64.wrap (((N+1:Nat):Int)-1)=(N:Int):=by rw[Pk (by omega)];omega
   have w6:IntKind.i64.wrap ((N:Int)-(k:Int))=(j:Int):=by rw[Pk (by omega)];omega
   have w7:=Aq (k+1) (by omega);have hjN:j<N+1:=by omega
   have hdg:=Qf5 u D j n h2 hbd hvl (by omega) (by omega) hV2 (by rw[hvd];exact h6);rw[hvd]at hdg;(repeat refine AW.seq ?_);refine AW.block ?_;(repeat refine AW.seq_k fun K hK=>?_);refine AW.rg ?_;simp[-Int.natCast_add];try (refine hK _ rfl ?_;clear hK K)
   (repeat refine AW.seq_k fun K hK=>?_);refine AW.rg ?_;simp[-Int.natCast_add,w5,w6];try (refine hK _ rfl ?_;clear hK K)
   (repeat refine AW.seq_k fun K hK=>?_);refine AW.rg ?_;simp[-Int.natCast_add];try (refine hK _ rfl ?_;clear hK K)
   refine Aa.borrow [Ao u,.int .i64 j,Ao D] ⟨by rw[←h3];exact Fk (e:=124) (by simp[hne]) rfl,by simp⟩ hdg ?_;rintro _ ⟨q,q1,q2,q3,rfl⟩;refine⟨rfl,?_⟩;simp[-Int.natCast_add];have htk:=Qit u D j (n+2) q bu h2 hbd hvl (by omega) (by omega) q1 (by rw[hvd];exact h6) (by rw[hvd];exact q2) (by rw[hvd];exact q3);rw[hvd,h3]at htk;refine Aa.grant (R:=fun v x'=>∃u',v=.int .u32 ((val u / 4294967296^j / y2:Nat))∧x'=⟨124,1,Bp u'⟩∧Lb u'∧u'.length=la+1∧val u'=val u % (y2*4294967296^j)) bu ⟨124,1,Bp u⟩ (by simp[hne]) (by simp) (htk.mono ?_) ?_
   ·rintro v g ⟨u',e1,e2,e3,e4,e5⟩;exact⟨_,⟨u',e1,rfl,e3,e4,e5⟩,e2⟩
   rintro _ _ ⟨u',rfl,rfl,e3,e4,e5⟩;have hqd:val u / 4294967296^j / y2<4294967296:=by
    rw[Nat.div_div_eq_div_mul];refine Nat.div_lt_of_lt_mul ?_;rw[Nat.pow_succ]at h6
    calc val u<y2*(4294967296^j*4294967296):=h6
     _=4294967296^j*y2*4294967296:=by ac_rfl
   have hset:=Jg o j (val u / 4294967296^j / y2) (by omega);rw[h8 j (by omega),Nat.mul_zero,Nat.add_zero]at hset;have hst:=Qir (B:=4294967296^j) h7 rfl hset;generalize val u / 4294967296^j / y2=qd at *;simp[-Int.natCast_add,hne,hne',hjN,h5];rw[Qbk _ hne,set_set];(repeat refine AW.seq_k fun K hK=>?_);refine AW.rg ?_;simp[-Int.natCast_add,w7];try (refine hK _ rfl ?_;clear hK K)
   refine⟨k+1,u',o.set j qd,⟨hk,e3,e4,h4.set _ _ hqd,by simpa using h5,?_,?_,?_⟩,by omega,rfl,rfl⟩
   ·rw[hj2,e5];exact Nat.mod_lt _ (Nat.mul_pos hy2p (Nat.pow_pos (by omega)))
   ·rw[e5];exact hst
   ·intro i hi;rw[hj2]at hi;rw[Ox _ (by omega)];exact h8 i (by omega)
  ·refine AW.exit ?_;try simp[-Int.natCast_add]
   have e0:N+1-k=0:=by omega
   rw[e0,Nat.pow_zero,Nat.mul_one]at h6;exact⟨u,o,⟨h2,h3,h4,h5,h6,h7⟩,rfl⟩
 rintro⟨u,o⟩ ⟨h2,h3,h4,h5,h6,h7⟩;simp only at h2 h3 h4 h5 h6 h7;simp only;rw[←hx2,←hy2]at h7;rw[←hy2]at h6;obtain⟨g1,g2⟩:=Qe1 h7 h6;refine AW.toEmp [(8,.int .i64 s),(10,Ao u),(11,Ao o)] (by
  simp;exact⟨by rw[←h3];exact Fk (e:=124) (by simp[hne]) rfl,by rw[←h5];exact Fk (e:=124) (by simp) rfl⟩) ?_
 (repeat refine AW.seq_k fun K hK=>?_);refine AW.rg ?_;simp;try (refine hK _ rfl ?_;clear hK K)
 refine Aa.val (Cz u (by omega)) ?_;rw[Ck h2];simp;refine Aa.pure (Qbj (val u) s (by omega) (by have:=A8.2 (Lm h2);omega)) ?_;rintro _ ⟨t,rfl⟩;rw[g2];simp;refine hK _ rfl ?_;clear hK K;(repeat refine AW.seq_k fun K hK=>?_);refine AW.rg ?_;simp;try (refine hK _ rfl ?_;clear hK K)
 refine Aa.val (Cz o (by omega)) ?_;rw[Ck h4,g1];simp;refine hK _ rfl ?_;clear hK K;exact AW.ret (Af [Ao (Ap (x / y)),Ao (Ap (x % y))] rfl (by simp) ⟨rfl,rfl⟩)
end Go.Av
end
